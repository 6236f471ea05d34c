/- Helpers of this claim, part 1: engine, translated functions, contracts, plain laws. -/
import Derived.Test.YtelplojmbjnplaaGreatB0
import Derived.Laws.StructEq
set_option linter.unusedSimpArgs false
set_option linter.unusedVariables false
namespace Go.Proofs.YtelplojmbjnplaaGreat
open Lyc Go
set_option maxRecDepth 100000
@[go_sem] theorem fV:AB Tryz.prog 1=some (.nilFunc):=by kernel_rfl
@[go_sem] theorem ty1:Ag Tryz.prog 1=some 11∧Ak Tryz.prog 1=some 1∧Ap Tryz.prog 1=some 8∧Al Tryz.prog 1=some false:=by and_intros<;>kernel_rfl
@[go_sem] theorem fD:AB Tryz.prog 3=some (.int .i64 0):=by kernel_rfl
@[go_sem] theorem ty3:Ag Tryz.prog 3=some 8∧Ak Tryz.prog 3=some 1∧Ap Tryz.prog 3=some 8∧Al Tryz.prog 3=some false∧Cq Tryz.prog 3=some .i64:=by and_intros<;>kernel_rfl
@[go_sem] theorem bP:AB Tryz.prog 4=some (.bool false):=by kernel_rfl
@[go_sem] theorem ty4:Ag Tryz.prog 4=some 9∧Ak Tryz.prog 4=some 1∧Ap Tryz.prog 4=some 1∧Al Tryz.prog 4=some false:=by and_intros<;>kernel_rfl
@[go_sem] theorem ty5:Ag Tryz.prog 5=some 8∧Ak Tryz.prog 5=some 1∧Ap Tryz.prog 5=some 1∧Al Tryz.prog 5=some false∧Cq Tryz.prog 5=some .u8:=by and_intros<;>kernel_rfl
@[go_sem] theorem ty9:Ag Tryz.prog 9=some 3∧Ak Tryz.prog 9=some 1∧Ap Tryz.prog 9=some 16∧Al Tryz.prog 9=some false:=by and_intros<;>kernel_rfl
@[go_sem] theorem dG:Ag Tryz.prog 21=some 8∧Ak Tryz.prog 21=some 1∧Ap Tryz.prog 21=some 4∧Al Tryz.prog 21=some false∧Cq Tryz.prog 21=some .i32:=by and_intros<;>kernel_rfl
@[go_sem] theorem cE:Ag Tryz.prog 23=some 7∧Ak Tryz.prog 23=some 2∧Ap Tryz.prog 23=some 16∧Al Tryz.prog 23=some true∧BP Tryz.prog 23=some [(0,8),(1,8)]∧AE Tryz.prog 23=some 2∧Aj Tryz.prog 23 0=some (0,1)∧tfo Tryz.prog 23 0=some 0∧Aj Tryz.prog 23 1=some (1,1)∧tfo Tryz.prog 23 1=some 1∧AT Tryz.prog 23=some [(0,1),(1,1)]:=by and_intros<;>kernel_rfl
@[go_sem] theorem cH:AH Tryz.prog 24=some 6:=by kernel_rfl
@[go_sem] theorem fR:Ag Tryz.prog 24=some 1∧Ak Tryz.prog 24=some 1∧Ap Tryz.prog 24=some 24∧Al Tryz.prog 24=some false∧tbs Tryz.prog 24=some (34,6,[.int .i64 0,.int .i64 0,.int .i64 0,.string ⟨#[]⟩,.int .i64 0,.int .i64 0])∧Ay Tryz.prog 24=some 34:=by and_intros<;>kernel_rfl
@[go_sem] theorem eu:Ag Tryz.prog 28=some 4∧Ak Tryz.prog 28=some 1∧Ap Tryz.prog 28=some 8∧Al Tryz.prog 28=some false∧Ay Tryz.prog 28=some 81:=by and_intros<;>kernel_rfl
@[go_sem] theorem cn:Ag Tryz.prog 31=some 10∧Ak Tryz.prog 31=some 1∧Ap Tryz.prog 31=some 16∧Al Tryz.prog 31=some false:=by and_intros<;>kernel_rfl
@[go_sem] theorem dy:AB Tryz.prog 34=some (.agg #[.int .i64 0,.int .i64 0,.int .i64 0,.string ⟨#[]⟩,.int .i64 0,.int .i64 0]):=by kernel_rfl
@[go_sem] theorem hO:Ag Tryz.prog 34=some 7∧Ak Tryz.prog 34=some 6∧Ap Tryz.prog 34=some 56∧Al Tryz.prog 34=some true∧BP Tryz.prog 34=some [(0,8),(1,8),(2,8),(3,3),(4,8),(5,8)]∧AE Tryz.prog 34=some 6∧Aj Tryz.prog 34 0=some (0,1)∧tfo Tryz.prog 34 0=some 0∧Aj Tryz.prog 34 1=some (1,1)∧tfo Tryz.prog 34 1=some 1∧Aj Tryz.prog 34 2=some (2,1)∧tfo Tryz.prog 34 2=some 2∧Aj Tryz.prog 34 3=some (3,1)∧tfo Tryz.prog 34 3=some 3∧Aj Tryz.prog 34 4=some (4,1)∧tfo Tryz.prog 34 4=some 4∧Aj Tryz.prog 34 5=some (5,1)∧tfo Tryz.prog 34 5=some 5∧AT Tryz.prog 34=some [(0,1),(1,1),(2,1),(3,1),(4,1),(5,1)]:=by and_intros<;>kernel_rfl
@[go_sem] theorem Dz:AH Tryz.prog 36=some 4:=by kernel_rfl
@[go_sem] theorem Kq:BF Tryz.prog 36=some (43,4,8):=by kernel_rfl
@[go_sem] theorem EM:tmk Tryz.prog 36=some (43,4,[.int .i32 0,.int .u8 0,.int .u8 0,.int .u8 0],8):=by kernel_rfl
@[go_sem] theorem fk:Ag Tryz.prog 36=some 1∧Ak Tryz.prog 36=some 1∧Ap Tryz.prog 36=some 24∧Al Tryz.prog 36=some false∧tbs Tryz.prog 36=some (43,4,[.int .i32 0,.int .u8 0,.int .u8 0,.int .u8 0])∧Ay Tryz.prog 36=some 43:=by and_intros<;>kernel_rfl
@[go_sem] theorem fX:AB Tryz.prog 38=some (.agg #[.int .i64 0,.int .i64 0,.slice none 0 0]):=by kernel_rfl
@[go_sem] theorem gI:Ag Tryz.prog 38=some 7∧Ak Tryz.prog 38=some 3∧Ap Tryz.prog 38=some 40∧Al Tryz.prog 38=some true∧AE Tryz.prog 38=some 3∧Aj Tryz.prog 38 0=some (0,1)∧tfo Tryz.prog 38 0=some 0∧Aj Tryz.prog 38 1=some (1,1)∧tfo Tryz.prog 38 1=some 1∧Aj Tryz.prog 38 2=some (2,1)∧tfo Tryz.prog 38 2=some 2∧AT Tryz.prog 38=some [(0,1),(1,1),(2,1)]:=by and_intros<;>kernel_rfl
@[go_sem] theorem fb:AB Tryz.prog 43=some (.agg #[.int .i32 0,.int .u8 0,.int .u8 0,.int .u8 0]):=by kernel_rfl
@[go_sem] theorem ig:Ag Tryz.prog 43=some 7∧Ak Tryz.prog 43=some 4∧Ap Tryz.prog 43=some 8∧Al Tryz.prog 43=some true∧BP Tryz.prog 43=some [(0,8),(1,8),(2,8),(3,8)]∧AE Tryz.prog 43=some 4∧Aj Tryz.prog 43 0=some (0,1)∧tfo Tryz.prog 43 0=some 0∧Aj Tryz.prog 43 1=some (1,1)∧tfo Tryz.prog 43 1=some 1∧Aj Tryz.prog 43 2=some (2,1)∧tfo Tryz.prog 43 2=some 2∧Aj Tryz.prog 43 3=some (3,1)∧tfo Tryz.prog 43 3=some 3∧AT Tryz.prog 43=some [(0,1),(1,1),(2,1),(3,1)]:=by and_intros<;>kernel_rfl
@[go_sem] theorem cz:AB Tryz.prog 45=some (.slice none 0 0):=by kernel_rfl
@[go_sem] theorem iw:AH Tryz.prog 45=some 4:=by kernel_rfl
@[go_sem] theorem VP:BF Tryz.prog 45=some (49,4,32):=by kernel_rfl
@[go_sem] theorem bN:Ag Tryz.prog 45=some 1∧Ak Tryz.prog 45=some 1∧Ap Tryz.prog 45=some 24∧Al Tryz.prog 45=some false∧tbs Tryz.prog 45=some (49,4,[.int .i64 0,.int .i64 0,.int .i64 0,.int .i64 0])∧Ay Tryz.prog 45=some 49:=by and_intros<;>kernel_rfl
@[go_sem] theorem cJ:AB Tryz.prog 49=some (.agg #[.int .i64 0,.int .i64 0,.int .i64 0,.int .i64 0]):=by kernel_rfl
@[go_sem] theorem hZ:Ag Tryz.prog 49=some 7∧Ak Tryz.prog 49=some 4∧Ap Tryz.prog 49=some 32∧Al Tryz.prog 49=some true∧BP Tryz.prog 49=some [(0,8),(1,8),(2,8),(3,8)]∧AE Tryz.prog 49=some 4∧Aj Tryz.prog 49 0=some (0,1)∧tfo Tryz.prog 49 0=some 0∧Aj Tryz.prog 49 1=some (1,1)∧tfo Tryz.prog 49 1=some 1∧Aj Tryz.prog 49 2=some (2,1)∧tfo Tryz.prog 49 2=some 2∧Aj Tryz.prog 49 3=some (3,1)∧tfo Tryz.prog 49 3=some 3∧AT Tryz.prog 49=some [(0,1),(1,1),(2,1),(3,1)]:=by and_intros<;>kernel_rfl
@[go_sem] theorem bH:Ag Tryz.prog 52=some 8∧Ak Tryz.prog 52=some 1∧Ap Tryz.prog 52=some 8∧Al Tryz.prog 52=some false∧Cq Tryz.prog 52=some .u64:=by and_intros<;>kernel_rfl
@[go_sem] theorem eE:AB Tryz.prog 53=some (.slice none 0 0):=by kernel_rfl
@[go_sem] theorem ie:AH Tryz.prog 53=some 5:=by kernel_rfl
@[go_sem] theorem Zw:BF Tryz.prog 53=some (59,5,40):=by kernel_rfl
@[go_sem] theorem fT:Ag Tryz.prog 53=some 1∧Ak Tryz.prog 53=some 1∧Ap Tryz.prog 53=some 24∧Al Tryz.prog 53=some false∧tbs Tryz.prog 53=some (59,5,[.int .i64 0,.int .i64 0,.int .i64 0,.int .i64 0,.int .i64 0])∧Ay Tryz.prog 53=some 59:=by and_intros<;>kernel_rfl
@[go_sem] theorem cR:AB Tryz.prog 59=some (.agg #[.int .i64 0,.int .i64 0,.int .i64 0,.int .i64 0,.int .i64 0]):=by kernel_rfl
@[go_sem] theorem dj:Ag Tryz.prog 59=some 7∧Ak Tryz.prog 59=some 5∧Ap Tryz.prog 59=some 40∧Al Tryz.prog 59=some true∧AE Tryz.prog 59=some 5∧Aj Tryz.prog 59 0=some (0,1)∧tfo Tryz.prog 59 0=some 0∧Aj Tryz.prog 59 1=some (1,4)∧tfo Tryz.prog 59 1=some 1∧AT Tryz.prog 59=some [(0,1),(1,4)]:=by and_intros<;>kernel_rfl
@[go_sem] theorem gO:Ag Tryz.prog 71=some 2∧Ak Tryz.prog 71=some 2∧Ap Tryz.prog 71=some 16∧Al Tryz.prog 71=some true∧Bc Tryz.prog 71=some (2,1)∧AE Tryz.prog 71=some 2∧Ay Tryz.prog 71=some 3∧Cm Tryz.prog 71=some 2:=by and_intros<;>kernel_rfl
@[go_sem] theorem F4:Ag Tryz.prog 76=some 5∧Ak Tryz.prog 76=some 1∧Ap Tryz.prog 76=some 8∧Al Tryz.prog 76=some false∧Ay Tryz.prog 76=some 82:=by and_intros<;>kernel_rfl
@[go_sem] theorem iv:Ag Tryz.prog 78=some 7∧Ak Tryz.prog 78=some 2∧Ap Tryz.prog 78=some 2∧Al Tryz.prog 78=some true∧BP Tryz.prog 78=some [(0,9),(1,9)]∧AE Tryz.prog 78=some 2∧Aj Tryz.prog 78 0=some (0,1)∧tfo Tryz.prog 78 0=some 0∧Aj Tryz.prog 78 1=some (1,1)∧tfo Tryz.prog 78 1=some 1∧AT Tryz.prog 78=some [(0,1),(1,1)]:=by and_intros<;>kernel_rfl
@[go_sem] theorem gm:AH Tryz.prog 79=some 3:=by kernel_rfl
@[go_sem] theorem ML:BF Tryz.prog 79=some (198,3,32):=by kernel_rfl
@[go_sem] theorem du:Ag Tryz.prog 79=some 1∧Ak Tryz.prog 79=some 1∧Ap Tryz.prog 79=some 24∧Al Tryz.prog 79=some false∧tbs Tryz.prog 79=some (198,3,[.int .i64 0,.int .i64 0,.string ⟨#[]⟩])∧Ay Tryz.prog 79=some 198:=by and_intros<;>kernel_rfl
@[go_sem] theorem fy:AB Tryz.prog 81=some (.agg #[.int .i64 0,.int .i64 0,.int .i64 0,.map none,.int .i64 0,.bool false,.bool false,.int .i64 0,.slice none 0 0,.int .i64 0]):=by kernel_rfl
@[go_sem] theorem cK:Ag Tryz.prog 81=some 7∧Ak Tryz.prog 81=some 10∧Ap Tryz.prog 81=some 88∧Al Tryz.prog 81=some true∧AE Tryz.prog 81=some 10∧Aj Tryz.prog 81 0=some (0,1)∧tfo Tryz.prog 81 0=some 0∧Aj Tryz.prog 81 1=some (1,1)∧tfo Tryz.prog 81 1=some 1∧Aj Tryz.prog 81 2=some (2,1)∧tfo Tryz.prog 81 2=some 2∧Aj Tryz.prog 81 3=some (3,1)∧tfo Tryz.prog 81 3=some 3∧Aj Tryz.prog 81 4=some (4,1)∧tfo Tryz.prog 81 4=some 4∧Aj Tryz.prog 81 5=some (5,2)∧tfo Tryz.prog 81 5=some 5∧Aj Tryz.prog 81 6=some (7,1)∧tfo Tryz.prog 81 6=some 7∧Aj Tryz.prog 81 7=some (8,1)∧tfo Tryz.prog 81 7=some 8∧Aj Tryz.prog 81 8=some (9,1)∧tfo Tryz.prog 81 8=some 9∧AT Tryz.prog 81=some [(0,1),(1,1),(2,1),(3,1),(4,1),(5,2),(7,1),(8,1),(9,1)]:=by and_intros<;>kernel_rfl
@[go_sem] theorem fO:Ag Tryz.prog 82=some 4∧Ak Tryz.prog 82=some 1∧Ap Tryz.prog 82=some 8∧Al Tryz.prog 82=some false∧Ay Tryz.prog 82=some 106:=by and_intros<;>kernel_rfl
@[go_sem] theorem bA:Ag Tryz.prog 86=some 8∧Ak Tryz.prog 86=some 1∧Ap Tryz.prog 86=some 8∧Al Tryz.prog 86=some false∧Cq Tryz.prog 86=some .i64:=by and_intros<;>kernel_rfl
@[go_sem] theorem eP:AB Tryz.prog 98=some (.slice none 0 0):=by kernel_rfl
@[go_sem] theorem cW:AH Tryz.prog 98=some 1:=by kernel_rfl
@[go_sem] theorem X4:BF Tryz.prog 98=some (3,1,8):=by kernel_rfl
@[go_sem] theorem fx:Ag Tryz.prog 98=some 1∧Ak Tryz.prog 98=some 1∧Ap Tryz.prog 98=some 24∧Al Tryz.prog 98=some false∧tbs Tryz.prog 98=some (3,1,[.int .i64 0])∧Ay Tryz.prog 98=some 3:=by and_intros<;>kernel_rfl
@[go_sem] theorem eB:Ag Tryz.prog 103=some 4∧Ak Tryz.prog 103=some 1∧Ap Tryz.prog 103=some 8∧Al Tryz.prog 103=some false∧Ay Tryz.prog 103=some 166:=by and_intros<;>kernel_rfl
@[go_sem] theorem db:Ag Tryz.prog 104=some 5∧Ak Tryz.prog 104=some 1∧Ap Tryz.prog 104=some 8∧Al Tryz.prog 104=some false∧Ay Tryz.prog 104=some 144:=by and_intros<;>kernel_rfl
@[go_sem] theorem cC:AB Tryz.prog 106=some (.agg #[.pointer none,.int .i64 0,.int .i64 0,.map none]):=by kernel_rfl
@[go_sem] theorem iA:Ag Tryz.prog 106=some 7∧Ak Tryz.prog 106=some 4∧Ap Tryz.prog 106=some 32∧Al Tryz.prog 106=some true∧AE Tryz.prog 106=some 4∧Aj Tryz.prog 106 0=some (0,1)∧tfo Tryz.prog 106 0=some 0∧Aj Tryz.prog 106 1=some (1,1)∧tfo Tryz.prog 106 1=some 1∧Aj Tryz.prog 106 2=some (2,1)∧tfo Tryz.prog 106 2=some 2∧Aj Tryz.prog 106 3=some (3,1)∧tfo Tryz.prog 106 3=some 3∧AT Tryz.prog 106=some [(0,1),(1,1),(2,1),(3,1)]:=by and_intros<;>kernel_rfl
@[go_sem] theorem gi:Ag Tryz.prog 110=some 2∧Ak Tryz.prog 110=some 8∧Ap Tryz.prog 110=some 64∧Al Tryz.prog 110=some true∧Bc Tryz.prog 110=some (8,1)∧AE Tryz.prog 110=some 8∧Ay Tryz.prog 110=some 3∧Cm Tryz.prog 110=some 8:=by and_intros<;>kernel_rfl
@[go_sem] theorem eC:AB Tryz.prog 112=some (.agg #[.int .i64 0,.int .i32 0,.int .u8 0,.int .u8 0,.int .i64 0,.int .i64 0,.int .i64 0,.int .i64 0,.int .i64 0,.int .i64 0,.int .i64 0,.int .i64 0,.int .i64 0]):=by kernel_rfl
@[go_sem] theorem dU:Ag Tryz.prog 112=some 7∧Ak Tryz.prog 112=some 13∧Ap Tryz.prog 112=some 88∧Al Tryz.prog 112=some true∧AE Tryz.prog 112=some 13∧Aj Tryz.prog 112 0=some (0,1)∧tfo Tryz.prog 112 0=some 0∧Aj Tryz.prog 112 1=some (1,1)∧tfo Tryz.prog 112 1=some 1∧Aj Tryz.prog 112 2=some (2,1)∧tfo Tryz.prog 112 2=some 2∧Aj Tryz.prog 112 3=some (3,1)∧tfo Tryz.prog 112 3=some 3∧Aj Tryz.prog 112 4=some (4,1)∧tfo Tryz.prog 112 4=some 4∧Aj Tryz.prog 112 5=some (5,8)∧tfo Tryz.prog 112 5=some 5∧AT Tryz.prog 112=some [(0,1),(1,1),(2,1),(3,1),(4,1),(5,8)]:=by and_intros<;>kernel_rfl
@[go_sem] theorem gD:AH Tryz.prog 118=some 13:=by kernel_rfl
@[go_sem] theorem Xz:BF Tryz.prog 118=some (112,13,88):=by kernel_rfl
@[go_sem] theorem gh:Ag Tryz.prog 118=some 1∧Ak Tryz.prog 118=some 1∧Ap Tryz.prog 118=some 24∧Al Tryz.prog 118=some false∧tbs Tryz.prog 118=some (112,13,[.int .i64 0,.int .i32 0,.int .u8 0,.int .u8 0,.int .i64 0,.int .i64 0,.int .i64 0,.int .i64 0,.int .i64 0,.int .i64 0,.int .i64 0,.int .i64 0,.int .i64 0])∧Ay Tryz.prog 118=some 112:=by and_intros<;>kernel_rfl
@[go_sem] theorem b7:AH Tryz.prog 120=some 1:=by kernel_rfl
@[go_sem] theorem YG:BF Tryz.prog 120=some (21,1,4):=by kernel_rfl
@[go_sem] theorem gu:Ag Tryz.prog 120=some 1∧Ak Tryz.prog 120=some 1∧Ap Tryz.prog 120=some 24∧Al Tryz.prog 120=some false∧tbs Tryz.prog 120=some (21,1,[.int .i32 0])∧Ay Tryz.prog 120=some 21:=by and_intros<;>kernel_rfl
@[go_sem] theorem ic:Ag Tryz.prog 123=some 2∧Ak Tryz.prog 123=some 6∧Ap Tryz.prog 123=some 80∧Al Tryz.prog 123=some true∧Bc Tryz.prog 123=some (2,3)∧AE Tryz.prog 123=some 6∧Ay Tryz.prog 123=some 38∧Cm Tryz.prog 123=some 2:=by and_intros<;>kernel_rfl
@[go_sem] theorem gB:Ag Tryz.prog 127=some 2∧Ak Tryz.prog 127=some 200∧Ap Tryz.prog 127=some 200∧Al Tryz.prog 127=some true∧Bc Tryz.prog 127=some (200,1)∧AE Tryz.prog 127=some 200∧Ay Tryz.prog 127=some 4∧Cm Tryz.prog 127=some 200:=by and_intros<;>kernel_rfl
@[go_sem] theorem eD:AH Tryz.prog 128=some 1:=by kernel_rfl
@[go_sem] theorem HV:BF Tryz.prog 128=some (36,1,24):=by kernel_rfl
@[go_sem] theorem QM:Ag Tryz.prog 128=some 1∧Ak Tryz.prog 128=some 1∧Ap Tryz.prog 128=some 24∧Al Tryz.prog 128=some false∧tbs Tryz.prog 128=some (36,1,[.slice none 0 0])∧Ay Tryz.prog 128=some 36:=by and_intros<;>kernel_rfl
@[go_sem] theorem dr:AH Tryz.prog 134=some 1:=by kernel_rfl
@[go_sem] theorem PN:BF Tryz.prog 134=some (31,1,16):=by kernel_rfl
@[go_sem] theorem im:Ag Tryz.prog 134=some 1∧Ak Tryz.prog 134=some 1∧Ap Tryz.prog 134=some 24∧Al Tryz.prog 134=some false∧tbs Tryz.prog 134=some (31,1,[.nilIface])∧Ay Tryz.prog 134=some 31:=by and_intros<;>kernel_rfl
@[go_sem] theorem fG:AB Tryz.prog 135=some (.slice none 0 0):=by kernel_rfl
@[go_sem] theorem cU:AH Tryz.prog 135=some 3:=by kernel_rfl
@[go_sem] theorem Jy:BF Tryz.prog 135=some (138,3,32):=by kernel_rfl
@[go_sem] theorem gP:Ag Tryz.prog 135=some 1∧Ak Tryz.prog 135=some 1∧Ap Tryz.prog 135=some 24∧Al Tryz.prog 135=some false∧tbs Tryz.prog 135=some (138,3,[.int .i64 0,.int .i64 0,.string ⟨#[]⟩])∧Ay Tryz.prog 135=some 138:=by and_intros<;>kernel_rfl
@[go_sem] theorem dD:AB Tryz.prog 138=some (.agg #[.int .i64 0,.int .i64 0,.string ⟨#[]⟩]):=by kernel_rfl
@[go_sem] theorem cx:Ag Tryz.prog 138=some 7∧Ak Tryz.prog 138=some 3∧Ap Tryz.prog 138=some 32∧Al Tryz.prog 138=some true∧BP Tryz.prog 138=some [(0,8),(1,8),(2,3)]∧AE Tryz.prog 138=some 3∧Aj Tryz.prog 138 0=some (0,1)∧tfo Tryz.prog 138 0=some 0∧Aj Tryz.prog 138 1=some (1,1)∧tfo Tryz.prog 138 1=some 1∧Aj Tryz.prog 138 2=some (2,1)∧tfo Tryz.prog 138 2=some 2∧AT Tryz.prog 138=some [(0,1),(1,1),(2,1)]:=by and_intros<;>kernel_rfl
@[go_sem] theorem ir:Ag Tryz.prog 144=some 4∧Ak Tryz.prog 144=some 1∧Ap Tryz.prog 144=some 8∧Al Tryz.prog 144=some false∧Ay Tryz.prog 144=some 220:=by and_intros<;>kernel_rfl
@[go_sem] theorem gU:AB Tryz.prog 147=some (.nilFunc):=by kernel_rfl
@[go_sem] theorem gY:Ag Tryz.prog 147=some 11∧Ak Tryz.prog 147=some 1∧Ap Tryz.prog 147=some 8∧Al Tryz.prog 147=some false:=by and_intros<;>kernel_rfl
@[go_sem] theorem bE:Ag Tryz.prog 151=some 11∧Ak Tryz.prog 151=some 1∧Ap Tryz.prog 151=some 8∧Al Tryz.prog 151=some false:=by and_intros<;>kernel_rfl
@[go_sem] theorem df:AH Tryz.prog 160=some 1:=by kernel_rfl
@[go_sem] theorem dX:Ag Tryz.prog 160=some 1∧Ak Tryz.prog 160=some 1∧Ap Tryz.prog 160=some 24∧Al Tryz.prog 160=some false∧tbs Tryz.prog 160=some (9,1,[.string ⟨#[]⟩])∧Ay Tryz.prog 160=some 9:=by and_intros<;>kernel_rfl
@[go_sem] theorem bC:AB Tryz.prog 161=some (.slice none 0 0):=by kernel_rfl
@[go_sem] theorem Ie:BF Tryz.prog 161=some (5,1,1):=by kernel_rfl
@[go_sem] theorem WN:tmk Tryz.prog 161=some (5,1,[.int .u8 0],1):=by kernel_rfl
@[go_sem] theorem gV:Ag Tryz.prog 161=some 1∧Ak Tryz.prog 161=some 1∧Ap Tryz.prog 161=some 24∧Al Tryz.prog 161=some false∧tbs Tryz.prog 161=some (5,1,[.int .u8 0])∧Ay Tryz.prog 161=some 5:=by and_intros<;>kernel_rfl
@[go_sem] theorem bZ:Ag Tryz.prog 164=some 4∧Ak Tryz.prog 164=some 1∧Ap Tryz.prog 164=some 8∧Al Tryz.prog 164=some false∧Ay Tryz.prog 164=some 171:=by and_intros<;>kernel_rfl
@[go_sem] theorem gL:AB Tryz.prog 166=some (.agg #[.pointer none,.int .i64 0,.int .i64 0,.int .i64 0,.int .i64 0,.int .i64 0]):=by kernel_rfl
@[go_sem] theorem dT:Ag Tryz.prog 166=some 7∧Ak Tryz.prog 166=some 6∧Ap Tryz.prog 166=some 48∧Al Tryz.prog 166=some true∧AE Tryz.prog 166=some 6∧Aj Tryz.prog 166 0=some (0,1)∧tfo Tryz.prog 166 0=some 0∧Aj Tryz.prog 166 1=some (1,4)∧tfo Tryz.prog 166 1=some 1∧Aj Tryz.prog 166 2=some (5,1)∧tfo Tryz.prog 166 2=some 5∧AT Tryz.prog 166=some [(0,1),(1,4),(5,1)]:=by and_intros<;>kernel_rfl
@[go_sem] theorem gN:AB Tryz.prog 171=some (.agg #[.int .i64 0,.bool false,.int .i64 0,.int .i64 0,.pointer none,.pointer none]):=by kernel_rfl
@[go_sem] theorem gC:Ag Tryz.prog 171=some 7∧Ak Tryz.prog 171=some 6∧Ap Tryz.prog 171=some 48∧Al Tryz.prog 171=some true∧AE Tryz.prog 171=some 6∧Aj Tryz.prog 171 0=some (0,1)∧tfo Tryz.prog 171 0=some 0∧Aj Tryz.prog 171 1=some (1,1)∧tfo Tryz.prog 171 1=some 1∧Aj Tryz.prog 171 2=some (2,1)∧tfo Tryz.prog 171 2=some 2∧Aj Tryz.prog 171 3=some (3,1)∧tfo Tryz.prog 171 3=some 3∧Aj Tryz.prog 171 4=some (4,1)∧tfo Tryz.prog 171 4=some 4∧Aj Tryz.prog 171 5=some (5,1)∧tfo Tryz.prog 171 5=some 5∧AT Tryz.prog 171=some [(0,1),(1,1),(2,1),(3,1),(4,1),(5,1)]:=by and_intros<;>kernel_rfl
@[go_sem] theorem bW:Ag Tryz.prog 187=some 4∧Ak Tryz.prog 187=some 1∧Ap Tryz.prog 187=some 8∧Al Tryz.prog 187=some false∧Ay Tryz.prog 187=some 78:=by and_intros<;>kernel_rfl
@[go_sem] theorem bI:Ag Tryz.prog 189=some 7∧Ak Tryz.prog 189=some 2∧Ap Tryz.prog 189=some 16∧Al Tryz.prog 189=some true∧BP Tryz.prog 189=some [(0,8),(1,8)]∧AE Tryz.prog 189=some 2∧Aj Tryz.prog 189 0=some (0,1)∧tfo Tryz.prog 189 0=some 0∧Aj Tryz.prog 189 1=some (1,1)∧tfo Tryz.prog 189 1=some 1∧AT Tryz.prog 189=some [(0,1),(1,1)]:=by and_intros<;>kernel_rfl
@[go_sem] theorem U9:AB Tryz.prog 192=some (.agg #[.int .i64 0,.int .i64 0,.int .i64 0,.int .i64 0,.int .i64 0,.int .i64 0,.int .i64 0,.int .i64 0,.int .i64 0,.int .i64 0,.int .i64 0,.int .i64 0,.int .i64 0,.int .i64 0,.int .i64 0,.int .i64 0,.int .i64 0,.int .i64 0,.int .i64 0,.int .i64 0,.int .i64 0,.int .i64 0,.int .i64 0,.int .i64 0,.int .i64 0,.int .i64 0,.int .i64 0,.int .i64 0,.int .i64 0,.int .i64 0,.int .i64 0,.int .i64 0,.int .i64 0,.int .i64 0,.int .i64 0,.int .i64 0,.int .i64 0,.int .i64 0,.int .i64 0,.int .i64 0,.int .i64 0,.int .i64 0,.int .i64 0,.int .i64 0]):=by kernel_rfl
@[go_sem] theorem Pn:Ag Tryz.prog 192=some 2∧Ak Tryz.prog 192=some 44∧Ap Tryz.prog 192=some 352∧Al Tryz.prog 192=some true∧Bc Tryz.prog 192=some (22,2)∧AE Tryz.prog 192=some 44∧Ay Tryz.prog 192=some 189∧Cm Tryz.prog 192=some 22:=by and_intros<;>kernel_rfl
@[go_sem] theorem Rb:AB Tryz.prog 194=some (.agg #[.int .i64 0,.int .i64 0,.int .i64 0,.int .i64 0,.int .i64 0,.int .i64 0,.int .i64 0,.int .i64 0,.int .i64 0,.int .i64 0,.int .i64 0,.int .i64 0,.int .i64 0,.int .i64 0]):=by kernel_rfl
@[go_sem] theorem Ou:Ag Tryz.prog 194=some 2∧Ak Tryz.prog 194=some 14∧Ap Tryz.prog 194=some 112∧Al Tryz.prog 194=some true∧Bc Tryz.prog 194=some (7,2)∧AE Tryz.prog 194=some 14∧Ay Tryz.prog 194=some 189∧Cm Tryz.prog 194=some 7:=by and_intros<;>kernel_rfl
@[go_sem] theorem bX:AB Tryz.prog 198=some (.agg #[.int .i64 0,.int .i64 0,.string ⟨#[]⟩]):=by kernel_rfl
@[go_sem] theorem eT:Ag Tryz.prog 198=some 7∧Ak Tryz.prog 198=some 3∧Ap Tryz.prog 198=some 32∧Al Tryz.prog 198=some true∧BP Tryz.prog 198=some [(0,8),(1,8),(2,3)]∧AE Tryz.prog 198=some 3∧Aj Tryz.prog 198 0=some (0,1)∧tfo Tryz.prog 198 0=some 0∧Aj Tryz.prog 198 1=some (1,1)∧tfo Tryz.prog 198 1=some 1∧Aj Tryz.prog 198 2=some (2,1)∧tfo Tryz.prog 198 2=some 2∧AT Tryz.prog 198=some [(0,1),(1,1),(2,1)]:=by and_intros<;>kernel_rfl
@[go_sem] theorem cT:Ag Tryz.prog 203=some 4∧Ak Tryz.prog 203=some 1∧Ap Tryz.prog 203=some 8∧Al Tryz.prog 203=some false∧Ay Tryz.prog 203=some 205:=by and_intros<;>kernel_rfl
@[go_sem] theorem fK:AB Tryz.prog 205=some (.agg #[.nilIface,.int .i64 0]):=by kernel_rfl
@[go_sem] theorem gq:Ag Tryz.prog 205=some 7∧Ak Tryz.prog 205=some 2∧Ap Tryz.prog 205=some 24∧Al Tryz.prog 205=some true∧AE Tryz.prog 205=some 2∧Aj Tryz.prog 205 0=some (0,1)∧tfo Tryz.prog 205 0=some 0∧Aj Tryz.prog 205 1=some (1,1)∧tfo Tryz.prog 205 1=some 1∧AT Tryz.prog 205=some [(0,1),(1,1)]:=by and_intros<;>kernel_rfl
@[go_sem] theorem cL:Ag Tryz.prog 206=some 4∧Ak Tryz.prog 206=some 1∧Ap Tryz.prog 206=some 8∧Al Tryz.prog 206=some false∧Ay Tryz.prog 206=some 208:=by and_intros<;>kernel_rfl
@[go_sem] theorem dR:AB Tryz.prog 208=some (.agg #[.nilIface,.string ⟨#[]⟩]):=by kernel_rfl
@[go_sem] theorem dA:Ag Tryz.prog 208=some 7∧Ak Tryz.prog 208=some 2∧Ap Tryz.prog 208=some 32∧Al Tryz.prog 208=some true∧AE Tryz.prog 208=some 2∧Aj Tryz.prog 208 0=some (0,1)∧tfo Tryz.prog 208 0=some 0∧Aj Tryz.prog 208 1=some (1,1)∧tfo Tryz.prog 208 1=some 1∧AT Tryz.prog 208=some [(0,1),(1,1)]:=by and_intros<;>kernel_rfl
@[go_sem] theorem gE:Ag Tryz.prog 209=some 4∧Ak Tryz.prog 209=some 1∧Ap Tryz.prog 209=some 8∧Al Tryz.prog 209=some false∧Ay Tryz.prog 209=some 211:=by and_intros<;>kernel_rfl
@[go_sem] theorem dg:AB Tryz.prog 211=some (.agg #[.slice none 0 0]):=by kernel_rfl
@[go_sem] theorem gy:Ag Tryz.prog 211=some 7∧Ak Tryz.prog 211=some 1∧Ap Tryz.prog 211=some 24∧Al Tryz.prog 211=some true∧AE Tryz.prog 211=some 1∧Aj Tryz.prog 211 0=some (0,1)∧tfo Tryz.prog 211 0=some 0∧AT Tryz.prog 211=some [(0,1)]:=by and_intros<;>kernel_rfl
@[go_sem] theorem bL:Ag Tryz.prog 213=some 4∧Ak Tryz.prog 213=some 1∧Ap Tryz.prog 213=some 8∧Al Tryz.prog 213=some false∧Ay Tryz.prog 213=some 267:=by and_intros<;>kernel_rfl
@[go_sem] theorem gW:Ag Tryz.prog 215=some 7∧Ak Tryz.prog 215=some 1∧Ap Tryz.prog 215=some 16∧Al Tryz.prog 215=some true∧BP Tryz.prog 215=some [(0,3)]∧AE Tryz.prog 215=some 1∧Aj Tryz.prog 215 0=some (0,1)∧tfo Tryz.prog 215 0=some 0∧AT Tryz.prog 215=some [(0,1)]:=by and_intros<;>kernel_rfl
@[go_sem] theorem dK:AB Tryz.prog 217=some (.agg #[.int .i64 0,.int .u8 0,.int .u8 0,.int .i64 0,.int .i64 0,.int .i64 0,.int .i64 0,.int .i64 0,.int .i64 0,.int .i64 0,.int .i64 0,.int .i64 0]):=by kernel_rfl
@[go_sem] theorem da:Ag Tryz.prog 217=some 7∧Ak Tryz.prog 217=some 12∧Ap Tryz.prog 217=some 88∧Al Tryz.prog 217=some true∧AE Tryz.prog 217=some 12∧Aj Tryz.prog 217 0=some (0,1)∧tfo Tryz.prog 217 0=some 0∧Aj Tryz.prog 217 1=some (1,1)∧tfo Tryz.prog 217 1=some 1∧Aj Tryz.prog 217 2=some (2,1)∧tfo Tryz.prog 217 2=some 2∧Aj Tryz.prog 217 3=some (3,1)∧tfo Tryz.prog 217 3=some 3∧Aj Tryz.prog 217 4=some (4,8)∧tfo Tryz.prog 217 4=some 4∧AT Tryz.prog 217=some [(0,1),(1,1),(2,1),(3,1),(4,8)]:=by and_intros<;>kernel_rfl
@[go_sem] theorem fw:Ag Tryz.prog 218=some 4∧Ak Tryz.prog 218=some 1∧Ap Tryz.prog 218=some 8∧Al Tryz.prog 218=some false∧Ay Tryz.prog 218=some 262:=by and_intros<;>kernel_rfl
@[go_sem] theorem ei:AB Tryz.prog 220=some (.agg #[.pointer none,.string ⟨#[]⟩,.int .i64 0,.int .u8 0,.int .u8 0,.int .i64 0,.int .i64 0,.int .i64 0,.int .i64 0,.int .i64 0,.int .i64 0,.int .i64 0,.int .i64 0,.int .i64 0,.pointer none]):=by kernel_rfl
@[go_sem] theorem dP:Ag Tryz.prog 220=some 7∧Ak Tryz.prog 220=some 15∧Ap Tryz.prog 220=some 120∧Al Tryz.prog 220=some true∧AE Tryz.prog 220=some 15∧Aj Tryz.prog 220 0=some (0,1)∧tfo Tryz.prog 220 0=some 0∧Aj Tryz.prog 220 1=some (1,1)∧tfo Tryz.prog 220 1=some 1∧Aj Tryz.prog 220 2=some (2,12)∧tfo Tryz.prog 220 2=some 2∧Aj Tryz.prog 220 3=some (14,1)∧tfo Tryz.prog 220 3=some 14∧AT Tryz.prog 220=some [(0,1),(1,1),(2,12),(14,1)]:=by and_intros<;>kernel_rfl
@[go_sem] theorem iu:Ag Tryz.prog 251=some 4∧Ak Tryz.prog 251=some 1∧Ap Tryz.prog 251=some 8∧Al Tryz.prog 251=some false∧Ay Tryz.prog 251=some 217:=by and_intros<;>kernel_rfl
@[go_sem] theorem eA:Ag Tryz.prog 254=some 4∧Ak Tryz.prog 254=some 1∧Ap Tryz.prog 254=some 8∧Al Tryz.prog 254=some false∧Ay Tryz.prog 254=some 215:=by and_intros<;>kernel_rfl
@[go_sem] theorem gd:Ag Tryz.prog 260=some 7∧Ak Tryz.prog 260=some 3∧Ap Tryz.prog 260=some 40∧Al Tryz.prog 260=some true∧AE Tryz.prog 260=some 3∧Aj Tryz.prog 260 0=some (0,1)∧tfo Tryz.prog 260 0=some 0∧Aj Tryz.prog 260 1=some (1,1)∧tfo Tryz.prog 260 1=some 1∧Aj Tryz.prog 260 2=some (2,1)∧tfo Tryz.prog 260 2=some 2∧AT Tryz.prog 260=some [(0,1),(1,1),(2,1)]:=by and_intros<;>kernel_rfl
@[go_sem] theorem dz:AB Tryz.prog 262=some (.agg #[.int .i64 0,.int .i64 0,.slice none 0 0]):=by kernel_rfl
@[go_sem] theorem gX:Ag Tryz.prog 262=some 7∧Ak Tryz.prog 262=some 3∧Ap Tryz.prog 262=some 40∧Al Tryz.prog 262=some true∧AE Tryz.prog 262=some 3∧Aj Tryz.prog 262 0=some (0,3)∧tfo Tryz.prog 262 0=some 0∧AT Tryz.prog 262=some [(0,3)]:=by and_intros<;>kernel_rfl
@[go_sem] theorem fA:Ag Tryz.prog 264=some 7∧Ak Tryz.prog 264=some 6∧Ap Tryz.prog 264=some 24∧Al Tryz.prog 264=some true∧AE Tryz.prog 264=some 6∧Aj Tryz.prog 264 0=some (0,1)∧tfo Tryz.prog 264 0=some 0∧Aj Tryz.prog 264 1=some (1,1)∧tfo Tryz.prog 264 1=some 1∧Aj Tryz.prog 264 2=some (2,4)∧tfo Tryz.prog 264 2=some 2∧AT Tryz.prog 264=some [(0,1),(1,1),(2,4)]:=by and_intros<;>kernel_rfl
@[go_sem] theorem dM:Ag Tryz.prog 265=some 2∧Ak Tryz.prog 265=some 12∧Ap Tryz.prog 265=some 48∧Al Tryz.prog 265=some true∧Bc Tryz.prog 265=some (2,6)∧AE Tryz.prog 265=some 12∧Ay Tryz.prog 265=some 264∧Cm Tryz.prog 265=some 2:=by and_intros<;>kernel_rfl
@[go_sem] theorem bR:Ag Tryz.prog 267=some 7∧Ak Tryz.prog 267=some 233∧Ap Tryz.prog 267=some 424∧Al Tryz.prog 267=some true∧AE Tryz.prog 267=some 233∧Aj Tryz.prog 267 0=some (0,1)∧tfo Tryz.prog 267 0=some 0∧Aj Tryz.prog 267 1=some (1,1)∧tfo Tryz.prog 267 1=some 1∧Aj Tryz.prog 267 2=some (2,6)∧tfo Tryz.prog 267 2=some 2∧Aj Tryz.prog 267 3=some (8,12)∧tfo Tryz.prog 267 3=some 8∧Aj Tryz.prog 267 4=some (20,1)∧tfo Tryz.prog 267 4=some 20∧Aj Tryz.prog 267 5=some (21,6)∧tfo Tryz.prog 267 5=some 21∧Aj Tryz.prog 267 6=some (27,1)∧tfo Tryz.prog 267 6=some 27∧Aj Tryz.prog 267 7=some (28,1)∧tfo Tryz.prog 267 7=some 28∧Aj Tryz.prog 267 8=some (29,200)∧tfo Tryz.prog 267 8=some 29∧Aj Tryz.prog 267 9=some (229,1)∧tfo Tryz.prog 267 9=some 229∧Aj Tryz.prog 267 10=some (230,1)∧tfo Tryz.prog 267 10=some 230∧Aj Tryz.prog 267 11=some (231,1)∧tfo Tryz.prog 267 11=some 231∧Aj Tryz.prog 267 12=some (232,1)∧tfo Tryz.prog 267 12=some 232∧AT Tryz.prog 267=some [(0,1),(1,1),(2,6),(8,12),(20,1),(21,6),(27,1),(28,1),(29,200),(229,1),(230,1),(231,1),(232,1)]:=by and_intros<;>kernel_rfl
@[go_sem] theorem fP:AH Tryz.prog 287=some 5:=by kernel_rfl
@[go_sem] theorem VA:BF Tryz.prog 287=some (290,5,40):=by kernel_rfl
@[go_sem] theorem gZ:Ag Tryz.prog 287=some 1∧Ak Tryz.prog 287=some 1∧Ap Tryz.prog 287=some 24∧Al Tryz.prog 287=some false∧tbs Tryz.prog 287=some (290,5,[.pointer none,.int .i64 0,.int .i64 0,.int .i64 0,.int .i64 0])∧Ay Tryz.prog 287=some 290:=by and_intros<;>kernel_rfl
@[go_sem] theorem ep:AB Tryz.prog 290=some (.agg #[.pointer none,.int .i64 0,.int .i64 0,.int .i64 0,.int .i64 0]):=by kernel_rfl
@[go_sem] theorem eN:Ag Tryz.prog 290=some 7∧Ak Tryz.prog 290=some 5∧Ap Tryz.prog 290=some 40∧Al Tryz.prog 290=some true∧AE Tryz.prog 290=some 5∧Aj Tryz.prog 290 0=some (0,1)∧tfo Tryz.prog 290 0=some 0∧Aj Tryz.prog 290 1=some (1,4)∧tfo Tryz.prog 290 1=some 1∧AT Tryz.prog 290=some [(0,1),(1,4)]:=by and_intros<;>kernel_rfl
@[go_sem] theorem fu:AB Tryz.prog 304=some (.agg #[.int .i32 0,.int .i32 0,.int .i64 0]):=by kernel_rfl
@[go_sem] theorem MY:Ag Tryz.prog 304=some 7∧Ak Tryz.prog 304=some 3∧Ap Tryz.prog 304=some 16∧Al Tryz.prog 304=some true∧BP Tryz.prog 304=some [(0,8),(1,8),(2,8)]∧AE Tryz.prog 304=some 3∧Aj Tryz.prog 304 0=some (0,1)∧tfo Tryz.prog 304 0=some 0∧Aj Tryz.prog 304 1=some (1,1)∧tfo Tryz.prog 304 1=some 1∧Aj Tryz.prog 304 2=some (2,1)∧tfo Tryz.prog 304 2=some 2∧AT Tryz.prog 304=some [(0,1),(1,1),(2,1)]:=by and_intros<;>kernel_rfl
@[go_sem] theorem WD:AB Tryz.prog 305=some (.agg #[.int .i32 0,.int .i32 0,.int .i64 0,.int .i32 0,.int .i32 0,.int .i64 0,.int .i32 0,.int .i32 0,.int .i64 0,.int .i32 0,.int .i32 0,.int .i64 0,.int .i32 0,.int .i32 0,.int .i64 0,.int .i32 0,.int .i32 0,.int .i64 0,.int .i32 0,.int .i32 0,.int .i64 0,.int .i32 0,.int .i32 0,.int .i64 0,.int .i32 0,.int .i32 0,.int .i64 0,.int .i32 0,.int .i32 0,.int .i64 0,.int .i32 0,.int .i32 0,.int .i64 0,.int .i32 0,.int .i32 0,.int .i64 0,.int .i32 0,.int .i32 0,.int .i64 0,.int .i32 0,.int .i32 0,.int .i64 0,.int .i32 0,.int .i32 0,.int .i64 0,.int .i32 0,.int .i32 0,.int .i64 0]):=by kernel_rfl
@[go_sem] theorem FJ:Ag Tryz.prog 305=some 2∧Ak Tryz.prog 305=some 48∧Ap Tryz.prog 305=some 256∧Al Tryz.prog 305=some true∧Bc Tryz.prog 305=some (16,3)∧AE Tryz.prog 305=some 48∧Ay Tryz.prog 305=some 304∧Cm Tryz.prog 305=some 16:=by and_intros<;>kernel_rfl
@[go_sem] theorem ij:AB Tryz.prog 331=some (.agg #[.int .u8 0,.int .u8 0,.int .u8 0,.int .u8 0,.int .u8 0,.int .u8 0,.int .u8 0,.int .u8 0]):=by kernel_rfl
@[go_sem] theorem iy:Ag Tryz.prog 331=some 2∧Ak Tryz.prog 331=some 8∧Ap Tryz.prog 331=some 8∧Al Tryz.prog 331=some true∧Bc Tryz.prog 331=some (8,1)∧AE Tryz.prog 331=some 8∧Ay Tryz.prog 331=some 5∧Cm Tryz.prog 331=some 8:=by and_intros<;>kernel_rfl
@[go_sem] theorem dO:I3 Tryz.prog 38 0=some 3:=by kernel_rfl
def IK (p0 p1:Value) (K:Value→World→Prop):World→Prop :=
 xA 38 fun t4 =>
 xO .eql 28 p0 (.pointer none) fun t15 =>
 xW t15
 (OpX Tryz.prog (.build 38 #[]) 38 fun t16 =>
 xS 38 t4 t16 <|
 xD 38 t4 fun t4_1 =>
 K t4_1) <|
 xC 11 [.const p0] [28] 26 fun t19 =>
 xE t19 0 3 fun t20 =>
 xE t19 1 3 fun t21 =>
 xC 30 [.const t20,.const t21] [3,3] 38 fun t24 =>
 xA 38 fun t7 =>
 xS 38 t7 t24 <|
 xC 17 [.const p0] [28] 3 fun t26 =>
 xC 18 [.const p0,.const t26] [28,3] 53 fun t29 =>
 xU t29 53 fun t30 =>
 Loop1 (.int .i64 0) fun t31 next1 =>
 xO .lss 3 t31 t30 fun t32 =>
 xW t32
 (xI 53 t29 t31 fun t33 =>
 xL 59 t33 fun t34 =>
 xA 59 fun t10 =>
 xS 59 t10 t34 <|
 Ai <|
 qL 38 t7 fun t35 =>
 qF 59 t10 0 fun t38 =>
 qL 3 t38 fun t39 =>
 qF 59 t10 1 fun t41 =>
 qF 49 t41 0 fun t42 =>
 qL 3 t42 fun t43 =>
 qF 59 t10 1 fun t44 =>
 qF 49 t44 1 fun t45 =>
 qL 3 t45 fun t46 =>
 xC 32 [.const p0,.const t26,.const t39] [28,3,3] 38 fun t40 =>
 xT (qZ 3 t45 t46) <|
 xT (qZ 3 t42 t43) <|
 xT (qZ 38 t7 t35) <|
 xC 31 [.const t35,.const t40,.const t43,.const t46] [38,38,3,3] 38 fun t47 =>
 xS 38 t7 t47 <|
 xO .add 3 t31 (.int .i64 1) fun t48 =>
 next1 t48) <|
 xC 16 [.const p0,.const t26] [28,3] 45 fun t51 =>
 xU t51 45 fun t52 =>
 Loop1 (.int .i64 0) fun t53 next2 =>
 xO .lss 3 t53 t52 fun t54 =>
 xW t54
 (xI 45 t51 t53 fun t55 =>
 xL 49 t55 fun t56 =>
 xA 49 fun t12 =>
 xS 49 t12 t56 <|
 xC 33 [] [] 43 fun t57 =>
 xA 43 fun t13 =>
 xS 43 t13 t57 <|
 xF 43 t13 0 fun t58 =>
 xS 21 t58 (.int .i32 45) <|
 Join0 (fun k3 =>
 xF 49 t12 2 fun t59 =>
 xL 3 t59 fun t60 =>
 xO .eql 3 t60 (.int .i64 1) fun t61 =>
 xW t61
 (xF 43 t13 0 fun t62 =>
 xS 21 t62 (.int .i32 124) <|
 k3) <|
 k3) <|
 xL 38 t7 fun t63 =>
 xL 49 t12 fun t64 =>
 xL 43 t13 fun t65 =>
 xC 34 [.const t63,.const t64,.const t65] [38,49,43] 38 fun t66 =>
 xS 38 t7 t66 <|
 xO .add 3 t53 (.int .i64 1) fun t67 =>
 next2 t67) <|
 Ai <|
 qL 38 t7 fun t68 =>
 qP .sub 3 t21 (.int .i64 1) fun t70 =>
 xC 14 [.const p0,.const p1] [28,3] 9 fun t74 =>
 xT (qZ 38 t7 t68) <|
 xC 36 [.const t20,.const t74] [3,9] 36 fun t75 =>
 xT (qZ 38 t7 t68) <|
 xC 35 [.const t68,.const (.int .i64 0),.const t70,.const t75] [38,3,3,36] 38 fun t76 =>
 xS 38 t4 t76 <|
 xD 38 t4 fun t4_2 =>
 K t4_2
theorem O3 (p0 p1:Value):Lk 12 #[p0,p1] (IK p0 p1):=lk [p0,p1] [(20,[31]),(37,[53]),(52,[])] Tryz.func12
theorem HK:Ad Tryz.prog 12:=bd Tryz.func12
def IB (p0 p1:Value) (K:Value→World→Prop):World→Prop :=
 xO .eql 28 p0 (.pointer none) fun t10 =>
 xW t10
 (K (.string { data:=#[] })) <|
 xC 40 [.const p0] [28] 98 fun t12 =>
 xU t12 98 fun t13 =>
 Loop2 (.string { data:=#[] }) (.int .i64 0) fun t5 t14 next1 =>
 xO .lss 3 t14 t13 fun t15 =>
 xW t15
 (xI 98 t12 t14 fun t16 =>
 xL 3 t16 fun t17 =>
 Join1 (fun k2 =>
 xC 17 [.const p0] [28] 3 fun t20 =>
 xO .eql 3 t17 t20 fun t21 =>
 xW t21
 (k2 (.string { data:=#[42] })) <|
 k2 (.string { data:=#[] })) fun t8 =>
 xC 42 [.const t17] [3] 9 fun t24 =>
 OpX Tryz.prog (.buildSlice 160 4 #[(0,.const t5),(1,.const (.string { data:=#[32] })),(2,.const t24),(3,.const t8)]) 160 fun t26 =>
 xC 41 [.const t26] [160] 9 fun t27 =>
 xO .add 3 t14 (.int .i64 1) fun t28 =>
 next1 t27 t28) <|
 Join1 (fun k3 =>
 xC 43 [.const p0] [28] 4 fun t30 =>
 xW t30
 (xC 44 [.const p0] [28] 3 fun t33 =>
 xC 42 [.const t33] [3] 9 fun t34 =>
 OpX Tryz.prog (.buildSlice 160 3 #[(0,.const t5),(1,.const (.string { data:=#[32,99,111,112,121,32] })),(2,.const t34)]) 160 fun t35 =>
 xC 41 [.const t35] [160] 9 fun t36 =>
 k3 t36) <|
 k3 t5) fun t5_1 =>
 Join1 (fun k4 =>
 xO .gtr 3 p1 (.int .i64 0) fun t38 =>
 xW t38
 (xC 42 [.const p1] [3] 9 fun t41 =>
 OpX Tryz.prog (.buildSlice 160 3 #[(0,.const t5_1),(1,.const (.string { data:=#[32,104,97,110,100,115,32] })),(2,.const t41)]) 160 fun t42 =>
 xC 41 [.const t42] [160] 9 fun t43 =>
 k4 t43) <|
 k4 t5_1) fun t5_2 =>
 K t5_2
theorem Lg (p0 p1:Value):Lk 14 #[p0,p1] (IB p0 p1):=lk [p0,p1] [(16,[5,14]),(29,[8]),(37,[5]),(43,[5])] Tryz.func14
theorem Et:Ad Tryz.prog 14:=bd Tryz.func14
def J3 (p0:Value) (K:Value→World→Prop):World→Prop :=
 xC 17 [.const p0] [28] 3 fun t10 =>
 xC 53 [.const p0,.const t10] [28,3] 3 fun t13 =>
 xC 18 [.const p0,.const t10] [28,3] 53 fun t16 =>
 xU t16 53 fun t17 =>
 Loop1 (.int .i64 0) fun t18 next1 =>
 xO .lss 3 t18 t17 fun t19 =>
 xW t19
 (xI 53 t16 t18 fun t20 =>
 xL 59 t20 fun t21 =>
 xA 59 fun t8 =>
 xS 59 t8 t21 <|
 xF 59 t8 0 fun t22 =>
 xL 3 t22 fun t23 =>
 xO .eql 3 t23 t13 fun t25 =>
 xW t25
 (xC 54 [.const p0,.const t10,.const t13] [28,3,3] 72 fun t30 =>
 xE t30 0 3 fun t31 =>
 xE t30 1 3 fun t32 =>
 xE t30 2 4 fun t33 =>
 Ai <|
 Join3 (fun k2 =>
 qF 59 t8 1 fun t34 =>
 qF 49 t34 0 fun t35 =>
 qL 3 t35 fun t36 =>
 qP .add 3 t36 t31 fun t38 =>
 qF 59 t8 1 fun t39 =>
 qF 49 t39 1 fun t40 =>
 qL 3 t40 fun t41 =>
 qP .add 3 t41 t32 fun t43 =>
 xW t33
 (xC 43 [.const p0] [28] 4 fun t47 =>
 xT (qZ 3 t40 t41) <|
 xT (qZ 3 t35 t36) <|
 xP (.unOp .not 4 (.const t47)) 4 fun t48 =>
 k2 t38 t43 t48) <|
 k2 t38 t43 (.bool false)) fun t2 t3 t4 =>
 K (.tuple #[t2,t3,t4])) <|
 xO .add 3 t18 (.int .i64 1) fun t50 =>
 next1 t50) <|
 K (.tuple #[(.int .i64 0),(.int .i64 0),(.bool false)])
theorem TJ (p0:Value):Lk 22 #[p0] (J3 p0):=lk [p0] [(10,[18]),(27,[2,3,4])] Tryz.func22
theorem Wk:Ad Tryz.prog 22:=bd Tryz.func22
def NG (p0 p1:Value) (K:Value→World→Prop):World→Prop :=
 OpX Tryz.prog (.makeSlice 36 (.const p0) (.const p0)) 36 fun t8 =>
 xU t8 36 fun t10 =>
 Loop1 (.int .i64 0) fun t11 next1 =>
 xO .lss 3 t11 t10 fun t12 =>
 xW t12
 (xC 33 [] [] 43 fun t16 =>
 xI 36 t8 t11 fun t17 =>
 xS 43 t17 t16 <|
 Join0 (fun k2 =>
 xU p1 9 fun t20 =>
 xO .lss 3 t11 t20 fun t21 =>
 xW t21
 (OpX Tryz.prog (.index 9 (.const p1) (.const t11)) 5 fun t26 =>
 OpX Tryz.prog (.convert 5 21 (.const t26)) 21 fun t27 =>
 xI 36 t8 t11 fun t28 =>
 xF 43 t28 0 fun t29 =>
 xS 21 t29 t27 <|
 k2) <|
 k2) <|
 xI 36 t8 t11 fun t32 =>
 xF 43 t32 3 fun t33 =>
 xS 5 t33 (.int .u8 32) <|
 xO .add 3 t11 (.int .i64 1) fun t34 =>
 next1 t34) <|
 K t8
theorem Y4 (p0 p1:Value):Lk 36 #[p0,p1] (NG p0 p1):=lk [p0,p1] [(8,[11]),(21,[])] Tryz.func36
theorem SK:Ad Tryz.prog 36:=bd Tryz.func36
def Ng (p0:Value) (K:Value→World→Prop):World→Prop :=
 xU p0 160 fun t10 =>
 Loop2 (.int .i64 0) (.int .i64 0) fun t3 t11 next1 =>
 xO .lss 3 t11 t10 fun t12 =>
 xW t12
 (xI 160 p0 t11 fun t13 =>
 xL 9 t13 fun t14 =>
 xU t14 9 fun t17 =>
 xO .add 3 t3 t17 fun t18 =>
 xO .add 3 t11 (.int .i64 1) fun t19 =>
 next1 t18 t19) <|
 OpX Tryz.prog (.makeSlice 161 (.const (.int .i64 0)) (.const t3)) 161 fun t21 =>
 xU p0 160 fun t23 =>
 Loop2 t21 (.int .i64 0) fun t6 t24 next2 =>
 xO .lss 3 t24 t23 fun t25 =>
 xW t25
 (xI 160 p0 t24 fun t26 =>
 xL 9 t26 fun t27 =>
 OpX Tryz.prog (.call { callee:=.builtin .append,args:=#[.const t6,.const t27],argTypes:=#[161,9] }) 161 fun t30 =>
 xO .add 3 t24 (.int .i64 1) fun t31 =>
 next2 t30 t31) <|
 OpX Tryz.prog (.convert 161 9 (.const t6)) 9 fun t33 =>
 K t33
theorem SO (p0:Value):Lk 41 #[p0] (Ng p0):=lk [p0] [(8,[3,11]),(27,[6,24])] Tryz.func41
theorem Jm:Ad Tryz.prog 41:=bd Tryz.func41
def OR (p0:Value) (K:Value→World→Prop):World→Prop :=
 xA 161 fun t3 =>
 xA 147 fun t4 =>
 OpX Tryz.prog (.makeFunc (.func 84) #[] #[.const t4,.const t3]) 147 fun t5 =>
 xS 147 t4 t5 <|
 xL 147 t4 fun t6 =>
 OpX Tryz.prog (.call { callee:=.value (.const t6),args:=#[.const p0],argTypes:=#[3] }) 0 fun _ =>
 xL 161 t3 fun t9 =>
 OpX Tryz.prog (.convert 161 9 (.const t9)) 9 fun t10 =>
 K t10
theorem Yp (p0:Value):Lk 42 #[p0] (OR p0):=lk [p0] [] Tryz.func42
theorem IV:Ad Tryz.prog 42:=bd Tryz.func42
def KH (p0 p1 p2:Value) (K:Value→World→Prop):World→Prop :=
 Join0 (fun k1 =>
 xO .geq 3 p0 (.int .i64 10) fun t5 =>
 xW t5
 (xL 147 p1 fun t6 =>
 xO .quo 3 p0 (.int .i64 10) fun t8 =>
 OpX Tryz.prog (.call { callee:=.value (.const t6),args:=#[.const t8],argTypes:=#[3] }) 0 fun _ =>
 k1) <|
 k1) <|
 xL 161 p2 fun t10 =>
 xO .rem 3 p0 (.int .i64 10) fun t12 =>
 xO .add 3 (.int .i64 48) t12 fun t13 =>
 OpX Tryz.prog (.convert 3 5 (.const t13)) 5 fun t14 =>
 OpX Tryz.prog (.buildSlice 161 1 #[(0,.const t14)]) 161 fun t15 =>
 OpX Tryz.prog (.call { callee:=.builtin .append,args:=#[.const t10,.const t15],argTypes:=#[161,161] }) 161 fun t16 =>
 xS 161 p2 t16 <|
 K (.tuple #[])
theorem Xn (p0 p1 p2:Value):Lk 84 #[p0,p1,p2] (KH p0 p1 p2):=lk [p0,p1,p2] [(0,[])] Tryz.func84
theorem LL:Ad Tryz.prog 84:=bd Tryz.func84
def KY (p0 p1 p2:Value) (K:Value→World→Prop):World→Prop :=
 xB 23 p0 fun t3 =>
 xB 71 p2 fun t5 =>
 xC 6 [] [] 4 fun t20 =>
 xL 23 t3 fun t22 =>
 xC 7 [.const t22] [23] 26 fun t23 =>
 xE t23 0 3 fun t24 =>
 xE t23 1 3 fun t25 =>
 xC 8 [.const t24,.const t25,.const (.int .i64 6)] [3,3,3] 28 fun t28 =>
 xO .eql 28 t28 (.pointer none) fun t30 =>
 xW t30
 (K (.bool false)) <|
 Loop1 (.int .i64 0) fun t11 next1 =>
 Join1 (fun k2 =>
 xU p1 24 fun t33 =>
 xO .lss 3 t11 t33 fun t34 =>
 xW t34
 (xO .lss 3 t11 (.int .i64 15) fun t37 =>
 k2 t37) <|
 k2 (.bool false)) fun t38 =>
 xW t38
 (xI 24 p1 t11 fun t44 =>
 xL 34 t44 fun t45 =>
 xC 10 [.const t45] [34] 34 fun t46 =>
 xC 9 [.const t28,.const t46] [28,34] 31 fun _ =>
 xO .add 3 t11 (.int .i64 1) fun t40 =>
 next1 t40) <|
 xC 11 [.const t28] [28] 26 fun t50 =>
 xE t50 0 3 fun _ =>
 xE t50 1 3 fun t52 =>
 xI 71 t5 (.int .i64 0) fun t53 =>
 xL 3 t53 fun t54 =>
 xO .and 3 t54 (.int .i64 4095) fun t55 =>
 xC 12 [.const t28,.const t55] [28,3] 38 fun t58 =>
 xA 38 fun t13 =>
 xS 38 t13 t58 <|
 xI 71 t5 (.int .i64 1) fun t60 =>
 xL 3 t60 fun t61 =>
 xC 12 [.const t28,.const t61] [28,3] 38 fun t62 =>
 xA 38 fun t14 =>
 xS 38 t14 t62 <|
 xC 14 [.const t28,.const (.int .i64 0)] [28,3] 9 fun t64 =>
 Join1 (fun k3 =>
 xO .sub 3 (.int .i64 (-1)) t55 fun t67 =>
 xC 14 [.const t28,.const t67] [28,3] 9 fun t68 =>
 xO .neq 9 t68 t64 fun t70 =>
 xW t70
 (k3 (.bool true)) <|
 xC 14 [.const t28,.const t55] [28,3] 9 fun t74 =>
 xO .eql 9 t74 t64 fun t76 =>
 xO .eql 3 t55 (.int .i64 0) fun t78 =>
 xO .neq 4 t76 t78 fun t79 =>
 xW t79
 (k3 (.bool true)) <|
 xF 38 t13 2 fun t82 =>
 xL 36 t82 fun t83 =>
 xU t83 36 fun t84 =>
 xF 38 t14 2 fun t85 =>
 xL 36 t85 fun t86 =>
 xU t86 36 fun t87 =>
 xO .neq 3 t84 t87 fun t88 =>
 k3 t88) fun t89 =>
 xW t89
 (K (.bool false)) <|
 Loop1 (.int .i64 0) fun t16 next4 =>
 xO .sub 3 t52 (.int .i64 1) fun t92 =>
 xF 38 t13 0 fun t93 =>
 xL 3 t93 fun t94 =>
 xO .mul 3 t92 t94 fun t95 =>
 xO .lss 3 t16 t95 fun t96 =>
 xW t96
 (Ai <|
 qF 38 t13 2 fun t99 =>
 qL 36 t99 fun t100 =>
 xP (.indexAddr 36 (.const t100) (.const t16)) 0 fun t102 =>
 qL 43 t102 fun t103 =>
 qF 38 t14 2 fun t104 =>
 qL 36 t104 fun t105 =>
 xP (.indexAddr 36 (.const t105) (.const t16)) 0 fun t107 =>
 qL 43 t107 fun t108 =>
 qR .neq 43 t103 t108 fun t109 =>
 xW t109
 (K (.bool false)) <|
 xO .add 3 t16 (.int .i64 1) fun t98 =>
 next4 t98) <|
 xC 22 [.const (.pointer none)] [28] 72 fun t111 =>
 xE t111 0 3 fun t112 =>
 xE t111 1 3 fun t113 =>
 xE t111 2 4 fun t114 =>
 Join1 (fun k5 =>
 xW t20
 (xC 12 [.const (.pointer none),.const t55] [28,3] 38 fun t118 =>
 OpX Tryz.prog (.field 38 (.const t118) 0) 3 fun t119 =>
 xO .eql 3 t119 (.int .i64 0) fun t120 =>
 xW t120
 (xC 14 [.const (.pointer none),.const t55] [28,3] 9 fun t124 =>
 xO .eql 9 t124 (.string { data:=#[] }) fun t125 =>
 xW t125
 (xO .eql 3 t112 (.int .i64 0) fun t129 =>
 xW t129
 (xO .eql 3 t113 (.int .i64 0) fun t133 =>
 xW t133
 (xN 4 t114 fun t137 =>
 k5 t137) <|
 k5 (.bool false)) <|
 k5 (.bool false)) <|
 k5 (.bool false)) <|
 k5 (.bool false)) <|
 k5 (.bool false)) fun t6 =>
 K t6
theorem Rm (p0 p1 p2:Value):Lk 5 #[p0,p1,p2] (KY p0 p1 p2):=lk [p0,p1,p2] [(20,[11]),(23,[38]),(43,[89]),(53,[16]),(73,[6])] Tryz.func5
def P5 (K:Value→World→Prop):World→Prop :=
 xC 8 [.const (.int .i64 9),.const (.int .i64 4),.const (.int .i64 5)] [3,3,3] 28 fun t2 =>
 OpX Tryz.prog (.build 34 #[(0,.const (.int .i64 1)),(3,.const (.string { data:=#[2,37] }))]) 34 fun t4 =>
 xC 9 [.const t2,.const t4] [28,34] 31 fun _ =>
 xC 14 [.const t2,.const (.int .i64 0)] [28,3] 9 fun t7 =>
 xO .eql 9 t7 (.string { data:=#[32,49,42] }) fun t8 =>
 K t8
theorem bh:Lk 6 #[] (P5):=lk [] [] Tryz.func6
theorem Vv:Ad Tryz.prog 6:=bd Tryz.func6
def LJ (p0:Value) (K:Value→World→Prop):World→Prop :=
 xB 23 p0 fun t1 =>
 Ai <|
 qF 23 t1 0 fun t4 =>
 qL 3 t4 fun t5 =>
 qP .rem 3 t5 (.int .i64 40) fun t6 =>
 qP .add 3 t6 (.int .i64 40) fun t7 =>
 qP .rem 3 t7 (.int .i64 40) fun t8 =>
 qP .add 3 (.int .i64 1) t8 fun t9 =>
 qF 23 t1 1 fun t10 =>
 qL 3 t10 fun t11 =>
 qP .rem 3 t11 (.int .i64 19) fun t12 =>
 qP .add 3 t12 (.int .i64 19) fun t13 =>
 qP .rem 3 t13 (.int .i64 19) fun t14 =>
 qP .add 3 (.int .i64 2) t14 fun t15 =>
 K (.tuple #[t9,t15])
theorem Yt (p0:Value):Lk 7 #[p0] (LJ p0):=lk [p0] [] Tryz.func7
theorem YF:Ad Tryz.prog 7:=bd Tryz.func7
def Mz (p0:Value) (K:Value→World→Prop):World→Prop :=
 xB 34 p0 fun t1 =>
 xA 34 fun t2 =>
 Join0 (fun k1 =>
 xF 34 t1 3 fun t3 =>
 xL 9 t3 fun t4 =>
 xU t4 9 fun t5 =>
 xO .gtr 3 t5 (.int .i64 40) fun t6 =>
 xW t6
 (xF 34 t1 3 fun t7 =>
 xL 9 t7 fun t8 =>
 OpX Tryz.prog (.slice 9 (.const t8) none (some (.const (.int .i64 40))) none) 9 fun t9 =>
 xF 34 t1 3 fun t10 =>
 xS 9 t10 t9 <|
 k1) <|
 k1) <|
 xF 34 t1 0 fun t11 =>
 xL 3 t11 fun t12 =>
 xO .and 3 t12 (.int .i64 3) fun t13 =>
 xF 34 t1 0 fun t14 =>
 xS 3 t14 t13 <|
 xF 34 t1 1 fun t15 =>
 xL 3 t15 fun t16 =>
 xO .and 3 t16 (.int .i64 15) fun t17 =>
 xF 34 t1 1 fun t18 =>
 xS 3 t18 t17 <|
 xF 34 t1 2 fun t19 =>
 xL 3 t19 fun t20 =>
 xO .and 3 t20 (.int .i64 15) fun t21 =>
 xF 34 t1 2 fun t22 =>
 xS 3 t22 t21 <|
 xF 34 t1 4 fun t23 =>
 xL 3 t23 fun t24 =>
 xO .and 3 t24 (.int .i64 63) fun t25 =>
 xF 34 t1 4 fun t26 =>
 xS 3 t26 t25 <|
 xF 34 t1 5 fun t27 =>
 xL 3 t27 fun t28 =>
 xO .and 3 t28 (.int .i64 63) fun t29 =>
 xF 34 t1 5 fun t30 =>
 xS 3 t30 t29 <|
 xL 34 t1 fun t31 =>
 xS 34 t2 t31 <|
 xD 34 t2 fun t2_1 =>
 K t2_1
theorem Tf (p0:Value):Lk 10 #[p0] (Mz p0):=lk [p0] [(2,[])] Tryz.func10
theorem X6:Ad Tryz.prog 10:=bd Tryz.func10
def N1 (p0:Value) (K:Value→World→Prop):World→Prop :=
 xA 45 fun t3 =>
 xC 86 [.const p0] [103] 4 fun t10 =>
 xW t10
 (xL 45 t3 fun t11 =>
 K t11) <|
 Ai <|
 xP (.nilCheck (.const p0)) 0 fun t13 =>
 qF 166 t13 0 fun t14 =>
 qL 164 t14 fun t15 =>
 xP (.nilCheck (.const p0)) 0 fun t17 =>
 qF 166 t17 1 fun t18 =>
 qL 49 t18 fun t19 =>
 xC 87 [.const t15,.const t19] [164,49] 163 fun t20 =>
 RngX Tryz.prog t20 2 (fun vs1 bg1 kn1 _ _ =>
 xA 49 fun t5 =>
 xS 49 t5 (Bt vs1 1) <|
 bg1 <|
 xC 88 [.const (Bt vs1 0)] [164] 4 fun t24 =>
 xN 4 t24 fun t25 =>
 xW t25
 (xL 49 t5 fun t28 =>
 xC 89 [.const (Bt vs1 0),.const t28] [164,49] 168 fun t29 =>
 xE t29 0 49 fun t30 =>
 xE t29 1 49 fun t31 =>
 xE t29 2 49 fun t32 =>
 xA 49 fun t6 =>
 xA 49 fun t7 =>
 xA 49 fun t8 =>
 xS 49 t6 t30 <|
 xS 49 t7 t31 <|
 xS 49 t8 t32 <|
 xL 45 t3 fun t33 =>
 xL 49 t7 fun t34 =>
 OpX Tryz.prog (.buildSlice 45 1 #[(0,.const t34)]) 45 fun t35 =>
 OpX Tryz.prog (.call { callee:=.builtin .append,args:=#[.const t33,.const t35],argTypes:=#[45,45] }) 45 fun t36 =>
 xS 45 t3 t36 <|
 kn1) <|
 kn1)
 (fun r1 =>
 xL 45 t3 fun t37 =>
 BL (B8 r1 (.tuple #[])) <|
 K t37)
 (fun _ _=>False)
 []
theorem VK (p0:Value):Lk 45 #[p0] (N1 p0):=lk [p0] [] Tryz.func45
theorem aH:Ad Tryz.prog 45:=bd Tryz.func45
def PF (p0:Value) (K:Value→World→Prop):World→Prop :=
 xA 53 fun t3 =>
 xC 86 [.const p0] [103] 4 fun t7 =>
 xW t7
 (xL 53 t3 fun t8 =>
 K t8) <|
 Ai <|
 xP (.nilCheck (.const p0)) 0 fun t10 =>
 qF 166 t10 0 fun t11 =>
 qL 164 t11 fun t12 =>
 xP (.nilCheck (.const p0)) 0 fun t14 =>
 qF 166 t14 1 fun t15 =>
 qL 49 t15 fun t16 =>
 xC 87 [.const t12,.const t16] [164,49] 163 fun t17 =>
 RngX Tryz.prog t17 2 (fun vs1 bg1 kn1 _ _ =>
 xA 49 fun t5 =>
 xS 49 t5 (Bt vs1 1) <|
 bg1 <|
 xC 88 [.const (Bt vs1 0)] [164] 4 fun t21 =>
 xW t21
 (Ai <|
 qL 53 t3 fun t22 =>
 xP (.nilCheck (.const (Bt vs1 0))) 0 fun t24 =>
 qF 171 t24 0 fun t25 =>
 qL 3 t25 fun t26 =>
 qL 49 t5 fun t27 =>
 OpX Tryz.prog (.build 59 #[(0,.const t26),(1,.const t27)]) 59 fun t28 =>
 xT (qZ 53 t3 t22) <|
 OpX Tryz.prog (.buildSlice 53 1 #[(0,.const t28)]) 53 fun t29 =>
 xT (qZ 53 t3 t22) <|
 OpX Tryz.prog (.call { callee:=.builtin .append,args:=#[.const t22,.const t29],argTypes:=#[53,53] }) 53 fun t30 =>
 xS 53 t3 t30 <|
 kn1) <|
 kn1)
 (fun r1 =>
 xL 53 t3 fun t31 =>
 BL (B8 r1 (.tuple #[])) <|
 K t31)
 (fun _ _=>False)
 []
theorem Ry (p0:Value):Lk 46 #[p0] (PF p0):=lk [p0] [] Tryz.func46
theorem F0:Ad Tryz.prog 46:=bd Tryz.func46
def Oz (p0 p1:Value) (K:Value→World→Prop):World→Prop :=
 xC 104 [.const p0,.const p1] [3,3] 4 fun t7 =>
 xN 4 t7 fun t8 =>
 xW t8
 (K (.pointer none)) <|
 OpX Tryz.prog (.build 171 #[(0,.const (.int .i64 1))]) 171 fun t9 =>
 OpX Tryz.prog (.box 171 (.const t9)) 164 fun t10 =>
 OpX Tryz.prog (.build 49 #[(2,.const p0),(3,.const p1)]) 49 fun t13 =>
 OpX Tryz.prog (.build 166 #[(0,.const t10),(1,.const t13),(2,.const (.int .i64 1))]) 166 fun t14 =>
 OpX Tryz.prog (.box 166 (.const t14)) 103 fun t15 =>
 K t15
theorem Ta (p0 p1:Value):Lk 55 #[p0,p1] (Oz p0 p1):=lk [p0,p1] [] Tryz.func55
theorem Ut:Ad Tryz.prog 55:=bd Tryz.func55
def PS (p0 p1 p2:Value) (K:Value→World→Prop):World→Prop :=
 xC 86 [.const p0] [103] 4 fun t9 =>
 xW t9
 (xC 26 [.const (.int .i64 13)] [86] 31 fun t10 =>
 K t10) <|
 xC 104 [.const p1,.const p2] [3,3] 4 fun t13 =>
 xN 4 t13 fun t14 =>
 xW t14
 (xC 26 [.const (.int .i64 1)] [86] 31 fun t15 =>
 K t15) <|
 OpX Tryz.prog (.build 49 #[(2,.const p1),(3,.const p2)]) 49 fun t18 =>
 xA 49 fun t7 =>
 xS 49 t7 t18 <|
 Ai <|
 xP (.nilCheck (.const p0)) 0 fun t20 =>
 qF 166 t20 0 fun t21 =>
 qL 164 t21 fun t22 =>
 qL 49 t7 fun t23 =>
 xC 127 [.const t22,.const t23] [164,49] 4 fun t24 =>
 xP (.unOp .not 4 (.const t24)) 4 fun t25 =>
 xW t25
 (xC 26 [.const (.int .i64 19)] [86] 31 fun t26 =>
 K t26) <|
 xL 49 t7 fun t28 =>
 OpX Tryz.prog (.nilCheck (.const p0)) 0 fun t29 =>
 xF 166 t29 1 fun t30 =>
 xS 49 t30 t28 <|
 K .nilIface
theorem V2 (p0 p1 p2:Value):Lk 65 #[p0,p1,p2] (PS p0 p1 p2):=lk [p0,p1,p2] [] Tryz.func65
theorem Om:Ad Tryz.prog 65:=bd Tryz.func65
def Mh (p0:Value) (K:Value→World→Prop):World→Prop :=
 Join1 (fun k1 =>
 xO .eql 103 p0 (.pointer none) fun t4 =>
 xW t4
 (k1 (.bool true)) <|
 OpX Tryz.prog (.nilCheck (.const p0)) 0 fun t7 =>
 xF 166 t7 0 fun t8 =>
 xL 164 t8 fun t9 =>
 xO .eql 164 t9 (.pointer none) fun t10 =>
 k1 t10) fun t2 =>
 K t2
theorem Xp (p0:Value):Lk 86 #[p0] (Mh p0):=lk [p0] [(3,[2])] Tryz.func86
theorem D8:Ad Tryz.prog 86:=bd Tryz.func86
def Ny (p0 p1:Value) (K:Value→World→Prop):World→Prop :=
 xB 164 p0 fun t2 =>
 xB 49 p1 fun t3 =>
 OpX Tryz.prog (.makeFunc (.func 142) #[] #[.const t2,.const t3]) 162 fun t5 =>
 K t5
theorem UP (p0 p1:Value):Lk 87 #[p0,p1] (Ny p0 p1):=lk [p0,p1] [] Tryz.func87
theorem Lr:Ad Tryz.prog 87:=bd Tryz.func87
def Nv (p0:Value) (K:Value→World→Prop):World→Prop :=
 OpX Tryz.prog (.nilCheck (.const p0)) 0 fun t4 =>
 xF 171 t4 4 fun t5 =>
 xL 164 t5 fun t6 =>
 xO .eql 164 t6 (.pointer none) fun t7 =>
 K t7
theorem RS (p0:Value):Lk 88 #[p0] (Nv p0):=lk [p0] [] Tryz.func88
theorem Df:Ad Tryz.prog 88:=bd Tryz.func88
def LG (p0 p1:Value) (K:Value→World→Prop):World→Prop :=
 xB 49 p1 fun t3 =>
 xA 49 fun t4 =>
 xA 49 fun t5 =>
 xA 49 fun t6 =>
 Ai <|
 qL 49 t3 fun t9 =>
 xP (.nilCheck (.const p0)) 0 fun t11 =>
 qF 171 t11 1 fun t12 =>
 qL 4 t12 fun t13 =>
 xC 145 [.const t9,.const t13] [49,4] 3 fun t14 =>
 xC 144 [.const p0,.const t14] [164,3] 3 fun t15 =>
 Ai <|
 qL 49 t3 fun t16 =>
 qL 49 t3 fun t17 =>
 qL 49 t3 fun t18 =>
 xS 49 t4 t16 <|
 xT (qZ 49 t3 t18) <|
 xT (qZ 49 t3 t17) <|
 xS 49 t5 t17 <|
 xT (qZ 49 t3 t18) <|
 xS 49 t6 t18 <|
 Join0 (fun k1 =>
 OpX Tryz.prog (.nilCheck (.const p0)) 0 fun t20 =>
 xF 171 t20 1 fun t21 =>
 xL 4 t21 fun t22 =>
 xW t22
 (xF 49 t4 2 fun t24 =>
 xS 3 t24 t15 <|
 xF 49 t5 2 fun t25 =>
 xS 3 t25 (.int .i64 1) <|
 xF 49 t3 0 fun t26 =>
 xL 3 t26 fun t27 =>
 xO .add 3 t27 t15 fun t29 =>
 xF 49 t5 0 fun t30 =>
 xS 3 t30 t29 <|
 Ai <|
 qF 49 t3 0 fun t31 =>
 qL 3 t31 fun t32 =>
 qP .add 3 t32 t15 fun t34 =>
 qP .add 3 t34 (.int .i64 1) fun t35 =>
 qF 49 t3 2 fun t36 =>
 qL 3 t36 fun t37 =>
 qP .sub 3 t37 t15 fun t39 =>
 qP .sub 3 t39 (.int .i64 1) fun t40 =>
 qF 49 t6 0 fun t41 =>
 xS 3 t41 t35 <|
 xT (qZ 3 t36 t37) <|
 qF 49 t6 2 fun t42 =>
 xS 3 t42 t40 <|
 k1) <|
 xF 49 t4 3 fun t44 =>
 xS 3 t44 t15 <|
 xF 49 t5 3 fun t45 =>
 xS 3 t45 (.int .i64 1) <|
 xF 49 t3 1 fun t46 =>
 xL 3 t46 fun t47 =>
 xO .add 3 t47 t15 fun t49 =>
 xF 49 t5 1 fun t50 =>
 xS 3 t50 t49 <|
 Ai <|
 qF 49 t3 1 fun t51 =>
 qL 3 t51 fun t52 =>
 qP .add 3 t52 t15 fun t54 =>
 qP .add 3 t54 (.int .i64 1) fun t55 =>
 qF 49 t3 3 fun t56 =>
 qL 3 t56 fun t57 =>
 qP .sub 3 t57 t15 fun t59 =>
 qP .sub 3 t59 (.int .i64 1) fun t60 =>
 qF 49 t6 1 fun t61 =>
 xS 3 t61 t55 <|
 xT (qZ 3 t56 t57) <|
 qF 49 t6 3 fun t62 =>
 xS 3 t62 t60 <|
 k1) <|
 Ai <|
 qL 49 t4 fun t63 =>
 qL 49 t5 fun t64 =>
 qL 49 t6 fun t65 =>
 xS 49 t4 t63 <|
 xT (qZ 49 t6 t65) <|
 xT (qZ 49 t5 t64) <|
 xS 49 t5 t64 <|
 xT (qZ 49 t6 t65) <|
 xS 49 t6 t65 <|
 xD 49 t4 fun t4_1 =>
 xD 49 t5 fun t5_1 =>
 xD 49 t6 fun t6_1 =>
 K (.tuple #[t4_1,t5_1,t6_1])
theorem UR (p0 p1:Value):Lk 89 #[p0,p1] (LG p0 p1):=lk [p0,p1] [(6,[])] Tryz.func89
theorem FT:Ad Tryz.prog 89:=bd Tryz.func89
def Ot (p0 p1:Value) (K:Value→World→Prop):World→Prop :=
 Join1 (fun k1 =>
 xO .geq 3 p0 (.int .i64 1) fun t6 =>
 xW t6
 (xO .leq 3 p0 (.int .i64 200) fun t9 =>
 xW t9
 (xO .geq 3 p1 (.int .i64 1) fun t13 =>
 xW t13
 (xO .leq 3 p1 (.int .i64 60) fun t17 =>
 k1 t17) <|
 k1 (.bool false)) <|
 k1 (.bool false)) <|
 k1 (.bool false)) fun t4 =>
 K t4
theorem Sm (p0 p1:Value):Lk 104 #[p0,p1] (Ot p0 p1):=lk [p0,p1] [(3,[4])] Tryz.func104
theorem Le:Ad Tryz.prog 104:=bd Tryz.func104
def KS (p0 p1:Value) (K:Value→World→Prop):World→Prop :=
 xC 46 [.const p0] [103] 53 fun t9 =>
 xU t9 53 fun t11 =>
 Loop1 (.int .i64 0) fun t12 next1 =>
 xO .lss 3 t12 t11 fun t13 =>
 xW t13
 (xI 53 t9 t12 fun t15 =>
 xL 59 t15 fun t16 =>
 xA 59 fun t7 =>
 xS 59 t7 t16 <|
 xF 59 t7 0 fun t17 =>
 xL 3 t17 fun t18 =>
 xO .eql 3 t18 p1 fun t20 =>
 xW t20
 (xO .add 3 t12 (.int .i64 1) fun t23 =>
 xU t9 53 fun t25 =>
 xO .rem 3 t23 t25 fun t26 =>
 xI 53 t9 t26 fun t27 =>
 xF 59 t27 0 fun t28 =>
 xL 3 t28 fun t29 =>
 K t29) <|
 xO .add 3 t12 (.int .i64 1) fun t30 =>
 next1 t30) <|
 K (.int .i64 0)
theorem R4 (p0 p1:Value):Lk 115 #[p0,p1] (KS p0 p1):=lk [p0,p1] [(8,[12])] Tryz.func115
theorem J2:Ad Tryz.prog 115:=bd Tryz.func115
def Ia (p0 p1:Value) (K:Value→World→Prop):World→Prop :=
 xB 49 p1 fun t3 =>
 xC 88 [.const p0] [164] 4 fun t9 =>
 xW t9
 (K (.bool true)) <|
 Ai <|
 qL 49 t3 fun t10 =>
 xP (.nilCheck (.const p0)) 0 fun t12 =>
 qF 171 t12 1 fun t13 =>
 qL 4 t13 fun t14 =>
 xC 145 [.const t10,.const t14] [49,4] 3 fun t15 =>
 qP .lss 3 t15 (.int .i64 3) fun t16 =>
 xW t16
 (K (.bool false)) <|
 xL 49 t3 fun t19 =>
 xC 89 [.const p0,.const t19] [164,49] 168 fun t20 =>
 xE t20 0 49 fun t21 =>
 xE t20 1 49 fun t22 =>
 xE t20 2 49 fun t23 =>
 xA 49 fun t5 =>
 xA 49 fun t6 =>
 xA 49 fun t7 =>
 xS 49 t5 t21 <|
 xS 49 t6 t22 <|
 xS 49 t7 t23 <|
 Ai <|
 Join1 (fun k1 =>
 xP (.nilCheck (.const p0)) 0 fun t25 =>
 qF 171 t25 4 fun t26 =>
 qL 164 t26 fun t27 =>
 qL 49 t5 fun t28 =>
 xC 127 [.const t27,.const t28] [164,49] 4 fun t29 =>
 xW t29
 (xP (.nilCheck (.const p0)) 0 fun t32 =>
 qF 171 t32 5 fun t33 =>
 qL 164 t33 fun t34 =>
 qL 49 t7 fun t35 =>
 xC 127 [.const t34,.const t35] [164,49] 4 fun t36 =>
 k1 t36) <|
 k1 (.bool false)) fun t4 =>
 K t4
theorem Mu (p0 p1:Value):Lk 127 #[p0,p1] (Ia p0 p1):=lk [p0,p1] [(21,[4])] Tryz.func127
theorem G8:Ad Tryz.prog 127:=bd Tryz.func127
def I8 (p0 p1 p2:Value) (K:Value→World→Prop):World→Prop :=
 xL 164 p1 fun t4 =>
 xL 49 p2 fun t5 =>
 xC 143 [.const t4,.const t5,.const p0] [164,49,234] 4 fun _ =>
 K (.tuple #[])
theorem Lm (p0 p1 p2:Value):Lk 142 #[p0,p1,p2] (I8 p0 p1 p2):=lk [p0,p1,p2] [] Tryz.func142
theorem Qa:Ad Tryz.prog 142:=bd Tryz.func142
def IZ (p0 p1 p2:Value) (K:Value→World→Prop):World→Prop :=
 xB 49 p1 fun t4 =>
 xC 88 [.const p0] [164] 4 fun t11 =>
 xW t11
 (xL 49 t4 fun t14 =>
 OpX Tryz.prog (.call { callee:=.value (.const p2),args:=#[.const p0,.const t14],argTypes:=#[164,49] }) 4 fun t15 =>
 K t15) <|
 xL 49 t4 fun t18 =>
 xC 89 [.const p0,.const t18] [164,49] 168 fun t19 =>
 xE t19 0 49 fun t20 =>
 xE t19 1 49 fun t21 =>
 xE t19 2 49 fun t22 =>
 xA 49 fun t7 =>
 xA 49 fun t8 =>
 xA 49 fun t9 =>
 xS 49 t7 t20 <|
 xS 49 t8 t21 <|
 xS 49 t9 t22 <|
 Ai <|
 Join1 (fun k1 =>
 xP (.nilCheck (.const p0)) 0 fun t24 =>
 qF 171 t24 4 fun t25 =>
 qL 164 t25 fun t26 =>
 qL 49 t7 fun t27 =>
 xC 143 [.const t26,.const t27,.const p2] [164,49,234] 4 fun t29 =>
 xW t29
 (qL 49 t4 fun t33 =>
 OpX Tryz.prog (.call { callee:=.value (.const p2),args:=#[.const p0,.const t33],argTypes:=#[164,49] }) 4 fun t34 =>
 xW t34
 (xP (.nilCheck (.const p0)) 0 fun t38 =>
 qF 171 t38 5 fun t39 =>
 qL 164 t39 fun t40 =>
 qL 49 t9 fun t41 =>
 xC 143 [.const t40,.const t41,.const p2] [164,49,234] 4 fun t43 =>
 k1 t43) <|
 k1 (.bool false)) <|
 k1 (.bool false)) fun t6 =>
 K t6
theorem OI (p0 p1 p2:Value):Lk 143 #[p0,p1,p2] (IZ p0 p1 p2):=lk [p0,p1,p2] [(13,[6])] Tryz.func143
theorem FO:Ad Tryz.prog 143:=bd Tryz.func143
def Px (p0 p1:Value) (K:Value→World→Prop):World→Prop :=
 Ai <|
 qP .sub 3 p1 (.int .i64 1) fun t6 =>
 xP (.nilCheck (.const p0)) 0 fun t8 =>
 qF 171 t8 2 fun t9 =>
 qL 3 t9 fun t10 =>
 qP .mul 3 t6 t10 fun t11 =>
 xP (.nilCheck (.const p0)) 0 fun t13 =>
 qF 171 t13 3 fun t14 =>
 qL 3 t14 fun t15 =>
 qP .quo 3 t11 t15 fun t16 =>
 xP (.call { callee:=.builtin .max,args:=#[.const t16,.const (.int .i64 1)],argTypes:=#[3,3] }) 3 fun t17 =>
 qP .sub 3 p1 (.int .i64 2) fun t19 =>
 xP (.call { callee:=.builtin .min,args:=#[.const t17,.const t19],argTypes:=#[3,3] }) 3 fun t20 =>
 K t20
theorem Tb (p0 p1:Value):Lk 144 #[p0,p1] (Px p0 p1):=lk [p0,p1] [] Tryz.func144
theorem OV:Ad Tryz.prog 144:=bd Tryz.func144
def K4 (p0 p1:Value) (K:Value→World→Prop):World→Prop :=
 xB 49 p0 fun t2 =>
 xW p1
 (xF 49 t2 2 fun t6 =>
 xL 3 t6 fun t7 =>
 K t7) <|
 xF 49 t2 3 fun t8 =>
 xL 3 t8 fun t9 =>
 K t9
theorem ay (p0 p1:Value):Lk 145 #[p0,p1] (K4 p0 p1):=lk [p0,p1] [] Tryz.func145
theorem Hh:Ad Tryz.prog 145:=bd Tryz.func145
def K3 (p0 p1 p2:Value) (K:Value→World→Prop):World→Prop :=
 xB 103 p0 fun t3 =>
 xB 3 p1 fun t4 =>
 xB 4 p2 fun t5 =>
 xL 103 t3 fun t11 =>
 xC 86 [.const t11] [103] 4 fun t12 =>
 xW t12
 (xC 26 [.const (.int .i64 13)] [86] 31 fun t13 =>
 K (.tuple #[(.int .i64 0),t13])) <|
 xL 103 t3 fun t14 =>
 xC 46 [.const t14] [103] 53 fun t15 =>
 xA 53 fun t8 =>
 xS 53 t8 t15 <|
 xA 3 fun t9 =>
 xS 3 t9 (.int .i64 0) <|
 xL 103 t3 fun t16 =>
 xL 3 t4 fun t17 =>
 OpX Tryz.prog (.makeFunc (.func 213) #[] #[.const t5,.const t8,.const t3,.const t9,.const t4]) 286 fun t18 =>
 xC 212 [.const t16,.const t17,.const t18] [103,3,286] 4 fun t19 =>
 xN 4 t19 fun t22 =>
 xW t22
 (xC 26 [.const (.int .i64 12)] [86] 31 fun t23 =>
 K (.tuple #[(.int .i64 0),t23])) <|
 xL 53 t8 fun t25 =>
 xU t25 53 fun t26 =>
 xO .geq 3 t26 (.int .i64 16) fun t27 =>
 xW t27
 (xC 26 [.const (.int .i64 15)] [86] 31 fun t28 =>
 K (.tuple #[(.int .i64 0),t28])) <|
 xL 3 t9 fun t30 =>
 xO .eql 3 t30 (.int .i64 0) fun t31 =>
 xW t31
 (xC 26 [.const (.int .i64 19)] [86] 31 fun t32 =>
 K (.tuple #[(.int .i64 0),t32])) <|
 xL 103 t3 fun t33 =>
 xL 3 t9 fun t34 =>
 OpX Tryz.prog (.nilCheck (.const t33)) 0 fun t35 =>
 xF 166 t35 2 fun t36 =>
 xS 3 t36 t34 <|
 xL 3 t9 fun t37 =>
 K (.tuple #[t37,.nilIface])
theorem RR (p0 p1 p2:Value):Lk 172 #[p0,p1,p2] (K3 p0 p1 p2):=lk [p0,p1,p2] [] Tryz.func172
theorem WG:Ad Tryz.prog 172:=bd Tryz.func172
def J8 (p0 p1 p2 p3:Value) (K:Value→World→Prop):World→Prop :=
 xC 86 [.const p0] [103] 4 fun t17 =>
 xW t17
 (xC 26 [.const (.int .i64 13)] [86] 31 fun t18 =>
 K t18) <|
 Ai <|
 xP (.nilCheck (.const p0)) 0 fun t20 =>
 qF 166 t20 0 fun t21 =>
 qL 164 t21 fun t22 =>
 xP (.nilCheck (.const p0)) 0 fun t24 =>
 qF 166 t24 1 fun t25 =>
 qL 49 t25 fun t26 =>
 xC 215 [.const t22,.const t26,.const p1] [164,49,3] 287 fun t28 =>
 xU t28 287 fun t30 =>
 xO .eql 3 t30 (.int .i64 0) fun t31 =>
 xW t31
 (xC 26 [.const (.int .i64 12)] [86] 31 fun t32 =>
 K t32) <|
 xU t28 287 fun t34 =>
 xO .sub 3 t34 (.int .i64 2) fun t35 =>
 Loop1 t35 fun t10 next1 =>
 xO .geq 3 t10 (.int .i64 0) fun t37 =>
 xW t37
 (xI 287 t28 t10 fun t42 =>
 xF 290 t42 0 fun t43 =>
 xL 164 t43 fun t44 =>
 OpX Tryz.prog (.nilCheck (.const t44)) 0 fun t46 =>
 xF 171 t46 1 fun t47 =>
 xL 4 t47 fun t48 =>
 xO .neq 4 t48 p2 fun t50 =>
 xW t50
 (xO .sub 3 t10 (.int .i64 1) fun t39 =>
 next1 t39) <|
 xI 287 t28 t10 fun t53 =>
 xF 290 t53 1 fun t54 =>
 xL 49 t54 fun t55 =>
 xC 145 [.const t55,.const p2] [49,4] 3 fun t57 =>
 xC 144 [.const t44,.const t57] [164,3] 3 fun t60 =>
 OpX Tryz.prog (.call { callee:=.builtin .max,args:=#[.const p3,.const (.int .i64 (-200))],argTypes:=#[3,3] }) 3 fun t62 =>
 OpX Tryz.prog (.call { callee:=.builtin .min,args:=#[.const t62,.const (.int .i64 200)],argTypes:=#[3,3] }) 3 fun t63 =>
 xO .add 3 t60 t63 fun t64 =>
 Ai <|
 xP (.nilCheck (.const t44)) 0 fun t66 =>
 qF 171 t66 2 fun t67 =>
 qL 3 t67 fun t68 =>
 xP (.nilCheck (.const t44)) 0 fun t70 =>
 qF 171 t70 3 fun t71 =>
 qL 3 t71 fun t72 =>
 OpX Tryz.prog (.call { callee:=.builtin .max,args:=#[.const t64,.const (.int .i64 1)],argTypes:=#[3,3] }) 3 fun t76 =>
 xO .sub 3 t57 (.int .i64 2) fun t78 =>
 OpX Tryz.prog (.call { callee:=.builtin .min,args:=#[.const t76,.const t78],argTypes:=#[3,3] }) 3 fun t79 =>
 xO .sub 3 t57 (.int .i64 1) fun t81 =>
 OpX Tryz.prog (.nilCheck (.const t44)) 0 fun t82 =>
 xF 171 t82 2 fun t83 =>
 xS 3 t83 t79 <|
 OpX Tryz.prog (.nilCheck (.const t44)) 0 fun t84 =>
 xF 171 t84 3 fun t85 =>
 xS 3 t85 t81 <|
 Ai <|
 xP (.nilCheck (.const p0)) 0 fun t87 =>
 qF 166 t87 0 fun t88 =>
 qL 164 t88 fun t89 =>
 xP (.nilCheck (.const p0)) 0 fun t91 =>
 qF 166 t91 1 fun t92 =>
 qL 49 t92 fun t93 =>
 xC 127 [.const t89,.const t93] [164,49] 4 fun t94 =>
 xP (.unOp .not 4 (.const t94)) 4 fun t95 =>
 xW t95
 (OpX Tryz.prog (.nilCheck (.const t44)) 0 fun t100 =>
 xF 171 t100 2 fun t101 =>
 xS 3 t101 t68 <|
 OpX Tryz.prog (.nilCheck (.const t44)) 0 fun t102 =>
 xF 171 t102 3 fun t103 =>
 xS 3 t103 t72 <|
 xC 26 [.const (.int .i64 19)] [86] 31 fun t104 =>
 K t104) <|
 K .nilIface) <|
 xC 26 [.const (.int .i64 13)] [86] 31 fun t105 =>
 K t105
theorem QU (p0 p1 p2 p3:Value):Lk 175 #[p0,p1,p2,p3] (J8 p0 p1 p2 p3):=lk [p0,p1,p2,p3] [(24,[10])] Tryz.func175
theorem XM:Ad Tryz.prog 175:=bd Tryz.func175
def MD (p0 p1 p2:Value) (K:Value→World→Prop):World→Prop :=
 Ai <|
 xP (.nilCheck (.const p0)) 0 fun t10 =>
 qF 166 t10 0 fun t11 =>
 qL 164 t11 fun t12 =>
 xP (.nilCheck (.const p0)) 0 fun t14 =>
 qF 166 t14 1 fun t15 =>
 qL 49 t15 fun t16 =>
 xC 215 [.const t12,.const t16,.const p1] [164,49,3] 287 fun t18 =>
 xU t18 287 fun t20 =>
 xO .eql 3 t20 (.int .i64 0) fun t21 =>
 xW t21
 (K (.bool false)) <|
 xU t18 287 fun t24 =>
 xO .sub 3 t24 (.int .i64 1) fun t25 =>
 xI 287 t18 t25 fun t26 =>
 xL 290 t26 fun t27 =>
 xA 290 fun t8 =>
 xS 290 t8 t27 <|
 xF 290 t8 0 fun t29 =>
 xL 164 t29 fun t30 =>
 xF 290 t8 1 fun t31 =>
 xL 49 t31 fun t32 =>
 OpX Tryz.prog (.call { callee:=.value (.const p2),args:=#[.const t30,.const t32],argTypes:=#[164,49] }) 0 fun _ =>
 K (.bool true)
theorem XC (p0 p1 p2:Value):Lk 212 #[p0,p1,p2] (MD p0 p1 p2):=lk [p0,p1,p2] [] Tryz.func212
theorem SL:Ad Tryz.prog 212:=bd Tryz.func212
def L2 (p0 p1 p2 p3 p4 p5 p6:Value) (K:Value→World→Prop):World→Prop :=
 xB 49 p1 fun t8 =>
 xL 49 t8 fun t10 =>
 xL 4 p2 fun t11 =>
 xC 145 [.const t10,.const t11] [49,4] 3 fun t12 =>
 Join1 (fun k1 =>
 xO .lss 3 t12 (.int .i64 3) fun t14 =>
 xW t14
 (k1 (.bool true)) <|
 xL 53 p3 fun t16 =>
 xU t16 53 fun t17 =>
 xO .geq 3 t17 (.int .i64 16) fun t18 =>
 k1 t18) fun t19 =>
 xW t19
 (K (.tuple #[])) <|
 xL 103 p4 fun t20 =>
 OpX Tryz.prog (.nilCheck (.const t20)) 0 fun t21 =>
 xF 166 t21 2 fun t22 =>
 xL 3 t22 fun t23 =>
 xO .add 3 t23 (.int .i64 1) fun t24 =>
 xS 3 p5 t24 <|
 xL 4 p2 fun t26 =>
 xO .quo 3 t12 (.int .i64 2) fun t28 =>
 xO .sub 3 t12 (.int .i64 1) fun t30 =>
 xL 3 p6 fun t31 =>
 OpX Tryz.prog (.build 171 #[(0,.const t31)]) 171 fun t32 =>
 OpX Tryz.prog (.box 171 (.const t32)) 164 fun t33 =>
 xL 3 p5 fun t34 =>
 OpX Tryz.prog (.build 171 #[(0,.const t34)]) 171 fun t35 =>
 OpX Tryz.prog (.box 171 (.const t35)) 164 fun t36 =>
 OpX Tryz.prog (.build 171 #[(1,.const t26),(2,.const t28),(3,.const t30),(4,.const t33),(5,.const t36)]) 171 fun t37 =>
 OpX Tryz.prog (.nilCheck (.const p0)) 0 fun t38 =>
 xS 171 t38 t37 <|
 K (.tuple #[])
theorem Wg (p0 p1 p2 p3 p4 p5 p6:Value):Lk 213 #[p0,p1,p2,p3,p4,p5,p6] (L2 p0 p1 p2 p3 p4 p5 p6):=lk [p0,p1,p2,p3,p4,p5,p6] [(6,[19])] Tryz.func213
theorem VU:Ad Tryz.prog 213:=bd Tryz.func213
def KL (p0 p1:Value) (K:Value→World→Prop):World→Prop :=
 xC 86 [.const p0] [103] 4 fun t9 =>
 xW t9
 (xC 26 [.const (.int .i64 13)] [86] 31 fun t10 =>
 K t10) <|
 Ai <|
 xP (.nilCheck (.const p0)) 0 fun t12 =>
 qF 166 t12 0 fun t13 =>
 qL 164 t13 fun t14 =>
 xP (.nilCheck (.const p0)) 0 fun t16 =>
 qF 166 t16 1 fun t17 =>
 qL 49 t17 fun t18 =>
 xC 215 [.const t14,.const t18,.const p1] [164,49,3] 287 fun t20 =>
 xU t20 287 fun t22 =>
 xO .eql 3 t22 (.int .i64 0) fun t23 =>
 xW t23
 (xC 26 [.const (.int .i64 12)] [86] 31 fun t24 =>
 K t24) <|
 xU t20 287 fun t26 =>
 xO .eql 3 t26 (.int .i64 1) fun t27 =>
 xW t27
 (xC 26 [.const (.int .i64 13)] [86] 31 fun t28 =>
 K t28) <|
 xU t20 287 fun t31 =>
 xO .sub 3 t31 (.int .i64 2) fun t32 =>
 xI 287 t20 t32 fun t33 =>
 xF 290 t33 0 fun t34 =>
 xL 164 t34 fun t35 =>
 OpX Tryz.prog (.nilCheck (.const t35)) 0 fun t37 =>
 xF 171 t37 4 fun t38 =>
 xL 164 t38 fun t39 =>
 Join1 (fun k1 =>
 xU t20 287 fun t43 =>
 xO .sub 3 t43 (.int .i64 1) fun t44 =>
 xI 287 t20 t44 fun t45 =>
 xF 290 t45 0 fun t46 =>
 xL 164 t46 fun t47 =>
 xO .eql 164 t39 t47 fun t48 =>
 xW t48
 (OpX Tryz.prog (.nilCheck (.const t35)) 0 fun t50 =>
 xF 171 t50 5 fun t51 =>
 xL 164 t51 fun t52 =>
 k1 t52) <|
 k1 t39) fun t7 =>
 OpX Tryz.prog (.nilCheck (.const t7)) 0 fun t55 =>
 xL 171 t55 fun t56 =>
 OpX Tryz.prog (.nilCheck (.const t35)) 0 fun t57 =>
 xS 171 t57 t56 <|
 K .nilIface
theorem QG (p0 p1:Value):Lk 214 #[p0,p1] (KL p0 p1):=lk [p0,p1] [(32,[7])] Tryz.func214
theorem SV:Ad Tryz.prog 214:=bd Tryz.func214
def HA (p0 p1 p2:Value) (K:Value→World→Prop):World→Prop :=
 xB 49 p1 fun t4 =>
 xL 49 t4 fun t13 =>
 OpX Tryz.prog (.build 290 #[(0,.const p0),(1,.const t13)]) 290 fun t14 =>
 xA 290 fun t7 =>
 xS 290 t7 t14 <|
 xC 88 [.const p0] [164] 4 fun t16 =>
 xW t16
 (OpX Tryz.prog (.nilCheck (.const p0)) 0 fun t18 =>
 xF 171 t18 0 fun t19 =>
 xL 3 t19 fun t20 =>
 xO .eql 3 t20 p2 fun t22 =>
 xW t22
 (xL 290 t7 fun t23 =>
 OpX Tryz.prog (.buildSlice 287 1 #[(0,.const t23)]) 287 fun t24 =>
 K t24) <|
 K (.slice none 0 0)) <|
 xL 49 t4 fun t27 =>
 xC 89 [.const p0,.const t27] [164,49] 168 fun t28 =>
 xE t28 0 49 fun t29 =>
 xE t28 1 49 fun t30 =>
 xE t28 2 49 fun t31 =>
 xA 49 fun t8 =>
 xA 49 fun t9 =>
 xA 49 fun t10 =>
 xS 49 t8 t29 <|
 xS 49 t9 t30 <|
 xS 49 t10 t31 <|
 Ai <|
 xP (.nilCheck (.const p0)) 0 fun t33 =>
 qF 171 t33 4 fun t34 =>
 qL 164 t34 fun t35 =>
 qL 49 t8 fun t36 =>
 xC 215 [.const t35,.const t36,.const p2] [164,49,3] 287 fun t38 =>
 Join1 (fun k1 =>
 xO .eql 287 t38 (.slice none 0 0) fun t40 =>
 xW t40
 (Ai <|
 xP (.nilCheck (.const p0)) 0 fun t42 =>
 qF 171 t42 5 fun t43 =>
 qL 164 t43 fun t44 =>
 qL 49 t10 fun t45 =>
 xC 215 [.const t44,.const t45,.const p2] [164,49,3] 287 fun t47 =>
 k1 t47) <|
 k1 t38) fun t11 =>
 xO .eql 287 t11 (.slice none 0 0) fun t49 =>
 xW t49
 (K (.slice none 0 0)) <|
 xL 290 t7 fun t50 =>
 OpX Tryz.prog (.buildSlice 287 1 #[(0,.const t50)]) 287 fun t51 =>
 OpX Tryz.prog (.call { callee:=.builtin .append,args:=#[.const t51,.const t11],argTypes:=#[287,287] }) 287 fun t53 =>
 K t53
theorem Oi (p0 p1 p2:Value):Lk 215 #[p0,p1,p2] (HA p0 p1 p2):=lk [p0,p1,p2] [(24,[11])] Tryz.func215
theorem Fl:Ad Tryz.prog 215:=bd Tryz.func215
def OL (p0 p1:Value) (K:Value→World→Prop):World→Prop :=
 xB 187 p0 fun t2 =>
 xL 187 t2 fun t13 =>
 xO .eql 187 t13 (.pointer none) fun t14 =>
 xW t14
 (K (.slice none 0 0)) <|
 xA 135 fun t5 =>
 xA 161 fun t6 =>
 OpX Tryz.prog (.makeFunc (.func 107) #[] #[.const t6,.const t5]) 1 fun t15 =>
 xA 1 fun t7 =>
 xS 1 t7 t15 <|
 OpX Tryz.prog (.makeFunc (.func 108) #[] #[.const t7,.const t5,.const t2]) 190 fun t16 =>
 xU p1 9 fun t18 =>
 Loop1 (.int .i64 0) fun t19 next1 =>
 xO .lss 3 t19 t18 fun t20 =>
 xW t20
 (Join0 (fun k2 =>
 OpX Tryz.prog (.index 9 (.const p1) (.const t19)) 5 fun t24 =>
 xL 187 t2 fun t35 =>
 OpX Tryz.prog (.nilCheck (.const t35)) 0 fun t36 =>
 xF 78 t36 1 fun t37 =>
 xL 4 t37 fun t38 =>
 xW t38
 (xL 187 t2 fun t39 =>
 OpX Tryz.prog (.nilCheck (.const t39)) 0 fun t40 =>
 xF 78 t40 1 fun t41 =>
 xS 4 t41 (.bool false) <|
 xO .eql 5 t24 (.int .u8 2) fun t43 =>
 xW t43
 (xL 161 t6 fun t44 =>
 OpX Tryz.prog (.buildSlice 161 1 #[(0,.const t24)]) 161 fun t46 =>
 OpX Tryz.prog (.call { callee:=.builtin .append,args:=#[.const t44,.const t46],argTypes:=#[161,161] }) 161 fun t47 =>
 xS 161 t6 t47 <|
 k2) <|
 xC 109 [.const (.string { data:=#[37,34,111,120,99,110,112,100,91,49,50,51,52,53,54,55,56,57,104,108,107,106] }),.const t24] [9,5] 3 fun t49 =>
 xO .geq 3 t49 (.int .i64 0) fun t51 =>
 xW t51
 (xC 110 [] [] 192 fun t53 =>
 OpX Tryz.prog (.index 192 (.const t53) (.const t49)) 189 fun t55 =>
 OpX Tryz.prog (.call { callee:=.value (.const t16),args:=#[.const t55],argTypes:=#[189] }) 0 fun _ =>
 k2) <|
 k2) <|
 xO .eql 5 t24 (.int .u8 2) fun t59 =>
 xW t59
 (xL 1 t7 fun t60 =>
 OpX Tryz.prog (.call { callee:=.value (.const t60),args:=#[],argTypes:=#[] }) 0 fun _ =>
 xL 187 t2 fun t62 =>
 OpX Tryz.prog (.nilCheck (.const t62)) 0 fun t63 =>
 xF 78 t63 1 fun t64 =>
 xS 4 t64 (.bool true) <|
 k2) <|
 xL 187 t2 fun t66 =>
 OpX Tryz.prog (.nilCheck (.const t66)) 0 fun t67 =>
 xF 78 t67 0 fun t68 =>
 xL 4 t68 fun t69 =>
 xN 4 t69 fun t70 =>
 xW t70
 (xL 161 t6 fun t71 =>
 OpX Tryz.prog (.buildSlice 161 1 #[(0,.const t24)]) 161 fun t73 =>
 OpX Tryz.prog (.call { callee:=.builtin .append,args:=#[.const t71,.const t73],argTypes:=#[161,161] }) 161 fun t74 =>
 xS 161 t6 t74 <|
 k2) <|
 xC 109 [.const (.string { data:=#[107,106,117,100,103,71,113] }),.const t24] [9,5] 3 fun t26 =>
 xO .geq 3 t26 (.int .i64 0) fun t28 =>
 xW t28
 (xC 111 [] [] 194 fun t30 =>
 OpX Tryz.prog (.index 194 (.const t30) (.const t26)) 189 fun t32 =>
 OpX Tryz.prog (.call { callee:=.value (.const t16),args:=#[.const t32],argTypes:=#[189] }) 0 fun _ =>
 k2) <|
 k2) <|
 xO .add 3 t19 (.int .i64 1) fun t75 =>
 next1 t75) <|
 xL 1 t7 fun t76 =>
 OpX Tryz.prog (.call { callee:=.value (.const t76),args:=#[],argTypes:=#[] }) 0 fun _ =>
 xL 135 t5 fun t78 =>
 K t78
theorem Sj (p0 p1:Value):Lk 57 #[p0,p1] (OL p0 p1):=lk [p0,p1] [(22,[19]),(29,[])] Tryz.func57
theorem aZ:Ad Tryz.prog 57:=bd Tryz.func57
def Py (p0:Value) (K:Value→World→Prop):World→Prop :=
 Join1 (fun k1 =>
 xO .neq 187 p0 (.pointer none) fun t4 =>
 xW t4
 (OpX Tryz.prog (.nilCheck (.const p0)) 0 fun t7 =>
 xF 78 t7 0 fun t8 =>
 xL 4 t8 fun t9 =>
 k1 t9) <|
 k1 (.bool false)) fun t2 =>
 K t2
theorem Za (p0:Value):Lk 85 #[p0] (Py p0):=lk [p0] [(3,[2])] Tryz.func85
theorem Sn:Ad Tryz.prog 85:=bd Tryz.func85
def NU (p0 p1:Value) (K:Value→World→Prop):World→Prop :=
 xL 161 p0 fun t2 =>
 xU t2 161 fun t3 =>
 xO .gtr 3 t3 (.int .i64 0) fun t4 =>
 xW t4
 (xL 135 p1 fun t5 =>
 xL 161 p0 fun t6 =>
 OpX Tryz.prog (.convert 161 9 (.const t6)) 9 fun t7 =>
 OpX Tryz.prog (.build 138 #[(0,.const (.int .i64 1)),(2,.const t7)]) 138 fun t8 =>
 OpX Tryz.prog (.buildSlice 135 1 #[(0,.const t8)]) 135 fun t9 =>
 OpX Tryz.prog (.call { callee:=.builtin .append,args:=#[.const t5,.const t9],argTypes:=#[135,135] }) 135 fun t10 =>
 xS 135 p1 t10 <|
 xS 161 p0 (.slice none 0 0) <|
 K (.tuple #[])) <|
 K (.tuple #[])
theorem Qx (p0 p1:Value):Lk 107 #[p0,p1] (NU p0 p1):=lk [p0,p1] [] Tryz.func107
theorem IJ:Ad Tryz.prog 107:=bd Tryz.func107
def O5 (p0 p1 p2 p3:Value) (K:Value→World→Prop):World→Prop :=
 xB 189 p0 fun t4 =>
 xL 1 p1 fun t5 =>
 OpX Tryz.prog (.call { callee:=.value (.const t5),args:=#[],argTypes:=#[] }) 0 fun _ =>
 xL 135 p2 fun t7 =>
 xF 189 t4 0 fun t8 =>
 xL 3 t8 fun t9 =>
 xF 189 t4 1 fun t10 =>
 xL 3 t10 fun t11 =>
 OpX Tryz.prog (.build 138 #[(0,.const t9),(1,.const t11)]) 138 fun t12 =>
 OpX Tryz.prog (.buildSlice 135 1 #[(0,.const t12)]) 135 fun t13 =>
 OpX Tryz.prog (.call { callee:=.builtin .append,args:=#[.const t7,.const t13],argTypes:=#[135,135] }) 135 fun t14 =>
 xS 135 p2 t14 <|
 xF 189 t4 0 fun t15 =>
 xL 3 t15 fun t16 =>
 xO .eql 3 t16 (.int .i64 14) fun t18 =>
 xW t18
 (xL 187 p3 fun t19 =>
 OpX Tryz.prog (.nilCheck (.const t19)) 0 fun t20 =>
 xF 78 t20 0 fun t21 =>
 xS 4 t21 (.bool true) <|
 K (.tuple #[])) <|
 xO .eql 3 t16 (.int .i64 12) fun t23 =>
 xW t23
 (xL 187 p3 fun t24 =>
 OpX Tryz.prog (.nilCheck (.const t24)) 0 fun t25 =>
 xF 78 t25 0 fun t26 =>
 xS 4 t26 (.bool false) <|
 K (.tuple #[])) <|
 K (.tuple #[])
theorem VB (p0 p1 p2 p3:Value):Lk 108 #[p0,p1,p2,p3] (O5 p0 p1 p2 p3):=lk [p0,p1,p2,p3] [] Tryz.func108
theorem Ow:Ad Tryz.prog 108:=bd Tryz.func108
def KI (K:Value→World→Prop):World→Prop :=
 xA 192 fun t0 =>
 OpX Tryz.prog (.build 189 #[(0,.const (.int .i64 2)),(1,.const (.int .i64 0))]) 189 fun t1 =>
 OpX Tryz.prog (.build 189 #[(0,.const (.int .i64 3)),(1,.const (.int .i64 0))]) 189 fun t2 =>
 OpX Tryz.prog (.build 189 #[(0,.const (.int .i64 4)),(1,.const (.int .i64 0))]) 189 fun t3 =>
 OpX Tryz.prog (.build 189 #[(0,.const (.int .i64 5)),(1,.const (.int .i64 0))]) 189 fun t4 =>
 OpX Tryz.prog (.build 189 #[(0,.const (.int .i64 6)),(1,.const (.int .i64 0))]) 189 fun t5 =>
 OpX Tryz.prog (.build 189 #[(0,.const (.int .i64 7)),(1,.const (.int .i64 0))]) 189 fun t6 =>
 OpX Tryz.prog (.build 189 #[(0,.const (.int .i64 8)),(1,.const (.int .i64 0))]) 189 fun t7 =>
 OpX Tryz.prog (.build 189 #[(0,.const (.int .i64 13)),(1,.const (.int .i64 0))]) 189 fun t8 =>
 OpX Tryz.prog (.build 189 #[(0,.const (.int .i64 14)),(1,.const (.int .i64 0))]) 189 fun t9 =>
 OpX Tryz.prog (.build 189 #[(0,.const (.int .i64 9)),(1,.const (.int .i64 1))]) 189 fun t10 =>
 OpX Tryz.prog (.build 189 #[(0,.const (.int .i64 9)),(1,.const (.int .i64 2))]) 189 fun t11 =>
 OpX Tryz.prog (.build 189 #[(0,.const (.int .i64 9)),(1,.const (.int .i64 3))]) 189 fun t12 =>
 OpX Tryz.prog (.build 189 #[(0,.const (.int .i64 9)),(1,.const (.int .i64 4))]) 189 fun t13 =>
 OpX Tryz.prog (.build 189 #[(0,.const (.int .i64 9)),(1,.const (.int .i64 5))]) 189 fun t14 =>
 OpX Tryz.prog (.build 189 #[(0,.const (.int .i64 9)),(1,.const (.int .i64 6))]) 189 fun t15 =>
 OpX Tryz.prog (.build 189 #[(0,.const (.int .i64 9)),(1,.const (.int .i64 7))]) 189 fun t16 =>
 OpX Tryz.prog (.build 189 #[(0,.const (.int .i64 9)),(1,.const (.int .i64 8))]) 189 fun t17 =>
 OpX Tryz.prog (.build 189 #[(0,.const (.int .i64 9)),(1,.const (.int .i64 9))]) 189 fun t18 =>
 OpX Tryz.prog (.build 189 #[(0,.const (.int .i64 10)),(1,.const (.int .i64 1))]) 189 fun t19 =>
 OpX Tryz.prog (.build 189 #[(0,.const (.int .i64 10)),(1,.const (.int .i64 2))]) 189 fun t20 =>
 OpX Tryz.prog (.build 189 #[(0,.const (.int .i64 10)),(1,.const (.int .i64 3))]) 189 fun t21 =>
 OpX Tryz.prog (.build 189 #[(0,.const (.int .i64 10)),(1,.const (.int .i64 4))]) 189 fun t22 =>
 OpX Tryz.prog (.build 192 #[(0,.const t1),(1,.const t2),(2,.const t3),(3,.const t4),(4,.const t5),(5,.const t6),(6,.const t7),(7,.const t8),(8,.const t9),(9,.const t10),(10,.const t11),(11,.const t12),(12,.const t13),(13,.const t14),(14,.const t15),(15,.const t16),(16,.const t17),(17,.const t18),(18,.const t19),(19,.const t20),(20,.const t21),(21,.const t22)]) 192 fun t23 =>
 xS 192 t0 t23 <|
 xD 192 t0 fun t0_1 =>
 K t0_1
theorem SY:Lk 110 #[] (KI):=lk [] [] Tryz.func110
theorem Qz:Ad Tryz.prog 110:=bd Tryz.func110
def JD (K:Value→World→Prop):World→Prop :=
 xA 194 fun t0 =>
 OpX Tryz.prog (.build 189 #[(0,.const (.int .i64 11)),(1,.const (.int .i64 1))]) 189 fun t1 =>
 OpX Tryz.prog (.build 189 #[(0,.const (.int .i64 11)),(1,.const (.int .i64 (-1)))]) 189 fun t2 =>
 OpX Tryz.prog (.build 189 #[(0,.const (.int .i64 11)),(1,.const (.int .i64 10))]) 189 fun t3 =>
 OpX Tryz.prog (.build 189 #[(0,.const (.int .i64 11)),(1,.const (.int .i64 (-10)))]) 189 fun t4 =>
 OpX Tryz.prog (.build 189 #[(0,.const (.int .i64 11)),(1,.const (.int .i64 1000))]) 189 fun t5 =>
 OpX Tryz.prog (.build 189 #[(0,.const (.int .i64 11)),(1,.const (.int .i64 (-1000)))]) 189 fun t6 =>
 OpX Tryz.prog (.build 189 #[(0,.const (.int .i64 12)),(1,.const (.int .i64 0))]) 189 fun t7 =>
 OpX Tryz.prog (.build 194 #[(0,.const t1),(1,.const t2),(2,.const t3),(3,.const t4),(4,.const t5),(5,.const t6),(6,.const t7)]) 194 fun t8 =>
 xS 194 t0 t8 <|
 xD 194 t0 fun t0_1 =>
 K t0_1
theorem ZH:Lk 111 #[] (JD):=lk [] [] Tryz.func111
theorem QD:Ad Tryz.prog 111:=bd Tryz.func111
def Nf (p0:Value) (K:Value→World→Prop):World→Prop :=
 xO .neq 187 p0 (.pointer none) fun t3 =>
 xW t3
 (OpX Tryz.prog (.nilCheck (.const p0)) 0 fun t5 =>
 xF 78 t5 0 fun t6 =>
 xS 4 t6 (.bool false) <|
 K (.tuple #[])) <|
 K (.tuple #[])
theorem aW (p0:Value):Lk 173 #[p0] (Nf p0):=lk [p0] [] Tryz.func173
theorem SS:Ad Tryz.prog 173:=bd Tryz.func173
def strings_IndexByte (p0 p1:Value) (K:Value→World→Prop):World→Prop :=
 xC 171 [.const p0,.const p1] [9,5] 3 fun t7 =>
 K t7
theorem Lj:Ad Tryz.prog 109:=bd Tryz.func109
end Go.Proofs.YtelplojmbjnplaaGreat
namespace Lyc
open Go
section
variable {P:Program}
@[go_sem] theorem E5 (t ty:TypeId) (parts:List (Nat × Operand)) (K:Value→World→Prop) (w:World) (_ht:Ag P t=some 2) :
  OpX P (.build t parts.toArray) ty K w=OrK ((AB P t).bind fun z=>(Bc P t).bind fun nm=>(Bg parts).bind (CB (Ch nm.2 nm.1 0) z.cells)) (fun c=>K (.agg c) w) (OpX P (.build t parts.toArray) ty K w) ():=by
 refine AF (fun c h=>?_) rfl
 obtain⟨z,hz,h⟩:=Option.bind_eq_some_iff.1 h
 obtain⟨⟨n,m⟩,hnm,h⟩:=Option.bind_eq_some_iff.1 h
 obtain⟨vs,hv,hf⟩:=Option.bind_eq_some_iff.1 h
 refine Ba fun ρ hg=>?_
 unfold Bc at hnm
 cases hu:P.underlying t with
 | none=>rw[hu] at hnm;simp at hnm
 | some d =>
  rw[hu] at hnm
  cases d<;>simp at hnm
  rename_i len e
  obtain⟨hs,rfl⟩:=hnm
  have hfill:=G3 (fun j=>some (j*m,m)) (Ch m len 0) (fun j x hx=>by simpa using IX _ _ _ _ _ hx) vs z.cells c hf
  have hp:=D7 hg hv
  simp only[execOp,An,Instr.build,Sem.run_bind,DH hz,Result.andThen_ok,run_underlying hu,Bm hs,List.map_toArray,hp,hfill]
  rfl
def Oa (P:Program) (t:TypeId) (parts:List (Nat × Operand)):Option (Array Value) :=
 match Ag P t with
 | some 2=>(AB P t).bind fun z=>(Bc P t).bind fun nm=>(Bg parts).bind (CB (Ch nm.2 nm.1 0) z.cells)
 | _=>(AB P t).bind fun z=>(AT P t).bind fun pl=>(Bg parts).bind (CB pl z.cells)
theorem OpX.build {t ty:TypeId} {parts:List (Nat × Operand)} {K:Value→World→Prop} {w:World} {c:Array Value} (h:Oa P t parts=some c) (hk:K (.agg c) w):OpX P (.build t parts.toArray) ty K w:=by
 unfold Oa at h
 split at h
 ·rename_i ht
  rw[E5 t ty parts K w ht,h];exact hk
 ·rw[MB,h];exact hk
theorem IF (c:Array Value) (e:TypeId) (vs:List Value) (h:vs.length=c.size):Ax (some (.cells c e (0,0))) 0 vs=some (.cells vs.toArray e):=by
 rw[Fk,if_pos (by omega)]
 unfold spl
 simp [h]
theorem OpX.fresh {t ty ty':TypeId} {v z:Value} {M:Value→Value→World→Prop} {w:World} (hz:AB P t=some z) (hn:Ak P t=some v.cells.size) (hs:z.cells.size=v.cells.size) (hok:AO v.cells.toList=true)
  (h:M (.pointer (some ⟨w.heap.size,0,none⟩)) undef (w.alloc (.cells v.cells t))) :
  OpX P (.alloc t) ty (fun p w=>OpX P (.store t (.const p) (.const v)) ty' (M p) w) w:=by
 rw[IN,hz,Dh,Eo _ _ _ _ _ _ _ hn hok,heap_alloc_new _ _ _ rfl,IF _ _ _ (by simp [hs]),Es,II _ _ _ _ rfl]
 exact h
def Dp (P:Program) (e:TypeId) (cs:Array Value) (off:Nat):Option Value :=
 (Al P e).bind fun b=>bif b then(Ak P e).map fun n=>.agg (cs.extract off (off+n)) else cs[off]?
theorem Gk {e:TypeId} {cs:Array Value} {off:Nat} {v:Value} (h:Dp P e cs off=some v) (w:World):(part e cs off).run P w=.ok v w:=by
 unfold Dp at h
 obtain⟨b,hb,h⟩:=Option.bind_eq_some_iff.1 h
 unfold part
 cases b with
 | true =>
  simp only[cond_true] at h
  obtain⟨n,hn,rfl⟩:=Option.map_eq_some_iff.1 h
  simp [GN hb,Bm hn]
 | false =>
  simp only[cond_false] at h
  simp [GN hb,h]
def DT (P:Program) (t:TypeId) (cs:Array Value) (i:Int):Option Value :=
 (Ay P t).bind fun e=>(Bc P t).bind fun nm=>if 0≤i∧i<nm.1 then Dp P e cs (i.toNat*nm.2) else none
theorem Vd (t ty:TypeId) (cs:Array Value) (k:IntKind) (i:Int) (v:Value) (h:DT P t cs i=some v):PureRun P (.index t (.const (.agg cs)) (.const (.int k i))) ty v:=by
 unfold DT at h
 obtain⟨e,he,h⟩:=Option.bind_eq_some_iff.1 h
 obtain⟨⟨n,m⟩,hnm,h⟩:=Option.bind_eq_some_iff.1 h
 dsimp only at h
 split at h
 ·rename_i hi
  unfold Bc at hnm
  unfold Ay at he
  cases hu:P.underlying t with
  | none=>rw[hu] at hnm;simp at hnm
  | some d =>
   rw[hu] at hnm he
   cases d<;>simp at hnm he
   rename_i len e'
   subst he
   obtain⟨hs,rfl⟩:=hnm
   exact⟨fun ρ hg w=>by
    have hp:=Gk h w
    simp [execOp,An,hg.1,Instr.index,asIntOf,run_underlying hu,Bm hs,hi.1,hi.2,hp]⟩
 ·simp at h
@[go_sem] theorem LR (t ty:TypeId) (cs:Array Value) (k:IntKind) (i:Int) (K:Value→World→Prop) (w:World):OpX P (.index t (.const (.agg cs)) (.const (.int k i))) ty K w=OrK (DT P t cs i) (fun v=>K v w) (OpX P (.index t (.const (.agg cs)) (.const (.int k i))) ty K w) () :=
 AF (fun v h=>(Vd t ty cs k i v h).op K w) rfl
def Hm (P:Program) (t:TypeId) (cs:Array Value) (i:Nat):Option Value :=
 (I3 P t i).bind fun e=>(Aj P t i).bind fun p=>Dp P e cs p.1
theorem V9 (t ty:TypeId) (cs:Array Value) (i:Nat) (v:Value) (h:Hm P t cs i=some v):PureRun P (.field t (.const (.agg cs)) i) ty v:=by
 unfold Hm at h
 obtain⟨e,he,h⟩:=Option.bind_eq_some_iff.1 h
 obtain⟨p,hp,h⟩:=Option.bind_eq_some_iff.1 h
 unfold I3 at he
 unfold Aj at hp
 cases hu:P.underlying t with
 | none=>rw[hu] at hp;simp at hp
 | some d =>
  rw[hu] at hp he
  cases d with
  | struct fs =>
   dsimp only[Option.bind] at hp he
   cases hf:fs[i]? with
   | none=>rw[hf] at hp;simp at hp
   | some f =>
    rw[hf] at hp he
    simp only[Option.map_some,Option.some.injEq] at he
    obtain⟨j,hj,rfl⟩:=Option.map_eq_some_iff.1 hp
    subst he
    exact⟨fun ρ hg w=>by
     have hq:=Gk h w
     simp [execOp,An,hg.1,Instr.field,run_underlying hu,hf,asAgg,hq]⟩
  | _=>simp at hp
@[go_sem] theorem cY (t ty:TypeId) (cs:Array Value) (i:Nat) (K:Value→World→Prop) (w:World):OpX P (.field t (.const (.agg cs)) i) ty K w=OrK (Hm P t cs i) (fun v=>K v w) (OpX P (.field t (.const (.agg cs)) i) ty K w) () :=
 AF (fun v h=>(V9 t ty cs i v h).op K w) rfl
attribute [go_sem] Hm Dp
@[go_sem] theorem bY {α:Type} (a b:Option α) (f:α→Prop) (d:Prop):OrK (bif false then a else b) f d ()=OrK b f d ():=rfl
def chL (s:ByteArray) (i:Int):Option Value:=if 0≤i then(s[i.toNat]?).map fun b=>.int .u8 b.toNat else none
theorem YA (t ty:TypeId) (s:ByteArray) (k:IntKind) (i:Int) (v:Value) (ht:Ag P t=some 3) (h:chL s i=some v):PureRun P (.index t (.const (.string s)) (.const (.int k i))) ty v:=by
 unfold chL at h
 split at h
 ·rename_i hi
  obtain⟨b,hb,rfl⟩:=Option.map_eq_some_iff.1 h
  exact⟨fun ρ hg w=>by simp [execOp,An,hg.1,Instr.index,asIntOf,run_underlying (Fb ht),hi,hb]⟩
 ·simp at h
@[go_sem] theorem eX (t ty:TypeId) (s:ByteArray) (k:IntKind) (i:Int) (K:Value→World→Prop) (w:World) (ht:Ag P t=some 3):OpX P (.index t (.const (.string s)) (.const (.int k i))) ty K w=OrK (chL s i) (fun v=>K v w) (OpX P (.index t (.const (.string s)) (.const (.int k i))) ty K w) () :=
 AF (fun v h=>(YA t ty s k i v ht h).op K w) rfl
theorem PO (t ty:TypeId) (b o len cap n:Nat) (k k' k'':IntKind) (i j q:Int) (h:AH P t=some n) (h0:0≤i) (h1:i≤j) (h2:j≤q) (h3:q≤cap):PureRun P (.slice t (.const (.slice (some ⟨b,o,none⟩) len cap)) (some (.const (.int k i))) (some (.const (.int k' j))) (some (.const (.int k'' q)))) ty (.slice (some ⟨b,slo o q.toNat i.toNat n,none⟩) (j.toNat-i.toNat) (q.toNat-i.toNat)):=by
 obtain⟨e,hu,hs⟩:=DE h
 refine⟨fun ρ hg w=>?_⟩
 have h4:0≤q:=by omega
 have h5:0≤j:=by omega
 have h6:j≤max q 0:=by omega
 have h7:i≤max j 0:=by omega
 simp [execOp,An,hg.1,Instr.sliceAt,Instr.slice,Instr.sliceBounds,Instr.sliceBound,asIntOf,run_underlying hu,Bm hs,h0,h3,h4,h5,Gp]
 rw[if_pos h6]
 simp [h7,Gp]
@[go_sem] theorem ez (t ty:TypeId) (b o len cap:Nat) (k k' k'':IntKind) (i j q:Int) (K:Value→World→Prop) (w:World) (h0:0≤i) (h1:i≤j) (h2:j≤q) (h3:q≤cap):OpX P (.slice t (.const (.slice (some ⟨b,o,none⟩) len cap)) (some (.const (.int k i))) (some (.const (.int k' j))) (some (.const (.int k'' q)))) ty K w=OrK (AH P t) (fun n=>K (.slice (some ⟨b,slo o q.toNat i.toNat n,none⟩) (j.toNat-i.toNat) (q.toNat-i.toNat)) w) (OpX P (.slice t (.const (.slice (some ⟨b,o,none⟩) len cap)) (some (.const (.int k i))) (some (.const (.int k' j))) (some (.const (.int k'' q)))) ty K w) () :=
 AF (fun n h=>(PO t ty b o len cap n k k' k'' i j q h h0 h1 h2 h3).op K w) rfl
@[go_sem] theorem fi (t ty:TypeId) (b o len cap:Nat) (k k' k'':IntKind) (i j q:Int) (K:Value→Prop) (h0:0≤i) (h1:i≤j) (h2:j≤q) (h3:q≤cap):PurX P (.slice t (.const (.slice (some ⟨b,o,none⟩) len cap)) (some (.const (.int k i))) (some (.const (.int k' j))) (some (.const (.int k'' q)))) ty K ()=OrK (AH P t) (fun n=>K (.slice (some ⟨b,slo o q.toNat i.toNat n,none⟩) (j.toNat-i.toNat) (q.toNat-i.toNat))) (PurX P (.slice t (.const (.slice (some ⟨b,o,none⟩) len cap)) (some (.const (.int k i))) (some (.const (.int k' j))) (some (.const (.int k'' q)))) ty K ()) () :=
 AF (fun n h=>(PO t ty b o len cap n k k' k'' i j q h h0 h1 h2 h3).pur K) rfl
def eqI:Option Value→Option Value→Option Bool
 | some (.int k a),some (.int k' b)=>if k=k' then some (decide (a=b)) else none
 | _,_=>none
def eqB:Option Value→Option Value→Option Bool
 | some (.bool a),some (.bool b)=>some (a == b)
 | _,_=>none
def eqS:Option Value→Option Value→Option Bool
 | some (.string a),some (.string b)=>some (a.toList == b.toList)
 | _,_=>none
def eq1 (k:Nat) (u v:Option Value):Option Bool:=if k=8 then eqI u v else if k=9 then eqB u v else eqS u v
theorem T9 {u v:Option Value} {b:Bool} (h:eqI u v=some b):∃k x y,u=some (.int k x)∧v=some (.int k y)∧b=decide (x=y):=by
 unfold eqI at h
 split at h
 ·split at h
  ·rename_i hk;subst hk;simp at h;exact⟨_,_,_,rfl,rfl,h.symm⟩
  ·simp at h
 ·simp at h
theorem ZV {u v:Option Value} {b:Bool} (h:eqB u v=some b):∃x y,u=some (.bool x)∧v=some (.bool y)∧b=(x == y):=by
 unfold eqB at h
 split at h
 ·simp at h;exact⟨_,_,rfl,rfl,h.symm⟩
 ·simp at h
theorem Z5 {u v:Option Value} {b:Bool} (h:eqS u v=some b):∃x y,u=some (.string x)∧v=some (.string y)∧b=(x.toList == y.toList):=by
 unfold eqS at h
 split at h
 ·simp at h;exact⟨_,_,rfl,rfl,h.symm⟩
 ·simp at h
def Cz (xs ys:Array Value):List (Nat × Nat)→Option Bool
 | []=>some true
 | p::l=>(eq1 p.2 xs[p.1]? ys[p.1]?).bind fun b=>(Cz xs ys l).map fun r=>b && r
@[go_sem] theorem eF (xs ys:Array Value):Cz xs ys []=some true:=rfl
@[go_sem] theorem X1 (xs ys:Array Value) (p:Nat × Nat) (l:List (Nat × Nat)):Cz xs ys (p::l)=(eq1 p.2 xs[p.1]? ys[p.1]?).bind fun b=>(Cz xs ys l).map fun r=>b && r:=rfl
@[go_sem] theorem gT (k:IntKind) (a b:Int):eq1 8 (some (.int k a)) (some (.int k b))=some (decide (a=b)):=by simp [eq1,eqI]
theorem VZ {t:TypeId} (h:Ag P t=some 8):∃k,P.underlying t=some (.int k):=by
 unfold Ag at h
 cases hu:P.underlying t with
 | none=>rw[hu] at h;simp at h
 | some d=>rw[hu] at h;cases d<;>simp at h;exact⟨_,rfl⟩
theorem Oc (d:Nat) (xs ys:Array Value) (w:World):∀(fs:List Field) (l:List (Nat × Nat)) (r:Bool),EW P fs=some l→Cz xs ys l=some r→(Op.eqFields (d+1) xs ys fs).run P w=.ok r w
 | [],l,r,h,h2=>by
  simp [EW] at h;subst h
  simp [Cz] at h2;subst h2
  simp [Op.eqFields]
 | f::fs,l,r,h,h2=>by
  unfold EW at h
  split at h
  ·simp at h
  ·rename_i hn
   obtain⟨k,hk,h⟩:=Option.bind_eq_some_iff.1 h
   obtain⟨b,hb,h⟩:=Option.bind_eq_some_iff.1 h
   cases b with
   | true=>simp at h
   | false =>
    simp only[cond_false] at h
    split at h
    ·rename_i hk3
     obtain⟨l',hl',rfl⟩:=Option.map_eq_some_iff.1 h
     rw[X1] at h2
     obtain⟨b,h3,h2⟩:=Option.bind_eq_some_iff.1 h2
     obtain⟨r',h4,rfl⟩:=Option.map_eq_some_iff.1 h2
     have ih:=Oc d xs ys w fs l' r' hl' h4
     dsimp only at h3
     have key:∃u v,xs[f.offset]?=some u∧ys[f.offset]?=some v∧(Op.equalIn (d+1) f.type u v).run P w=.ok b w:=by
      rcases hk3 with rfl|rfl|rfl
      ·obtain⟨kk,hu⟩:=VZ hk
       obtain⟨k,x,y,e1,e2,rfl⟩:=T9 h3
       refine⟨_,_,e1,e2,?_⟩
       simp [Op.equalIn,run_underlying hu]
       rfl
      ·have hu:=LP hk
       obtain⟨x,y,e1,e2,rfl⟩:=ZV h3
       exact⟨_,_,e1,e2,by simp [Op.equalIn,run_underlying hu]⟩
      ·have hu:=Fb hk
       obtain⟨x,y,e1,e2,rfl⟩:=Z5 h3
       refine⟨_,_,e1,e2,?_⟩
       simp [Op.equalIn,run_underlying hu,beq_toListBytes]
     obtain⟨u,v,hu,hv,hr⟩:=key
     have hpu:(part f.type xs f.offset).run P w=.ok u w:=Gk (by simp [Dp,hb,hu]) w
     have hpv:(part f.type ys f.offset).run P w=.ok v w:=Gk (by simp [Dp,hb,hv]) w
     simp only[Op.eqFields,hn,ne_eq,not_false_eq_true,if_true,Sem.run_bind,hpu,hpv,Result.andThen_ok,hr]
     cases b<;>simp [ih]
    ·simp at h
theorem M7 {t:TypeId} {xs ys:Array Value} {l:List (Nat × Nat)} {r:Bool} (h:BP P t=some l) (h2:Cz xs ys l=some r) :
  (∀op x y w,(eqGuard op t x y (.agg xs) (.agg ys)).run P w=.ok () w)∧∀w,(Op.equal t (.agg xs) (.agg ys)).run P w=.ok r w:=by
 unfold BP at h
 cases hu:P.underlying t with
 | none=>rw[hu] at h;simp at h
 | some d =>
  rw[hu] at h
  cases d<;>first|(simp at h;done)|skip
  rename_i fs
  simp only[Option.bind_some] at h
  split at h
  ·simp at h
  ·rename_i hs
   simp only[Bool.or_eq_true,not_or,Bool.not_eq_true] at hs
   constructor
   ·intro op x y w
    unfold eqGuard
    cases op<;>simp [hs.2]
   ·intro w
    have hff:P.fieldsOf t=fs:=by simp [Program.fieldsOf,hu]
    have:=run_equalIn_struct (P:=P) w 9999 t xs ys (by rw[hff];exact hu) hs.1
    unfold Op.equal Op.maxDepth
    rw[this,hff]
    exact Oc 9998 xs ys w fs.toList l r h h2
theorem Vw {t:TypeId} {xs ys:Array Value} {r:Bool} (h:(BP P t).bind (Cz xs ys)=some r):PureBin P .eql t (.agg xs) (.agg ys) (.bool r):=by
 obtain⟨l,h1,h2⟩:=Option.bind_eq_some_iff.1 h
 obtain⟨h3,h4⟩:=M7 h1 h2
 refine⟨fun x y w=>?_⟩
 unfold AZ
 simp [h3,binOp,h4]
theorem Uh {t:TypeId} {xs ys:Array Value} {r:Bool} (h:(BP P t).bind (Cz xs ys)=some r):PureBin P .neq t (.agg xs) (.agg ys) (.bool (!r)):=by
 obtain⟨l,h1,h2⟩:=Option.bind_eq_some_iff.1 h
 obtain⟨h3,h4⟩:=M7 h1 h2
 refine⟨fun x y w=>?_⟩
 unfold AZ
 simp [h3,binOp,h4]
@[go_sem] theorem cS (t:TypeId) (xs ys:Array Value) (K:Value→Prop) (w:World):RdB P .eql t (.agg xs) (.agg ys) K w=OrK ((BP P t).bind (Cz xs ys)) (fun r=>K (.bool r)) (RdB P .eql t (.agg xs) (.agg ys) K w) ():=AF (fun r h=>(Vw h).rd K w) rfl
@[go_sem] theorem bU (t:TypeId) (xs ys:Array Value) (K:Value→Prop) (w:World):RdB P .neq t (.agg xs) (.agg ys) K w=OrK ((BP P t).bind (Cz xs ys)) (fun r=>K (.bool (!r))) (RdB P .neq t (.agg xs) (.agg ys) K w) ():=AF (fun r h=>(Uh h).rd K w) rfl
theorem WS (t:TypeId) (a b:ByteArray) (h:(a.size:Int)+(b.size:Int)≤9223372036854775807):PureBin P .add t (.string a) (.string b) (.string (a++b)):=⟨fun x y w=>by simp [AZ,eqGuard,binOp,Op.stringOp,h]⟩
@[go_sem] theorem bB (t:TypeId) (a b:ByteArray) (K:Value→World→Prop) (w:World) (h:(a.size:Int)+(b.size:Int)≤9223372036854775807):BinX P .add t (.string a) (.string b) K w=K (.string (a++b)) w:=(WS t a b h).op K w
end
section
variable {P:Program}
@[go_sem] theorem cB (v:Value) (l:List Value):Bt (v::l) 0=v:=rfl
@[go_sem] theorem dH (v:Value) (l:List Value) (n:Nat):Bt (v::l) (n+1)=Bt l n:=rfl
theorem VM (r:Nat) (K:World→Prop) (w:World):BL (B8 r (.tuple #[])) K w=(w.heap[r]?=some (.deferred (some []))∧K (Ab w r (.deferred none))):=by
 show Er [.int .i64 (r:Int)] K w=_
 simp [Er]
theorem EJ {r:Nat} {K:World→Prop} {w:World} (h:w.heap[r]?=some (.deferred (some []))) (hk:K (Ab w r (.deferred none))):BL (B8 r (.tuple #[])) K w:=by
 rw[VM];exact⟨h,hk⟩
theorem Chg.low_drew {F:List Nat} {w w':World} (h:Chg F w.drew w'):Chg F w w':=⟨h.os,h.tape,h.output,h.size,h.same⟩
theorem OpX.gen {o:Op} {ty:TypeId} {K:Value→World→Prop} {w:World} (h:∀w0,w0=w→OpX P o ty K w0):OpX P o ty K w:=h w rfl
theorem AA (w:World) (x:Obj):Chg [] w (w.alloc x):=(Chg.refl _ _).alloc _
theorem BI (w:World) (x y:Obj):Chg [] w ((w.alloc x).alloc y):=(AA _ _).alloc _
theorem Fw (w:World) (x y z:Obj):Chg [] w (((w.alloc x).alloc y).alloc z):=(BI _ _ _).alloc _
theorem Iu (w:World) (x y z u:Obj):Chg [] w ((((w.alloc x).alloc y).alloc z).alloc u):=(Fw _ _ _ _).alloc _
theorem HZ (w:World) (x y z u v:Obj):Chg [] w (((((w.alloc x).alloc y).alloc z).alloc u).alloc v):=(Iu _ _ _ _ _).alloc _
theorem Y7 (w:World) (x y z u v t:Obj):Chg [] w ((((((w.alloc x).alloc y).alloc z).alloc u).alloc v).alloc t):=(HZ _ _ _ _ _ _).alloc _
theorem C7:∀vs:List Value,CU (vs.map Operand.const)=some vs
 | []=>rfl
 | v::vs=>by simp [CU,C7 vs]
theorem Bd.of {f:FuncId} {us cs vs:List Value} {K:Value→World→Prop} {w:World} (hb:Ad P f) (h:Calls P f (us++vs++cs).toArray w (Ac K)):Bd P (.func (.func f) us.toArray cs.toArray) vs K w :=
 fun _ _=>OpX.callV hb (C7 vs) h
theorem Bd.use {yv:Value} {vs:List Value} {K K':Value→World→Prop} {w:World} {ats:Array TypeId} {ty:TypeId} (h:Bd P yv vs K w) (hk:∀v w',K v w'→K' v w') :
  OpX P (.call { callee:=.value (.const yv),args:=(vs.map Operand.const).toArray,argTypes:=ats }) ty K' w:=by
 obtain⟨h⟩:=h ats ty
 refine⟨fun ρ hg=>?_⟩
 have:=h ρ hg
 revert this
 generalize (execOp ρ _).run P w=r
 intro this
 unfold Bv at this ⊢
 split at this
 ·exact hk _ _ this
 ·exact hk _ _ this
 ·exact Calls.ret this hk
 ·obtain⟨h⟩:=this
  exact⟨fun c cs=>let ⟨v,w',h1,h2⟩:=h c cs;⟨v,w',hk _ _ h1,h2⟩⟩
 ·exact fun c cs=>by
   obtain⟨v,w',h1,h2⟩:=this c cs
   exact⟨v,w',hk _ _ h1,h2⟩
 ·obtain⟨h1,⟨h2⟩⟩:=this
  exact⟨h1,⟨fun fr cs es he=>let ⟨v,w',h3,h4⟩:=h2 fr cs es he;⟨v,w',hk _ _ h3,h4⟩⟩⟩
 ·exact this.elim
@[go_sem] theorem ia (t ty:TypeId) (K:Value→World→Prop) (w:World) :
  OpX P (.buildSlice t 0 #[]) ty K w=OrK (tbs P t) (fun q=>K (.slice (some ⟨w.heap.size,0,none⟩) 0 0) (w.alloc (.cells #[] q.1))) (OpX P (.buildSlice t 0 #[]) ty K w) ():=by
 refine AF (fun q h=>?_) rfl
 obtain⟨e,m,zs⟩:=q
 obtain⟨hu,i,z,hi,hz,hs,hzs,hzn,h0⟩:=Gm h
 refine Ba fun ρ hg=>?_
 simp [execOp,An,Instr.buildSlice,run_underlying hu,Go.sizeOf,typeInfo,hi,newRow,Instr.fill]
 congr 2
 apply Array.ext<;>simp
theorem D9 {t t' ty:TypeId} {m b o dl dc:Nat} {pre old new post:List Value} {e:TypeId} {b' o' sl sc:Nat} {K:Value→World→Prop} {w:World} (ht:AH P t=some m)
  (hb:w.heap[b]?=some (.cells (pre++old++post).toArray e)) (ho:pre.length=o) (hlen:new.length=old.length) (hn:new.length=min sl dl*m) (hok:AO new=true)
  (hsrc:∀j u,new[j]?=some u→Aw w.heap[b']? (o'+j)=some u) (hk:K (.int .i64 (min sl dl:Nat)) (Ab w b (.cells (pre++new++post).toArray e))) :
  OpX P (.call { callee:=.builtin .copy,args:=#[.const (.slice (some ⟨b,o,none⟩) dl dc),.const (.slice (some ⟨b',o',none⟩) sl sc)],argTypes:=#[t,t'] }) ty K w:=by
 rw[HR (cs:=new) (x':=.cells (pre++new++post).toArray e) ht hn hsrc hok (by rw[hb];exact Cx pre old new post e o ho hlen)]
 exact hk
end
structure Rc where
 x:Int
 y:Int
 w:Int
 h:Int
deriving DecidableEq
@[go_sem] def Rc.cells (r:Rc):List Value:=[.int .i64 r.x,.int .i64 r.y,.int .i64 r.w,.int .i64 r.h]
@[go_sem] def Rc.val (r:Rc):Value:=.agg #[.int .i64 r.x,.int .i64 r.y,.int .i64 r.w,.int .i64 r.h]
def Rc.len (r:Rc) (ac:Bool):Int:=if ac then r.w else r.h
structure Rc.ok (r:Rc):Prop where
 x0:0≤r.x
 y0:0≤r.y
 w0:1≤r.w
 h0:1≤r.h
 xw:r.x+r.w≤200
 yh:r.y+r.h≤60
structure Rc.inn (r R:Rc):Prop where
 a:R.x≤r.x
 b:R.y≤r.y
 c:r.x+r.w≤R.x+R.w
 d:r.y+r.h≤R.y+R.h
theorem Rc.inn.refl (r:Rc):r.inn r:=⟨by omega,by omega,by omega,by omega⟩
theorem Rc.inn.trans {a b c:Rc} (h:a.inn b) (k:b.inn c):a.inn c:=⟨by have:=h.a;have:=k.a;omega,by have:=h.b;have:=k.b;omega,by have:=h.c;have:=k.c;omega,by have:=h.d;have:=k.d;omega⟩
inductive Mt where
 | pane (b:Nat) (id:Int)
 | split (b:Nat) (ac:Bool) (p q:Int) (l r:Mt)
namespace Mt
def blk:Mt→Nat
 | pane b _=>b
 | split b _ _ _ _ _=>b
def blks:Mt→List Nat
 | pane b _=>[b]
 | split b _ _ _ l r=>b::(l.blks++r.blks)
def ids:Mt→List Int
 | pane _ id=>[id]
 | split _ _ _ _ l r=>l.ids++r.ids
def cells:Mt→List Value
 | pane _ id=>[.int .i64 id,.bool false,.int .i64 0,.int .i64 0,.pointer none,.pointer none]
 | split _ ac p q l r=>[.int .i64 0,.bool ac,.int .i64 p,.int .i64 q,.pointer (some ⟨l.blk,0,none⟩),.pointer (some ⟨r.blk,0,none⟩)]
end Mt
def As (n p q:Int):Int:=min (max (((n-1)*p).tdiv q) 1) (n-2)
def AU (R:Rc) (ac:Bool) (a:Int):Rc:=if ac then { R with w:=a } else { R with h:=a }
def B7 (R:Rc) (ac:Bool) (a:Int):Rc:=if ac then { R with x:=R.x+a,w:=1 } else { R with y:=R.y+a,h:=1 }
def AP (R:Rc) (ac:Bool) (a:Int):Rc:=if ac then { R with x:=R.x+a+1,w:=R.w-a-1 } else { R with y:=R.y+a+1,h:=R.h-a-1 }
theorem Dg {n p q:Int} (hn:3≤n):1≤As n p q∧As n p q≤n-2:=by unfold As;omega
section
variable {R:Rc} {ac:Bool} {a:Int}
theorem GP (h:R.ok) (a0:1≤a) (a1:a≤R.len ac-2):(AU R ac a).ok∧(AU R ac a).inn R:=by
 obtain⟨h1,h2,h3,h4,h5,h6⟩:=h
 cases ac<;>simp only[Rc.len,AU,if_true,Bool.false_eq_true,if_false] at*<;> exact⟨⟨by dsimp only;omega,by dsimp only;omega,by dsimp only;omega,by dsimp only;omega,by dsimp only;omega,by dsimp only;omega⟩,⟨by dsimp only;omega,by dsimp only;omega,by dsimp only;omega,by dsimp only;omega⟩⟩
theorem Z8 (h:R.ok) (a0:1≤a) (a1:a≤R.len ac-2):(B7 R ac a).ok∧(B7 R ac a).inn R:=by
 obtain⟨h1,h2,h3,h4,h5,h6⟩:=h
 cases ac<;>simp only[Rc.len,B7,if_true,Bool.false_eq_true,if_false] at*<;> exact⟨⟨by dsimp only;omega,by dsimp only;omega,by dsimp only;omega,by dsimp only;omega,by dsimp only;omega,by dsimp only;omega⟩,⟨by dsimp only;omega,by dsimp only;omega,by dsimp only;omega,by dsimp only;omega⟩⟩
theorem FV (h:R.ok) (a0:1≤a) (a1:a≤R.len ac-2):(AP R ac a).ok∧(AP R ac a).inn R:=by
 obtain⟨h1,h2,h3,h4,h5,h6⟩:=h
 cases ac<;>simp only[Rc.len,AP,if_true,Bool.false_eq_true,if_false] at*<;> exact⟨⟨by dsimp only;omega,by dsimp only;omega,by dsimp only;omega,by dsimp only;omega,by dsimp only;omega,by dsimp only;omega⟩,⟨by dsimp only;omega,by dsimp only;omega,by dsimp only;omega,by dsimp only;omega⟩⟩
end
namespace Mt
def fits:Mt→Rc→Bool
 | pane _ _,_=>true
 | split _ ac p q l r,R=>decide (3≤R.len ac) && (l.fits (AU R ac (As (R.len ac) p q)) && r.fits (AP R ac (As (R.len ac) p q)))
def all:Mt→Rc→List (Mt × Rc)
 | pane b id,R=>[(pane b id,R)]
 | split b ac p q l r,R=>l.all (AU R ac (As (R.len ac) p q))++(split b ac p q l r,R)::r.all (AP R ac (As (R.len ac) p q))
def panes:Mt→Rc→List (Int × Rc)
 | pane _ id,R=>[(id,R)]
 | split _ ac p q l r,R=>l.panes (AU R ac (As (R.len ac) p q))++r.panes (AP R ac (As (R.len ac) p q))
def bords:Mt→Rc→List Rc
 | pane _ _,_=>[]
 | split _ ac p q l r,R=>l.bords (AU R ac (As (R.len ac) p q))++B7 R ac (As (R.len ac) p q)::r.bords (AP R ac (As (R.len ac) p q))
def ok:Mt→Prop
 | pane _ id=>1≤id
 | split _ _ p q l r=>1≤p∧p≤q∧2≤q∧q≤200∧l.ok∧r.ok
def onePane:Mt × Rc→Option (Int × Rc)
 | (pane _ id,R)=>some (id,R)
 | _=>none
def oneBord:Mt × Rc→Option Rc
 | (pane _ _,_)=>none
 | (split _ ac p q _ _,R)=>some (B7 R ac (As (R.len ac) p q))
theorem all_panes:∀(t:Mt) (R:Rc),(t.all R).filterMap onePane=t.panes R
 | pane _ _,_=>rfl
 | split b ac p q l r,R=>by simp only[all,panes,List.filterMap_append,List.filterMap_cons,show onePane (split b ac p q l r,R)=none from rfl,all_panes l,all_panes r]
theorem all_bords:∀(t:Mt) (R:Rc),(t.all R).filterMap oneBord=t.bords R
 | pane _ _,_=>rfl
 | split b ac p q l r,R=>by simp only[all,bords,List.filterMap_append,List.filterMap_cons,show oneBord (split b ac p q l r,R)=some (B7 R ac (As (R.len ac) p q)) from rfl,all_bords l,all_bords r]
theorem panes_ids:∀(t:Mt) (R:Rc),(t.panes R).map (·.1)=t.ids
 | pane _ _,_=>rfl
 | split b ac p q l r,R=>by simp [panes,ids,panes_ids l,panes_ids r]
theorem panes_len (t:Mt) (R:Rc):(t.panes R).length=t.ids.length:=by rw[←panes_ids t R,List.length_map]
theorem bords_len:∀(t:Mt) (R:Rc),(t.bords R).length+1=t.ids.length
 | pane _ _,_=>rfl
 | split b ac p q l r,R=>by
  have h1:=bords_len l (AU R ac (As (R.len ac) p q))
  have h2:=bords_len r (AP R ac (As (R.len ac) p q))
  simp only[bords,ids,List.length_append,List.length_cons]
  omega
theorem all_len:∀(t:Mt) (R:Rc),(t.all R).length+1=2*t.ids.length
 | pane _ _,_=>rfl
 | split b ac p q l r,R=>by
  have h1:=all_len l (AU R ac (As (R.len ac) p q))
  have h2:=all_len r (AP R ac (As (R.len ac) p q))
  simp only[all,ids,List.length_append,List.length_cons]
  omega
theorem ids_pos:∀t:Mt,1≤t.ids.length
 | pane _ _=>Nat.le_refl _
 | split _ _ _ _ l r=>by have:=ids_pos l;simp only[ids,List.length_append];omega
theorem ok_ids:∀{t:Mt},t.ok→∀i∈t.ids,1≤i
 | pane _ _,h,i,hi=>by simp [ids] at hi;subst hi;exact h
 | split _ _ _ _ l r,h,i,hi=>by
  rcases List.mem_append.1 hi with hi|hi
  ·exact ok_ids h.2.2.2.2.1 i hi
  ·exact ok_ids h.2.2.2.2.2 i hi
theorem fits_split {b:Nat} {ac:Bool} {p q:Int} {l r:Mt} {R:Rc} (h:(split b ac p q l r).fits R=true) :
  3≤R.len ac∧l.fits (AU R ac (As (R.len ac) p q))=true∧r.fits (AP R ac (As (R.len ac) p q))=true:=by
 simp only[fits,Bool.and_eq_true,decide_eq_true_eq] at h
 exact h
theorem all_ok:∀{t:Mt} {R:Rc},t.fits R=true→R.ok→∀x∈t.all R,x.2.ok∧x.2.inn R∧x.1.fits x.2=true
 | pane _ _,R,_,hR,x,hx=>by simp [all] at hx;subst hx;exact⟨hR,Rc.inn.refl _,rfl⟩
 | split b ac p q l r,R,h,hR,x,hx=>by
  obtain⟨h1,h2,h3⟩:=fits_split h
  obtain⟨s0,s1⟩:=Dg (p:=p) (q:=q) h1
  obtain⟨f1,f2⟩:=GP hR s0 s1
  obtain⟨g1,g2⟩:=FV hR s0 s1
  simp only[all,List.mem_append,List.mem_cons] at hx
  rcases hx with hx|rfl|hx
  ·obtain⟨a,b,c⟩:=all_ok h2 f1 x hx;exact⟨a,b.trans f2,c⟩
  ·exact⟨hR,Rc.inn.refl _,h⟩
  ·obtain⟨a,b,c⟩:=all_ok h3 g1 x hx;exact⟨a,b.trans g2,c⟩
theorem panes_ok {t:Mt} {R:Rc} (h:t.fits R=true) (hR:R.ok):∀x∈t.panes R,x.2.ok∧x.2.inn R:=by
 intro x hx
 rw[←all_panes] at hx
 obtain⟨y,hy,he⟩:=List.mem_filterMap.1 hx
 obtain⟨a,b,-⟩:=all_ok h hR y hy
 obtain⟨m,S⟩:=y
 cases m<;>simp [onePane] at he
 subst he
 exact⟨a,b⟩
theorem bords_ok {t:Mt} {R:Rc} (h:t.fits R=true) (hR:R.ok):∀x∈t.bords R,x.ok∧x.inn R:=by
 intro x hx
 rw[←all_bords] at hx
 obtain⟨y,hy,he⟩:=List.mem_filterMap.1 hx
 obtain⟨a,b,c⟩:=all_ok h hR y hy
 obtain⟨m,S⟩:=y
 cases m with
 | pane _ _=>simp [oneBord] at he
 | split _ ac p q l r =>
  simp [oneBord] at he
  subst he
  obtain⟨h1,-,-⟩:=fits_split c
  obtain⟨s0,s1⟩:=Dg (p:=p) (q:=q) h1
  obtain⟨f1,f2⟩:=Z8 a s0 s1
  exact⟨f1,f2.trans b⟩
def FB (l:List Rc):Int:=l.foldr (fun r n=>r.w*r.h+n) 0
theorem fq (l l':List Rc):FB (l++l')=FB l+FB l':=by
 induction l with
 | nil=>simp [FB]
 | cons x l ih=>simp only[List.cons_append,FB,List.foldr_cons] at *;rw[ih];omega
end Mt
end Lyc
namespace Lyc
open Go
namespace Mt
def isPane:Mt→Bool
 | pane _ _=>true
 | _=>false
def put:Mt→Nat→Mt→Mt
 | pane c id,b,new=>if c=b then new else pane c id
 | split c ac p q l r,b,new=>if c=b then new else split c ac p q (l.put b new) (r.put b new)
def way:Mt→Int→Rc→List (Mt × Rc)
 | pane b i,id,R=>if i=id then[(pane b i,R)] else[]
 | split b ac p q l r,id,R =>
  if(l.way id (AU R ac (As (R.len ac) p q))).isEmpty=false then(split b ac p q l r,R)::l.way id (AU R ac (As (R.len ac) p q))
  else if(r.way id (AP R ac (As (R.len ac) p q))).isEmpty=false then(split b ac p q l r,R)::r.way id (AP R ac (As (R.len ac) p q))
  else[]
theorem blk_mem:∀t:Mt,t.blk∈t.blks
 | pane _ _=>by simp [blk,blks]
 | split _ _ _ _ _ _=>by simp [blk,blks]
theorem put_blk {b:Nat} {new:Mt} (hn:new.blk=b):∀t:Mt,(t.put b new).blk=t.blk
 | pane c id=>by unfold put;split<;>simp_all [blk]
 | split c ac p q l r=>by unfold put;split<;>simp_all [blk]
theorem put_none {b:Nat} {new:Mt}:∀{t:Mt},b∉t.blks→t.put b new=t
 | pane c id,h=>by simp [blks] at h;simp [put];omega
 | split c ac p q l r,h=>by
  simp only[blks,List.mem_cons,List.mem_append,not_or] at h
  unfold put
  rw[if_neg (by omega),put_none h.2.1,put_none h.2.2]
theorem put_self {b:Nat} {new t:Mt} (h:t.blk=b):t.put b new=new:=by
 cases t<;>simp only[blk] at h<;>simp [put,h]
theorem all_blk:∀{t:Mt} {R:Rc},∀x∈t.all R,∀y∈x.1.blks,y∈t.blks
 | pane _ _,_,x,hx,y,hy=>by simp [all] at hx;subst hx;exact hy
 | split b ac p q l r,R,x,hx,y,hy=>by
  simp only[all,List.mem_append,List.mem_cons] at hx
  rcases hx with hx|rfl|hx
  ·have:=all_blk x hx y hy;simp [blks,this]
  ·exact hy
  ·have:=all_blk x hx y hy;simp [blks,this]
theorem put_mem {b:Nat} {new:Mt}:∀{t:Mt} {x:Nat},x∈(t.put b new).blks→x∈new.blks∨x∈t.blks
 | pane c id,x,h=>by
  unfold put at h
  split at h
  ·exact .inl h
  ·exact .inr h
 | split c ac p q l r,x,h=>by
  unfold put at h
  split at h
  ·exact .inl h
  ·simp only[blks,List.mem_cons,List.mem_append] at h
   rcases h with rfl|h|h
   ·exact .inr (by simp [blks])
   ·exact(put_mem h).imp id fun h=>by simp [blks,h]
   ·exact(put_mem h).imp id fun h=>by simp [blks,h]
theorem put_all {new:Mt}:∀{t:Mt} {R:Rc},t.blks.Nodup→∀{s:Mt} {S:Rc},(s,S)∈t.all R →
  (∃A B,t.panes R=A++s.panes S++B∧(t.put s.blk new).panes R=A++new.panes S++B)∧(∃A B,t.ids=A++s.ids++B∧(t.put s.blk new).ids=A++new.ids++B) ∧
  (t.fits R=true→new.fits S=true→(t.put s.blk new).fits R=true)∧(t.ok→s.ok)∧(t.ok→new.ok→(t.put s.blk new).ok) ∧
  (new.blks.Nodup→(∀x∈new.blks,x∈s.blks∨x∉t.blks)→(t.put s.blk new).blks.Nodup)
 | pane b id,R,hn,s,S,h=>by
  simp only[all,List.mem_singleton,Prod.mk.injEq] at h
  obtain⟨rfl,rfl⟩:=h
  rw[put_self rfl]
  exact⟨⟨[],[],by simp,by simp⟩,⟨[],[],by simp,by simp⟩,fun _ h=>h,fun h=>h,fun _ h=>h,fun h _=>h⟩
 | split b ac p q l r,R,hn,s,S,h=>by
  have hn0:=hn
  simp only[blks,List.nodup_cons,List.mem_append,not_or,List.nodup_append] at hn
  obtain⟨⟨b1,b2⟩,n1,n2,n3⟩:=hn
  simp only[all,List.mem_append,List.mem_cons,Prod.mk.injEq] at h
  rcases h with h|⟨rfl,rfl⟩|h
  ·obtain⟨⟨A,B,h1,h2⟩,⟨A',B',h3,h4⟩,h5,h6,h7,h8⟩:=put_all (new:=new) n1 h
   have hm:=all_blk _ h _ (blk_mem s)
   have hne:b≠s.blk:=fun e=>b1 (e ▸ hm)
   have hr:r.put s.blk new=r:=put_none fun hm'=>n3 _ hm _ hm' rfl
   unfold put
   rw[if_neg hne,hr]
   refine⟨⟨A,B++r.panes (AP R ac (As (R.len ac) p q)),by simp [panes,h1],by simp [panes,h2]⟩,⟨A',B'++r.ids,by simp [ids,h3],by simp [ids,h4]⟩,fun hf hnf=>?_,fun hk=>h6 hk.2.2.2.2.1,fun hk hnk=>⟨hk.1,hk.2.1,hk.2.2.1,hk.2.2.2.1,h7 hk.2.2.2.2.1 hnk,hk.2.2.2.2.2⟩,fun hnn hx=>?_⟩
   ·obtain⟨f1,f2,f3⟩:=fits_split hf
    simp only[fits,Bool.and_eq_true,decide_eq_true_eq]
    exact⟨f1,h5 f2 hnf,f3⟩
   ·have h8':=h8 hnn fun x hx'=>(hx x hx').imp id fun h hm=>h (by simp [blks,hm])
    have key:∀x∈(l.put s.blk new).blks,x≠b∧x∉r.blks:=by
     intro x hx'
     rcases put_mem hx' with h9|h9
     ·rcases hx x h9 with h10|h10
      ·have:=all_blk _ h _ h10
       exact⟨fun e=>b1 (e ▸ this),fun hm'=>n3 _ this _ hm' rfl⟩
      ·simp only[blks,List.mem_cons,List.mem_append,not_or] at h10
       exact⟨h10.1,h10.2.2⟩
     ·exact⟨fun e=>b1 (e ▸ h9),fun hm'=>n3 _ h9 _ hm' rfl⟩
    simp only[blks,List.nodup_cons,List.mem_append,not_or,List.nodup_append]
    exact⟨⟨fun hm'=>(key _ hm').1 rfl,b2⟩,h8',n2,fun x hx' y hy e=>(key x hx').2 (e ▸ hy)⟩
  ·rw[put_self rfl]
   exact⟨⟨[],[],by simp,by simp⟩,⟨[],[],by simp,by simp⟩,fun _ h=>h,fun h=>h,fun _ h=>h,fun h _=>h⟩
  ·obtain⟨⟨A,B,h1,h2⟩,⟨A',B',h3,h4⟩,h5,h6,h7,h8⟩:=put_all (new:=new) n2 h
   have hm:=all_blk _ h _ (blk_mem s)
   have hne:b≠s.blk:=fun e=>b2 (e ▸ hm)
   have hl:l.put s.blk new=l:=put_none fun hm'=>n3 _ hm' _ hm rfl
   unfold put
   rw[if_neg hne,hl]
   refine⟨⟨l.panes (AU R ac (As (R.len ac) p q))++A,B,by simp [panes,h1],by simp [panes,h2]⟩,⟨l.ids++A',B',by simp [ids,h3],by simp [ids,h4]⟩,fun hf hnf=>?_,fun hk=>h6 hk.2.2.2.2.2,fun hk hnk=>⟨hk.1,hk.2.1,hk.2.2.1,hk.2.2.2.1,hk.2.2.2.2.1,h7 hk.2.2.2.2.2 hnk⟩,fun hnn hx=>?_⟩
   ·obtain⟨f1,f2,f3⟩:=fits_split hf
    simp only[fits,Bool.and_eq_true,decide_eq_true_eq]
    exact⟨f1,f2,h5 f3 hnf⟩
   ·have h8':=h8 hnn fun x hx'=>(hx x hx').imp id fun h hm=>h (by simp [blks,hm])
    have key:∀x∈(r.put s.blk new).blks,x≠b∧x∉l.blks:=by
     intro x hx'
     rcases put_mem hx' with h9|h9
     ·rcases hx x h9 with h10|h10
      ·have:=all_blk _ h _ h10
       exact⟨fun e=>b2 (e ▸ this),fun hm'=>n3 _ hm' _ this rfl⟩
      ·simp only[blks,List.mem_cons,List.mem_append,not_or] at h10
       exact⟨h10.1,h10.2.1⟩
     ·exact⟨fun e=>b2 (e ▸ h9),fun hm'=>n3 _ hm' _ h9 rfl⟩
    simp only[blks,List.nodup_cons,List.mem_append,not_or,List.nodup_append]
    exact⟨⟨b1,fun hm'=>(key _ hm').1 rfl⟩,n1,h8',fun x hx' y hy e=>(key y hy).2 (e ▸ hx')⟩
theorem way_split {id:Int} {b:Nat} {ac:Bool} {p q:Int} {l r:Mt} {R:Rc} :
  ((split b ac p q l r).way id R=(split b ac p q l r,R)::l.way id (AU R ac (As (R.len ac) p q))∧l.way id (AU R ac (As (R.len ac) p q))≠[]) ∨
  (l.way id (AU R ac (As (R.len ac) p q))=[]∧(split b ac p q l r).way id R=(split b ac p q l r,R)::r.way id (AP R ac (As (R.len ac) p q))∧r.way id (AP R ac (As (R.len ac) p q))≠[]) ∨
  (l.way id (AU R ac (As (R.len ac) p q))=[]∧r.way id (AP R ac (As (R.len ac) p q))=[]∧(split b ac p q l r).way id R=[]):=by
 generalize hL:l.way id (AU R ac (As (R.len ac) p q))=L
 generalize hV:r.way id (AP R ac (As (R.len ac) p q))=V
 unfold way
 rw[hL,hV]
 cases L with
 | cons a L=>exact .inl ⟨by simp,by simp⟩
 | nil =>
  cases V with
  | cons a V=>exact .inr (.inl ⟨rfl,by simp,by simp⟩)
  | nil=>exact .inr (.inr ⟨rfl,rfl,by simp⟩)
theorem way_nil {id:Int}:∀{t:Mt} {R:Rc},t.way id R=[]↔id∉t.ids
 | pane b i,R=>by unfold way;split<;>simp_all [ids];omega
 | split b ac p q l r,R=>by
  have h1:=way_nil (id:=id) (t:=l) (R:=AU R ac (As (R.len ac) p q))
  have h2:=way_nil (id:=id) (t:=r) (R:=AP R ac (As (R.len ac) p q))
  simp only[ids,List.mem_append,not_or,←h1,←h2]
  rcases way_split (id:=id) (b:=b) (ac:=ac) (p:=p) (q:=q) (l:=l) (r:=r) (R:=R) with ⟨h3,h4⟩|⟨h3,h4,h5⟩|⟨h3,h4,h5⟩
  ·rw[h3];simp [h4]
  ·rw[h4];simp [h5]
  ·simp [h3,h4,h5]
theorem way_all {id:Int}:∀{t:Mt} {R:Rc},∀x∈t.way id R,x∈t.all R
 | pane b i,R,x,hx=>by unfold way at hx;split at hx<;>simp_all [all]
 | split b ac p q l r,R,x,hx=>by
  simp only[all,List.mem_append,List.mem_cons]
  rcases way_split (id:=id) (b:=b) (ac:=ac) (p:=p) (q:=q) (l:=l) (r:=r) (R:=R) with ⟨h3,h4⟩|⟨h3,h4,h5⟩|⟨h3,h4,h5⟩
  ·rw[h3] at hx
   rcases List.mem_cons.1 hx with rfl|hx
   ·exact .inr (.inl rfl)
   ·exact .inl (way_all x hx)
  ·rw[h4] at hx
   rcases List.mem_cons.1 hx with rfl|hx
   ·exact .inr (.inl rfl)
   ·exact .inr (.inr (way_all x hx))
  ·rw[h5] at hx;simp at hx
theorem way_end {id:Int}:∀{t:Mt} {R:Rc},t.way id R≠[]→∃(W:List (Mt × Rc)) (c:Nat) (S:Rc),t.way id R=W++[(pane c id,S)]∧(∀x∈W,∃b ac p q l r,x.1=split b ac p q l r) ∧
  (W=[]→t=pane c id∧S=R)∧(∀V x,W=V++[x]→∃b ac p q l r,x.1=split b ac p q l r∧(l=pane c id∨r=pane c id))
 | pane b i,R,h=>by
  unfold way at h ⊢
  split at h
  ·rename_i e
   subst e
   exact⟨[],b,R,by simp,by simp,fun _=>⟨rfl,rfl⟩,fun V x h=>by simp at h⟩
  ·simp at h
 | split b ac p q l r,R,h=>by
  rcases way_split (id:=id) (b:=b) (ac:=ac) (p:=p) (q:=q) (l:=l) (r:=r) (R:=R) with ⟨h3,h4⟩|⟨h3,h4,h5⟩|⟨h3,h4,h5⟩
  ·obtain⟨W,c,S,e,hs,hn,hv⟩:=way_end h4
   refine⟨(split b ac p q l r,R)::W,c,S,by rw[h3,e];rfl,fun x hx=>?_,fun h=>by simp at h,fun V x hx=>?_⟩
   ·rcases List.mem_cons.1 hx with rfl|hx
    ·exact⟨_,_,_,_,_,_,rfl⟩
    ·exact hs x hx
   ·cases V with
    | nil =>
     rw[List.nil_append,List.cons.injEq] at hx
     obtain⟨rfl,hW⟩:=hx
     exact⟨_,_,_,_,_,_,rfl,.inl (hn hW).1⟩
    | cons y V =>
     rw[List.cons_append,List.cons.injEq] at hx
     exact hv V x hx.2
  ·obtain⟨W,c,S,e,hs,hn,hv⟩:=way_end h5
   refine⟨(split b ac p q l r,R)::W,c,S,by rw[h4,e];rfl,fun x hx=>?_,fun h=>by simp at h,fun V x hx=>?_⟩
   ·rcases List.mem_cons.1 hx with rfl|hx
    ·exact⟨_,_,_,_,_,_,rfl⟩
    ·exact hs x hx
   ·cases V with
    | nil =>
     rw[List.nil_append,List.cons.injEq] at hx
     obtain⟨rfl,hW⟩:=hx
     exact⟨_,_,_,_,_,_,rfl,.inr (hn hW).1⟩
    | cons y V =>
     rw[List.cons_append,List.cons.injEq] at hx
     exact hv V x hx.2
  ·exact absurd h5 h
theorem way_len {id:Int}:∀{t:Mt} {R:Rc},(t.way id R).length≤t.ids.length
 | pane b i,R=>by unfold way;split<;>simp [ids]
 | split b ac p q l r,R=>by
  have h1:=way_len (id:=id) (t:=l) (R:=AU R ac (As (R.len ac) p q))
  have h2:=way_len (id:=id) (t:=r) (R:=AP R ac (As (R.len ac) p q))
  have h6:=ids_pos l
  have h7:=ids_pos r
  simp only[ids,List.length_append]
  rcases way_split (id:=id) (b:=b) (ac:=ac) (p:=p) (q:=q) (l:=l) (r:=r) (R:=R) with ⟨h3,h4⟩|⟨h3,h4,h5⟩|⟨h3,h4,h5⟩
  ·rw[h3,List.length_cons];omega
  ·rw[h4,List.length_cons];omega
  ·rw[h5];simp
end Mt
theorem SC {n n' p q:Int} (hp:1≤p) (hpq:p≤q) (hn:3≤n) (h:n≤n'):As n p q≤As n' p q∧n-As n p q≤n'-As n' p q:=by
 have hq:0<q:=by omega
 have e1:((n-1)*p).tdiv q=((n-1)*p) / q:=Int.tdiv_eq_ediv_of_nonneg (Int.mul_nonneg (by omega) (by omega))
 have e2:((n'-1)*p).tdiv q=((n'-1)*p) / q:=Int.tdiv_eq_ediv_of_nonneg (Int.mul_nonneg (by omega) (by omega))
 have m1:((n-1)*p) / q≤((n'-1)*p) / q:=Int.ediv_le_ediv hq (Int.mul_le_mul_of_nonneg_right (by omega) (by omega))
 have m2:((n'-1)*p) / q≤((n-1)*p) / q+(n'-n):=by
  rw[←Int.add_mul_ediv_right _ _ (by omega:q≠0)]
  refine Int.ediv_le_ediv hq ?_
  have h1:(n'-1)*p=(n-1)*p+(n'-n)*p:=by rw[←Int.add_mul];congr 1;omega
  have h2:(n'-n)*p≤(n'-n)*q:=Int.mul_le_mul_of_nonneg_left hpq (by omega)
  omega
 unfold As
 rw[e1,e2]
 omega
namespace Mt
theorem fits_mono:∀{t:Mt} {R R':Rc},t.ok→t.fits R=true→R.w≤R'.w→R.h≤R'.h→t.fits R'=true
 | pane _ _,_,_,_,_,_,_=>rfl
 | split b ac p q l r,R,R',hk,hf,hw,hh=>by
  obtain⟨f1,f2,f3⟩:=fits_split hf
  have hl:R.len ac≤R'.len ac:=by cases ac<;>simp only[Rc.len,if_true,Bool.false_eq_true,if_false]<;>assumption
  obtain⟨m1,m2⟩:=SC hk.1 hk.2.1 f1 hl
  simp only[fits,Bool.and_eq_true,decide_eq_true_eq]
  refine⟨by omega,fits_mono hk.2.2.2.2.1 f2 ?_ ?_,fits_mono hk.2.2.2.2.2 f3 ?_ ?_⟩<;>revert m1 m2<;>cases ac<;>simp only[Rc.len,AU,AP,if_true,Bool.false_eq_true,if_false]<;>intros<;>omega
end Mt
structure Ly where
 root:Mt
 R:Rc
 newest:Int
structure Ly.ok (L:Ly):Prop where
 ok:L.root.ok
 R:L.R.ok
 fits:L.root.fits L.R=true
 nd:L.root.ids.Nodup
 new:∀i∈L.root.ids,i≤L.newest
 few:L.root.ids.length≤16
end Lyc
namespace Lyc
open Go
structure Trn (o o':Nat→Prop) (w w':World):Prop where
 chg:∃F,Chg F w w'∧∀x∈F,o x
 grow:∀x,o' x→o x∨w.heap.size≤x
variable {o o' o'':Nat→Prop} {w w' w'':World}
theorem Trn.size (h:Trn o o' w w'):w.heap.size≤w'.heap.size:=let ⟨_,hc,_⟩:=h.chg;hc.size
theorem Trn.keep (h:Trn o o' w w') {b:Nat} {x:Obj} (hb:w.heap[b]?=some x) (hn:¬o b):w'.heap[b]?=some x :=
 let ⟨_,hc,hF⟩:=h.chg;hc.keep hb fun hm=>hn (hF b hm)
theorem Trn.of {F:List Nat} (hc:Chg F w w') (hF:∀x∈F,o x) (hg:∀x,o' x→o x∨w.heap.size≤x):Trn o o' w w':=⟨⟨F,hc,hF⟩,hg⟩
theorem Trn.of0 (hc:Chg [] w w') (hg:∀x,o' x→o x∨w.heap.size≤x):Trn o o' w w':=⟨⟨[],hc,by simp⟩,hg⟩
theorem Trn.refl (o:Nat→Prop) (w:World):Trn o o w w:=.of0 (Chg.refl _ _) fun _ h=>.inl h
theorem Trn.low {F:List Nat} (hc:Chg F w w') (hF:∀x∈F,o x∨w.heap.size≤x) (hg:∀x,o' x→o x∨w.heap.size≤x):Trn o o' w w':=by
 refine⟨⟨F.filter (fun x=>decide (x<w.heap.size)),hc.mono fun x hx=>?_,fun x hx=>?_⟩,hg⟩
 ·by_cases h:x<w.heap.size
  ·exact .inl (List.mem_filter.2 ⟨hx,by simpa using h⟩)
  ·exact .inr (by omega)
 ·obtain⟨h1,h2⟩:=List.mem_filter.1 hx
  have h3:x<w.heap.size:=by simpa using h2
  exact(hF x h1).elim (fun h=>h) (fun h=>by omega)
theorem Trn.trans (h:Trn o o' w w') (k:Trn o' o'' w' w''):Trn o o'' w w'':=by
 obtain⟨F,hc,hF⟩:=h.chg
 obtain⟨G,hd,hG⟩:=k.chg
 have hz:=hc.size
 refine Trn.low (F:=F++G) ((hc.mono (F':=F++G) fun x hx=>.inl (by simp [hx])).trans hd fun x hx=>.inl (by simp [hx])) (fun x hx=>?_) fun x hx=>?_
 ·rcases List.mem_append.1 hx with hx|hx
  ·exact .inl (hF x hx)
  ·exact h.grow x (hG x hx)
 ·exact(k.grow x hx).elim (h.grow x) fun h=>.inr (by omega)
theorem Trn.chg0 (h:Trn o o' w w') (hc:Chg [] w' w''):Trn o o' w w'':=h.trans (.of0 hc fun _ h=>.inl h)
theorem Trn.base {w0:World} (h:Trn o o' w w') (hc:Chg [] w0 w) (ho:∀x,o x→w0.heap.size≤x):Chg [] w0 w':=by
 obtain⟨F,hd,hF⟩:=h.chg
 exact hc.trans hd fun x hx=>.inr (ho x (hF x hx))
theorem Pk (a b:Nat) (x:Int) (hx:x=a):x.tmod b=((a % b:Nat):Int):=by subst hx;rfl
end Lyc
namespace Go.Proofs.YtelplojmbjnplaaGreat
open Lyc Go
def Aq (w:World):Mt→Prop
 | .pane b id=>w.heap[b]?=some (.cells #[.int .i64 id,.bool false,.int .i64 0,.int .i64 0,.pointer none,.pointer none] 171)
 | .split b ac p q l r=>w.heap[b]?=some (.cells #[.int .i64 0,.bool ac,.int .i64 p,.int .i64 q,.pointer (some ⟨l.blk,0,none⟩),.pointer (some ⟨r.blk,0,none⟩)] 171)∧Aq w l∧Aq w r
theorem Aq.chg {w w':World} {F:List Nat} (hc:Chg F w w'):∀{t:Mt},Aq w t→(∀x∈t.blks,x∉F)→Aq w' t
 | .pane b id,h,hF=>hc.keep h (hF b (by simp [Mt.blks]))
 | .split b ac p q l r,h,hF=>⟨hc.keep h.1 (hF b (by simp [Mt.blks])),Aq.chg hc h.2.1 fun x hx=>hF x (by simp [Mt.blks,hx]),Aq.chg hc h.2.2 fun x hx=>hF x (by simp [Mt.blks,hx])⟩
theorem Aq.chg0 {w w':World} {t:Mt} (h:Aq w t) (hc:Chg [] w w'):Aq w' t:=Aq.chg hc h (by simp)
theorem Aq.tag {w:World}:∀{t:Mt},Aq w t→∀x∈t.blks,∃c fr,w.heap[x]?=some (.cells c 171 fr)
 | .pane b id,h,x,hx=>by simp [Mt.blks] at hx;subst hx;exact⟨_,_,h⟩
 | .split b ac p q l r,h,x,hx=>by
  simp only[Mt.blks,List.mem_cons,List.mem_append] at hx
  rcases hx with rfl|hx|hx
  ·exact⟨_,_,h.1⟩
  ·exact Aq.tag h.2.1 x hx
  ·exact Aq.tag h.2.2 x hx
theorem Aq.lt {w:World} {t:Mt} (h:Aq w t):∀x∈t.blks,x<w.heap.size:=fun x hx=>let ⟨_,_,e⟩:=h.tag x hx;Aa e
theorem Aq.sub {w:World}:∀{t:Mt} {R:Rc},Aq w t→∀x∈t.all R,Aq w x.1
 | .pane b id,R,h,x,hx=>by simp [Mt.all] at hx;subst hx;exact h
 | .split b ac p q l r,R,h,x,hx=>by
  simp only[Mt.all,List.mem_append,List.mem_cons] at hx
  rcases hx with hx|rfl|hx
  ·exact Aq.sub h.2.1 x hx
  ·exact h
  ·exact Aq.sub h.2.2 x hx
theorem Aq.put {w w':World} {F:List Nat} (hc:Chg F w w') {b:Nat} {new:Mt} (hb:new.blk=b) (hn:Aq w' new):∀{t:Mt},Aq w t→(∀x∈t.blks,x∈F→x=b)→Aq w' (t.put b new)
 | .pane c id,h,hF=>by
  unfold Mt.put
  split
  ·exact hn
  ·rename_i hne
   exact hc.keep h fun hm=>hne (hF c (by simp [Mt.blks]) hm)
 | .split c ac p q l r,h,hF=>by
  unfold Mt.put
  split
  ·exact hn
  ·rename_i hne
   refine⟨?_,Aq.put hc hb hn h.2.1 fun x hx=>hF x (by simp [Mt.blks,hx]),Aq.put hc hb hn h.2.2 fun x hx=>hF x (by simp [Mt.blks,hx])⟩
   rw[Mt.put_blk hb,Mt.put_blk hb]
   exact hc.keep h.1 fun hm=>hne (hF c (by simp [Mt.blks]) hm)
theorem CY {w:World} {t:Mt} (h:Aq w t):Calls Tryz.prog 88 #[.pointer (some ⟨t.blk,0,none⟩)] w (Ac fun v w'=>v=.bool t.isPane∧w'=w):=by
 apply RS
 intro K hK
 unfold Nv
 cases t with
 | pane b id =>
  simp only[Aq] at h
  simp only[Mt.blk]
  simp -dsimp (disch:=first|omega|(simp only[go_sem,seval];try omega))only[go_sem,seval,h]
  exact hK _ _ ⟨rfl,rfl⟩
 | split b ac p q l r =>
  have h:=h.1
  simp only[Mt.blk]
  simp -dsimp (disch:=first|omega|(simp only[go_sem,seval];try omega))only[go_sem,seval,h]
  exact hK _ _ ⟨rfl,rfl⟩
theorem Gj (w:World) (R:Rc) (ac:Bool):Calls Tryz.prog 145 #[R.val,.bool ac] w (Ac fun v w'=>v=.int .i64 (R.len ac)∧Chg [] w w'):=by
 apply ay
 intro K hK
 unfold K4
 cases ac
 ·simp -dsimp (disch:=first|omega|(simp only[go_sem,seval];try omega))only[go_sem,seval,Rc.val]
  exact hK _ _ ⟨rfl,AA _ _⟩
 ·simp -dsimp (disch:=first|omega|(simp only[go_sem,seval];try omega))only[go_sem,seval,Rc.val]
  exact hK _ _ ⟨rfl,AA _ _⟩
theorem Nb {w:World} {b:Nat} {v0 v1 v4 v5:Value} {p q n:Int} (h:w.heap[b]?=some (.cells #[v0,v1,.int .i64 p,.int .i64 q,v4,v5] 171)) (hp:1≤p) (hpq:p≤q) (hq:2≤q) (hq2:q≤200) (hn:0≤n) (hn2:n≤1000) :
  Calls Tryz.prog 144 #[.pointer (some ⟨b,0,none⟩),.int .i64 n] w (Ac fun v w'=>v=.int .i64 (As n p q)∧Chg [] w w'):=by
 have hm1:(n-1)*p≤1000*200:=Int.le_trans (Int.mul_le_mul_of_nonneg_right (by omega:n-1≤1000) (by omega)) (Int.mul_le_mul_of_nonneg_left (by omega) (by omega))
 have hm2:-200≤(n-1)*p:=by
  have h1:(-1)*p≤(n-1)*p:=Int.mul_le_mul_of_nonneg_right (by omega) (by omega)
  omega
 have hd:-1000000≤((n-1)*p).tdiv q∧((n-1)*p).tdiv q≤1000000:=by
  have:=Int.natAbs_tdiv_le_natAbs ((n-1)*p) q
  omega
 have hq0:q≠0:=by omega
 apply Tb
 intro K hK
 unfold Px
 simp -dsimp (disch:=first|omega|(simp only[go_sem,seval];try omega))only[go_sem,seval,h,hq0]
 exact hK _ _ ⟨rfl,(Chg.refl _ _).drew⟩
theorem GQ {w:World} {b:Nat} {ac:Bool} {p q:Int} {v0 v4 v5:Value} (h:w.heap[b]?=some (.cells #[v0,.bool ac,.int .i64 p,.int .i64 q,v4,v5] 171)) (hp:1≤p) (hpq:p≤q) (hq:2≤q) (hq2:q≤200) {R:Rc} (hR:R.ok) (h3:3≤R.len ac) :
  Calls Tryz.prog 89 #[.pointer (some ⟨b,0,none⟩),R.val] w (Ac fun v w'=>v=.tuple #[(AU R ac (As (R.len ac) p q)).val,(B7 R ac (As (R.len ac) p q)).val,(AP R ac (As (R.len ac) p q)).val]∧Chg [] w w'):=by
 obtain⟨s0,s1⟩:=Dg (p:=p) (q:=q) h3
 obtain⟨r1,r2,r3,r4,r5,r6⟩:=hR
 have hl:=Aa h
 apply UR
 intro K hK
 unfold LG
 simp -dsimp (disch:=first|omega|(simp only[go_sem,seval];try omega))only[go_sem,seval,h,Rc.val]
 refine OpX.gen fun w0 hw0=>?_
 have hc0:Chg [] w w0:=by rw[hw0];(repeat (first|exact Chg.refl _ _|apply Chg.drew|apply Chg.alloc|(refine Chg.set ?_ _ _ (by first|(left;simp;done)|(right;omega)))))
 have hz0:w0.heap.size=w.heap.size+4:=by rw[hw0];simp -dsimp (disch:=first|omega|(simp only[go_sem,seval];try omega))only[go_sem,seval]
 have a3:w0.heap[w.heap.size]?=some (.cells #[.int .i64 R.x,.int .i64 R.y,.int .i64 R.w,.int .i64 R.h] 49):=by rw[hw0];simp -dsimp (disch:=first|omega|(simp only[go_sem,seval];try omega))only[go_sem,seval]
 have a4:w0.heap[w.heap.size+1]?=some (.cells #[.int .i64 0,.int .i64 0,.int .i64 0,.int .i64 0] 49):=by rw[hw0];simp -dsimp (disch:=first|omega|(simp only[go_sem,seval];try omega))only[go_sem,seval]
 have a5:w0.heap[w.heap.size+2]?=some (.cells #[.int .i64 0,.int .i64 0,.int .i64 0,.int .i64 0] 49):=by rw[hw0];simp -dsimp (disch:=first|omega|(simp only[go_sem,seval];try omega))only[go_sem,seval]
 have a6:w0.heap[w.heap.size+3]?=some (.cells #[.int .i64 0,.int .i64 0,.int .i64 0,.int .i64 0] 49):=by rw[hw0];simp -dsimp (disch:=first|omega|(simp only[go_sem,seval];try omega))only[go_sem,seval]
 clear hw0
 refine OpX.call Hh rfl (Calls.ret (Gj w0 R ac) ?_)
 rintro v w1 ⟨rfl,hc1⟩
 simp -dsimp (disch:=first|omega|(simp only[go_sem,seval];try omega))only[go_sem,seval]
 refine OpX.call OV rfl (Calls.ret (Nb ((hc0.trans0 hc1).keep h (by simp)) hp hpq hq hq2 (by omega) (by cases ac<;>simp only[Rc.len,if_true,Bool.false_eq_true,if_false]<;>omega)) ?_)
 rintro v w2 ⟨rfl,hc2⟩
 have hc02:=(hc0.trans0 hc1).trans0 hc2
 have h2:=hc02.keep h (by simp)
 have hl2:=Aa h2
 have b3:=(hc1.trans0 hc2).keep a3 (by simp)
 have b4:=(hc1.trans0 hc2).keep a4 (by simp)
 have b5:=(hc1.trans0 hc2).keep a5 (by simp)
 have b6:=(hc1.trans0 hc2).keep a6 (by simp)
 have hl6:=Aa b6
 generalize As (R.len ac) p q=a at *
 simp -dsimp (disch:=first|omega|(simp only[go_sem,seval];try omega))only[go_sem,seval,b3,b4,b5,b6,h2]
 refine Join0.inl ?_
 cases ac
 ·simp only[Rc.len,Bool.false_eq_true,if_false] at s1 h3
  simp -dsimp (disch:=first|omega|(simp only[go_sem,seval];try omega))only[go_sem,seval,b3,b4,b5,b6,h2]
  refine hK _ _ ⟨rfl,?_⟩
  (repeat (first|with_reducible exact hc02|with_reducible exact Chg.refl _ _|(with_reducible refine Chg.set ?_ _ _ (by first|(left;simp;done)|(right;omega)))|with_reducible apply Chg.drew|with_reducible apply Chg.alloc))
 ·simp only[Rc.len,if_true] at s1 h3
  simp -dsimp (disch:=first|omega|(simp only[go_sem,seval];try omega))only[go_sem,seval,b3,b4,b5,b6,h2]
  refine hK _ _ ⟨rfl,?_⟩
  (repeat (first|with_reducible exact hc02|with_reducible exact Chg.refl _ _|(with_reducible refine Chg.set ?_ _ _ (by first|(left;simp;done)|(right;omega)))|with_reducible apply Chg.drew|with_reducible apply Chg.alloc))
theorem Na {t:Mt}:∀{w:World} {R:Rc},Aq w t→t.ok→R.ok→Calls Tryz.prog 127 #[.pointer (some ⟨t.blk,0,none⟩),R.val] w (Ac fun v w'=>v=.bool (t.fits R)∧Chg [] w w'):=by
 induction t with
 | pane b id =>
  intro w R h hk hR
  simp only[Mt.blk]
  apply Mu
  intro K hK
  unfold Ia
  simp -dsimp (disch:=first|omega|(simp only[go_sem,seval];try omega))only[go_sem,seval,Rc.val]
  have hc1:=AA w (.cells #[.int .i64 R.x,.int .i64 R.y,.int .i64 R.w,.int .i64 R.h] 49)
  generalize w.alloc _=w1 at hc1 ⊢
  have hp:=CY (h.chg0 hc1)
  simp only[Mt.blk,Mt.isPane] at hp
  refine OpX.call Df rfl (Calls.ret (hp) ?_)
  rintro v w2 ⟨rfl,rfl⟩
  simp -dsimp (disch:=first|omega|(simp only[go_sem,seval];try omega))only[go_sem,seval]
  exact hK _ _ ⟨rfl,hc1⟩
 | split b ac p q l r ihl ihr =>
  intro w R h hk hR
  obtain⟨k1,k2,k3,k4,k5,k6⟩:=hk
  obtain⟨g0,g1,g2⟩:=h
  have hl:=Aa g0
  simp only[Mt.blk]
  apply Mu
  intro K hK
  unfold Ia
  simp -dsimp (disch:=first|omega|(simp only[go_sem,seval];try omega))only[go_sem,seval,Rc.val]
  refine OpX.gen fun w0 hw0=>?_
  have hc0:Chg [] w w0:=by rw[hw0];(repeat (first|exact Chg.refl _ _|apply Chg.drew|apply Chg.alloc|(refine Chg.set ?_ _ _ (by first|(left;simp;done)|(right;omega)))))
  have hz0:w0.heap.size=w.heap.size+1:=by rw[hw0];simp -dsimp (disch:=first|omega|(simp only[go_sem,seval];try omega))only[go_sem,seval]
  have a3:w0.heap[w.heap.size]?=some (.cells #[.int .i64 R.x,.int .i64 R.y,.int .i64 R.w,.int .i64 R.h] 49):=by rw[hw0];simp -dsimp (disch:=first|omega|(simp only[go_sem,seval];try omega))only[go_sem,seval]
  clear hw0
  refine OpX.call Df rfl (Calls.ret (CY (t:=.split b ac p q l r) ⟨hc0.keep g0 (by simp),g1.chg0 hc0,g2.chg0 hc0⟩) ?_)
  rintro v w1 ⟨rfl,rfl⟩
  have h1:=hc0.keep g0 (by simp)
  simp -dsimp (disch:=first|omega|(simp only[go_sem,seval];try omega))only[go_sem,seval,Mt.isPane,a3,h1]
  have hc1:=hc0.drew
  refine OpX.call Hh rfl (Calls.ret (Gj w1.drew R ac) ?_)
  rintro v w2 ⟨rfl,hc2⟩
  simp -dsimp (disch:=first|omega|(simp only[go_sem,seval];try omega))only[go_sem,seval]
  refine BrW.dec (fun h3=>?_) (fun h3=>?_)
  ·refine hK _ _ ⟨?_,hc1.trans0 hc2⟩
   simp only[Mt.fits]
   rw[decide_eq_false (by omega),Bool.false_and]
  ·have h3':3≤R.len ac:=by omega
   obtain⟨s0,s1⟩:=Dg (p:=p) (q:=q) h3'
   obtain⟨f1,-⟩:=GP hR s0 s1
   obtain⟨e1,-⟩:=FV hR s0 s1
   have hc12:=hc1.trans0 hc2
   have h2:=hc12.keep g0 (by simp)
   have a32:=hc2.keep (show w1.drew.heap[w.heap.size]?=_ from a3) (by simp)
   have hz2:=hc2.size
   have hz2':w1.heap.size≤w2.heap.size:=hz2
   simp -dsimp (disch:=first|omega|(simp only[go_sem,seval];try omega))only[go_sem,seval,a32]
   refine OpX.call FT rfl (Calls.ret (GQ h2 k1 k2 k3 k4 hR h3') ?_)
   rintro v w3 ⟨rfl,hc3⟩
   have hc13:=hc12.trans0 hc3
   have h3w:=hc13.keep g0 (by simp)
   simp -dsimp (disch:=first|omega|(simp only[go_sem,seval];try omega))only[go_sem,seval,Rc.val]
   refine Join1.cut (fun v w'=>v=.bool (l.fits (AU R ac (As (R.len ac) p q)) && r.fits (AP R ac (As (R.len ac) p q)))∧Chg [] w w') ?_ ?_
   ·have hl3:=Aa h3w
    simp -dsimp (disch:=first|omega|(simp only[go_sem,seval];try omega))only[go_sem,seval,h3w]
    refine OpX.gen fun w4 hw4=>?_
    have hc4:Chg [] w3 w4:=by rw[hw4];(repeat (first|exact Chg.refl _ _|apply Chg.drew|apply Chg.alloc|(refine Chg.set ?_ _ _ (by first|(left;simp;done)|(right;omega)))))
    have a7:w4.heap[w3.heap.size+2]?=some (.cells #[.int .i64 (AP R ac (As (R.len ac) p q)).x,.int .i64 (AP R ac (As (R.len ac) p q)).y,.int .i64 (AP R ac (As (R.len ac) p q)).w,.int .i64 (AP R ac (As (R.len ac) p q)).h] 49):=by rw[hw4];simp -dsimp (disch:=first|omega|(simp only[go_sem,seval];try omega))only[go_sem,seval]
    clear hw4
    have hc04:=hc13.trans0 hc4
    refine OpX.call G8 rfl (Calls.ret (ihl (g1.chg0 hc04) k5 f1) ?_)
    rintro v w5 ⟨rfl,hc5⟩
    have hc05:=hc04.trans0 hc5
    cases hlf:l.fits (AU R ac (As (R.len ac) p q))
    ·simp -dsimp (disch:=first|omega|(simp only[go_sem,seval];try omega))only[go_sem,seval]
     exact hc05
    ·have h5:=hc05.keep g0 (by simp)
     have a75:=hc5.keep a7 (by simp)
     simp -dsimp (disch:=first|omega|(simp only[go_sem,seval];try omega))only[go_sem,seval,h5,a75]
     refine OpX.call G8 rfl (Calls.ret (ihr (g2.chg0 hc05) k6 e1) ?_)
     rintro v w6 ⟨rfl,hc6⟩
     exact⟨by rw[Bool.true_and],hc05.trans0 hc6⟩
   ·rintro v w4 ⟨rfl,hc4⟩
    refine hK _ _ ⟨?_,hc4⟩
    simp only[Mt.fits]
    rw[decide_eq_true h3',Bool.true_and]
theorem LD {yv:Value} (I:Nat→World→Prop) (M:World→Nat→Prop) (hM:∀j w x,I j w→M w x→x<w.heap.size) (hI:∀j w w',I j w→Chg [] w w'→I j w'∧∀x,M w' x→M w x) {t:Mt}:∀{w:World} {R:Rc} (k:Nat),t.ok→R.ok→t.fits R=true→(∀j w,I j w→Aq w t)→I k w →
  (∀j x w,(t.all R)[j]?=some x→I (k+j) w→Bd Tryz.prog yv [.pointer (some ⟨x.1.blk,0,none⟩),x.2.val] (fun v w'=>v=.bool true∧I (k+j+1) w'∧Trn (M w) (M w') w w') w) →
  Calls Tryz.prog 143 #[.pointer (some ⟨t.blk,0,none⟩),R.val,yv] w (Ac fun v w'=>v=.bool true∧I (k+(t.all R).length) w'∧Trn (M w) (M w') w w'):=by
 induction t with
 | pane b id =>
  intro w R k hk hR hf hT h0 hy
  have h:=hT _ _ h0
  simp only[Mt.blk]
  apply OI
  intro K hK
  unfold IZ
  simp -dsimp (disch:=first|omega|(simp only[go_sem,seval];try omega))only[go_sem,seval,Rc.val]
  have hz0:(w.alloc (.cells #[.int .i64 R.x,.int .i64 R.y,.int .i64 R.w,.int .i64 R.h] 49)).heap.size=w.heap.size+1:=by simp -dsimp (disch:=first|omega|(simp only[go_sem,seval];try omega))only[go_sem,seval]
  have a3:(w.alloc (.cells #[.int .i64 R.x,.int .i64 R.y,.int .i64 R.w,.int .i64 R.h] 49)).heap[w.heap.size]?=some (.cells #[.int .i64 R.x,.int .i64 R.y,.int .i64 R.w,.int .i64 R.h] 49):=by simp -dsimp (disch:=first|omega|(simp only[go_sem,seval];try omega))only[go_sem,seval]
  have hc1:=AA w (.cells #[.int .i64 R.x,.int .i64 R.y,.int .i64 R.w,.int .i64 R.h] 49)
  generalize w.alloc _=w1 at hc1 hz0 a3 ⊢
  have hp:=CY (h.chg0 hc1)
  simp only[Mt.blk,Mt.isPane] at hp
  refine OpX.call Df rfl (Calls.ret (hp) ?_)
  rintro v w2 ⟨rfl,rfl⟩
  simp -dsimp (disch:=first|omega|(simp only[go_sem,seval];try omega))only[go_sem,seval,a3]
  obtain⟨i1,m1⟩:=hI _ _ _ h0 hc1
  have:=hy 0 _ w2 rfl i1
  refine(this.use (vs:=[.pointer (some ⟨b,0,none⟩),R.val])) ?_
  rintro v w3 ⟨rfl,h3,h4⟩
  exact hK _ _ ⟨rfl,h3,(Trn.of0 hc1 fun x hx=>.inl (m1 x hx)).trans h4⟩
 | split b ac p q l r ihl ihr =>
  intro w R k hk hR hf hT h0 hy
  obtain⟨k1,k2,k3,k4,k5,k6⟩:=hk
  obtain⟨h3',hfl,hfr⟩:=Mt.fits_split hf
  obtain⟨s0,s1⟩:=Dg (p:=p) (q:=q) h3'
  obtain⟨f1,-⟩:=GP hR s0 s1
  obtain⟨e1,-⟩:=FV hR s0 s1
  have g:=hT _ _ h0
  obtain⟨g0,g1,g2⟩:=hT _ _ h0
  have hl:=Aa g0
  simp only[Mt.blk]
  apply OI
  intro K hK
  unfold IZ
  simp -dsimp (disch:=first|omega|(simp only[go_sem,seval];try omega))only[go_sem,seval,Rc.val]
  refine OpX.gen fun w0 hw0=>?_
  have hc0:Chg [] w w0:=by rw[hw0];(repeat (first|exact Chg.refl _ _|apply Chg.drew|apply Chg.alloc|(refine Chg.set ?_ _ _ (by first|(left;simp;done)|(right;omega)))))
  have hz0:w0.heap.size=w.heap.size+1:=by rw[hw0];simp -dsimp (disch:=first|omega|(simp only[go_sem,seval];try omega))only[go_sem,seval]
  have a3:w0.heap[w.heap.size]?=some (.cells #[.int .i64 R.x,.int .i64 R.y,.int .i64 R.w,.int .i64 R.h] 49):=by rw[hw0];simp -dsimp (disch:=first|omega|(simp only[go_sem,seval];try omega))only[go_sem,seval]
  clear hw0
  have hp:=CY (g.chg0 hc0)
  simp only[Mt.blk,Mt.isPane] at hp
  refine OpX.call Df rfl (Calls.ret (hp) ?_)
  rintro v w1 ⟨rfl,rfl⟩
  have h1:=hc0.keep g0 (by simp)
  simp -dsimp (disch:=first|omega|(simp only[go_sem,seval];try omega))only[go_sem,seval,a3]
  refine OpX.call FT rfl (Calls.ret (GQ h1 k1 k2 k3 k4 hR h3') ?_)
  rintro v w3 ⟨rfl,hc3⟩
  have hc13:=hc0.trans0 hc3
  have h3w:=hc13.keep g0 (by simp)
  have hl3:=Aa h3w
  have a33:=hc3.keep a3 (by simp)
  simp -dsimp (disch:=first|omega|(simp only[go_sem,seval];try omega))only[go_sem,seval,Rc.val]
  refine Join1.cut (fun v w'=>v=.bool true∧I (k+((Mt.split b ac p q l r).all R).length) w'∧Trn (M w) (M w') w w') ?_ (fun v w' h=>hK _ _ h)
  generalize hF:AU R ac (As (R.len ac) p q)=F at *
  generalize hS:AP R ac (As (R.len ac) p q)=S at *
  have ea:(Mt.split b ac p q l r).all R=l.all F++(Mt.split b ac p q l r,R)::r.all S:=by rw[Mt.all,hF,hS]
  have en:((Mt.split b ac p q l r).all R).length=(l.all F).length+(r.all S).length+1:=by rw[ea];simp;omega
  simp -dsimp (disch:=first|omega|(simp only[go_sem,seval];try omega))only[go_sem,seval,h3w,a33]
  refine OpX.gen fun w4 hw4=>?_
  have hc4:Chg [] w3 w4:=by rw[hw4];(repeat (first|exact Chg.refl _ _|apply Chg.drew|apply Chg.alloc|(refine Chg.set ?_ _ _ (by first|(left;simp;done)|(right;omega)))))
  have hz4:w4.heap.size=w3.heap.size+3:=by rw[hw4];simp -dsimp (disch:=first|omega|(simp only[go_sem,seval];try omega))only[go_sem,seval]
  have a7:w4.heap[w3.heap.size+2]?=some (.cells #[.int .i64 S.x,.int .i64 S.y,.int .i64 S.w,.int .i64 S.h] 49):=by rw[hw4];simp -dsimp (disch:=first|omega|(simp only[go_sem,seval];try omega))only[go_sem,seval]
  clear hw4
  have hc04:=hc13.trans0 hc4
  have a34:=hc4.keep a33 (by simp)
  have hz3:=hc3.size
  obtain⟨i4,m4⟩:=hI _ _ _ h0 hc04
  have lt4:∀x,M w4 x→x<w.heap.size:=fun x hx=>hM _ _ _ h0 (m4 x hx)
  have T4:Trn (M w) (M w4) w w4:=Trn.of0 hc04 fun x hx=>.inl (m4 x hx)
  refine OpX.call FO rfl (Calls.ret (ihl k k5 f1 hfl (fun j w h=>(hT j w h).2.1) i4 (fun j x w hx h=>hy j x w (by rw[ea,List.getElem?_append_left (by rcases Nat.lt_or_ge j (l.all F).length with h|h;exact h;rw[List.getElem?_eq_none h] at hx;cases hx)];exact hx) h)) ?_)
  rintro v w5 ⟨rfl,i5,t5⟩
  have T5:=T4.trans t5
  have hz5:=t5.size
  have a35:=t5.keep a34 (fun hm=>by have:=lt4 _ hm;omega)
  have a75:=t5.keep a7 (fun hm=>by have:=lt4 _ hm;omega)
  simp -dsimp (disch:=first|omega|(simp only[go_sem,seval];try omega))only[go_sem,seval,a35]
  have y:=hy (l.all F).length (Mt.split b ac p q l r,R) w5 (by rw[ea];simp) i5
  refine(y.use (vs:=[.pointer (some ⟨b,0,none⟩),R.val])) ?_
  rintro v w6 ⟨rfl,i6,t6⟩
  have T6:=T5.trans t6
  have h6:=(hT _ _ i6).1
  have a76:=t6.keep a75 (fun hm=>(t5.grow _ hm).elim (fun h=>by have:=lt4 _ h;omega) (fun h=>by omega))
  have hz6:=t6.size
  simp -dsimp (disch:=first|omega|(simp only[go_sem,seval];try omega))only[go_sem,seval,h6,a76]
  have key:∀j x w,(r.all S)[j]?=some x→I (k+(l.all F).length+1+j) w→Bd Tryz.prog yv [.pointer (some ⟨x.1.blk,0,none⟩),x.2.val] (fun v w'=>v=.bool true∧I (k+(l.all F).length+1+j+1) w'∧Trn (M w) (M w') w w') w:=by
   intro j x w hx h
   have:=hy ((l.all F).length+1+j) x w (by rw[ea,List.getElem?_append_right (by omega),show(l.all F).length+1+j-(l.all F).length=j+1 by omega];exact hx) (by rw[show k+((l.all F).length+1+j)=k+(l.all F).length+1+j by omega];exact h)
   rw[show k+((l.all F).length+1+j)+1=k+(l.all F).length+1+j+1 by omega] at this
   exact this
  refine OpX.call FO rfl (Calls.ret (ihr (k+(l.all F).length+1) k6 e1 hfr (fun j w h=>(hT j w h).2.2) i6 key) ?_)
  rintro v w7 ⟨rfl,i7,t7⟩
  refine⟨rfl,?_,T6.trans t7⟩
  rw[en]
  have e9:k+((l.all F).length+(r.all S).length+1)=k+(l.all F).length+1+(r.all S).length:=by omega
  rw[e9]
  exact i7
structure LAt (w:World) (b:Nat) (L:Ly):Prop where
 hb:w.heap[b]?=some (.cells #[.pointer (some ⟨L.root.blk,0,none⟩),.int .i64 L.R.x,.int .i64 L.R.y,.int .i64 L.R.w,.int .i64 L.R.h,.int .i64 L.newest] 166)
 tree:Aq w L.root
 nd:L.root.blks.Nodup
section
variable {w w':World} {b:Nat} {L:Ly}
theorem LAt.chg {F:List Nat} (h:LAt w b L) (hc:Chg F w w') (hb:b∉F) (hF:∀x∈L.root.blks,x∉F):LAt w' b L:=⟨hc.keep h.hb hb,h.tree.chg hc hF,h.nd⟩
theorem LAt.chg0 (h:LAt w b L) (hc:Chg [] w w'):LAt w' b L:=h.chg hc (by simp) (by simp)
theorem Ej (h:LAt w b L):Calls Tryz.prog 86 #[.pointer (some ⟨b,0,none⟩)] w (Ac fun v w'=>v=.bool false∧w'=w):=by
 have hb:=h.hb
 apply Xp
 intro K hK
 unfold Mh
 refine Join1.inl ?_
 simp -dsimp (disch:=first|omega|(simp only[go_sem,seval];try omega))only[go_sem,seval,hb]
 exact hK _ _ ⟨rfl,rfl⟩
theorem MX (w:World) (t:Nat) (R:Rc):Calls Tryz.prog 87 #[.pointer (some ⟨t,0,none⟩),R.val] w (Ac fun v w'=>v=.func (.func 142) #[] #[.pointer (some ⟨w.heap.size,0,none⟩),.pointer (some ⟨w.heap.size+1,0,none⟩)] ∧
  w'.heap[w.heap.size]?=some (.cells #[.pointer (some ⟨t,0,none⟩)] 164)∧w'.heap[w.heap.size+1]?=some (.cells #[.int .i64 R.x,.int .i64 R.y,.int .i64 R.w,.int .i64 R.h] 49)∧Chg [] w w'∧w'.heap.size=w.heap.size+2):=by
 apply UP
 intro K hK
 unfold Ny
 simp -dsimp (disch:=first|omega|(simp only[go_sem,seval];try omega))only[go_sem,seval,Rc.val]
 refine hK _ _ ⟨rfl,?_,?_,by(repeat (first|exact Chg.refl _ _|apply Chg.drew|apply Chg.alloc|(refine Chg.set ?_ _ _ (by first|(left;simp;done)|(right;omega))))),?_⟩
 ·simp -dsimp (disch:=first|omega|(simp only[go_sem,seval];try omega))only[go_sem,seval]
 ·simp -dsimp (disch:=first|omega|(simp only[go_sem,seval];try omega))only[go_sem,seval]
 ·simp -dsimp (disch:=first|omega|(simp only[go_sem,seval];try omega))only[go_sem,seval]
def Cc (p:Int × Rc):List Value:=.int .i64 p.1::p.2.cells
theorem E2 (p:Int × Rc):(Cc p).length=5:=rfl
theorem al (p:Int × Rc):AO (Cc p)=true:=rfl
theorem Rc.len4 (r:Rc):r.cells.length=4:=rfl
theorem Rc.okc (r:Rc):AO r.cells=true:=rfl
theorem FN (h:LAt w b L) (ok:L.ok):Calls Tryz.prog 46 #[.pointer (some ⟨b,0,none⟩)] w (Ac fun v w'=>Ox w.heap.size w' 59 5 Cc v (L.root.panes L.R)∧Chg [] w w'):=by
 have hal:=Mt.all_len L.root L.R
 have hfew:=ok.few
 apply Ry
 intro K hK
 unfold PF
 have hKo:=hK
 simp -dsimp (disch:=first|omega|(simp only[go_sem,seval];try omega))only[go_sem,seval]
 have hc0:=AA w (.cells #[.slice none 0 0] 53)
 have hb0:=Lyc.heap_alloc_new w (.cells #[.slice none 0 0] 53) _ rfl
 have hz0:(w.alloc (.cells #[.slice none 0 0] 53)).heap.size=w.heap.size+1:=by simp -dsimp (disch:=first|omega|(simp only[go_sem,seval];try omega))only[go_sem,seval]
 generalize w.alloc (.cells #[.slice none 0 0] 53)=w0 at hc0 hb0 hz0 ⊢
 have h0:=h.chg0 hc0
 refine OpX.call D8 rfl (Calls.ret (Ej h0) ?_)
 rintro v w1 ⟨rfl,rfl⟩
 have hh:=h0.hb
 simp -dsimp (disch:=first|omega|(simp only[go_sem,seval];try omega))only[go_sem,seval,hh]
 refine OpX.call Lr rfl (Calls.ret (MX w1.drew L.root.blk L.R) ?_)
 rintro v w2 ⟨rfl,p0,p1,hc2,hz2⟩
 have hc2:Chg [] w1 w2:=hc2.low_drew
 have hz2:w2.heap.size=w1.heap.size+2:=hz2
 refine⟨fun Lp yv hyv=>⟨_,[],_,rfl,Qa,?_⟩⟩
 have hl:((w2.alloc (.deferred (some []))).alloc (Lp .ready)).heap[w2.heap.size+1]?=some (Lp .ready):=by simp -dsimp (disch:=first|omega|(simp only[go_sem,seval];try omega))only[go_sem,seval]
 have hr:((w2.alloc (.deferred (some []))).alloc (Lp .ready)).heap[w2.heap.size]?=some (.deferred (some [])):=by simp -dsimp (disch:=first|omega|(simp only[go_sem,seval];try omega))only[go_sem,seval]
 have hc3:=BI w2 (.deferred (some [])) (Lp .ready)
 have hz3:((w2.alloc (.deferred (some []))).alloc (Lp .ready)).heap.size=w2.heap.size+2:=by simp -dsimp (disch:=first|omega|(simp only[go_sem,seval];try omega))only[go_sem,seval]
 generalize (w2.alloc (.deferred (some []))).alloc (Lp .ready)=w3 at hl hr hc3 hz3 ⊢
 have hc13:=hc2.trans0 hc3
 have hc03:=hc0.trans0 hc13
 have hb3:=hc13.keep hb0 (by simp)
 have q0:=hc3.keep (show w2.heap[w1.heap.size]?=_ from p0) (by simp)
 have q1:=hc3.keep (show w2.heap[w1.heap.size+1]?=_ from p1) (by simp)
 have hlb:=Aa hb0
 have hz1:w1.heap.size=w.heap.size+1:=hz0
 let I:Nat→World→Prop:=fun j w'=>w3.heap.size≤w'.heap.size∧w'.heap[w2.heap.size+1]?=some (Lp .ready)∧w'.heap[w2.heap.size]?=some (.deferred (some []))∧Aq w' L.root∧∃v,w'.heap[w.heap.size]?=some (.cells #[v] 53)∧Ox w3.heap.size w' 59 5 Cc v (((L.root.all L.R).take j).filterMap Mt.onePane)
 let M:World→Nat→Prop:=fun w' x=>x=w.heap.size∨x=w2.heap.size+1∨∃v,w'.heap[w.heap.size]?=some (.cells #[v] 53)∧v.ownBlock=some x
 have hM:∀j w' x,I j w'→M w' x→x<w'.heap.size:=by
  rintro j w' x ⟨i0,i1,i2,i3,v,i4,i5⟩ (rfl|rfl|⟨v',e,ho⟩)
  ·exact Aa i4
  ·exact Aa i1
  ·rw[i4] at e
   simp only[Option.some.injEq,Obj.cells.injEq,Array.mk.injEq,List.cons.injEq,and_true] at e
   obtain⟨rfl,-⟩:=e
   obtain⟨-,-,-,-,-,hown,-⟩:=i5.form
   exact(hown x ho.symm).2
 have hI:∀j w' w'',I j w'→Chg [] w' w''→I j w''∧∀x,M w'' x→M w' x:=by
  rintro j w' w'' ⟨i0,i1,i2,i3,v,i4,i5⟩ hc
  refine⟨⟨Nat.le_trans i0 hc.size,hc.keep i1 (by simp),hc.keep i2 (by simp),i3.chg0 hc,v,hc.keep i4 (by simp),i5.chg0 hc⟩,?_⟩
  rintro x (rfl|rfl|⟨v',e,ho⟩)
  ·exact .inl rfl
  ·exact .inr (.inl rfl)
  ·rw[hc.keep i4 (by simp)] at e
   simp only[Option.some.injEq,Obj.cells.injEq,Array.mk.injEq,List.cons.injEq,and_true] at e
   obtain⟨rfl,-⟩:=e
   exact .inr (.inr ⟨v,i4,ho⟩)
 have h3:I 0 w3:=⟨Nat.le_refl _,hl,hr,h0.tree.chg0 hc13,_,hb3,Ox.nil _ _ _ _ _⟩
 have hstep:∀j x w',(L.root.all L.R)[j]?=some x→I (0+j) w'→Bd Tryz.prog yv [.pointer (some ⟨x.1.blk,0,none⟩),x.2.val] (fun v w''=>v=.bool true∧I (0+j+1) w''∧Trn (M w') (M w'') w' w'') w':=by
  rintro j ⟨m,S⟩ w' hx ⟨i0,i1,i2,i3,v,i4,i5⟩
  rw[Nat.zero_add] at *
  refine hyv _ _ _ rfl i1 ?_
  have l1:=Aa i1
  have l4:=Aa i4
  have hT:=i3.sub _ (List.mem_of_getElem? hx)
  dsimp only at hT
  simp -dsimp (disch:=first|omega|(simp only[go_sem,seval];try omega))only[go_sem,seval,Rc.val]
  refine⟨i1,?_⟩
  refine OpX.gen fun w5 hw5=>?_
  have hc5:Chg [w2.heap.size+1] w' w5:=by rw[hw5];(repeat (first|exact Chg.refl _ _|apply Chg.drew|apply Chg.alloc|(refine Chg.set ?_ _ _ (by first|(left;simp;done)|(right;omega)))))
  have hz5:w5.heap.size=w'.heap.size+1:=by rw[hw5];simp -dsimp (disch:=first|omega|(simp only[go_sem,seval];try omega))only[go_sem,seval]
  have a5:w5.heap[w'.heap.size]?=some (.cells #[.int .i64 S.x,.int .i64 S.y,.int .i64 S.w,.int .i64 S.h] 49):=by rw[hw5];simp -dsimp (disch:=first|omega|(simp only[go_sem,seval];try omega))only[go_sem,seval]
  have b5:w5.heap[w2.heap.size+1]?=some (Lp .busy):=by rw[hw5];simp -dsimp (disch:=first|omega|(simp only[go_sem,seval];try omega))only[go_sem,seval]
  clear hw5
  have hbl:∀x∈L.root.blks,x≠w2.heap.size+1∧x≠w.heap.size:=fun x hx=>by
   have h9:=h.tree.lt x hx
   have:=hc13.size
   omega
  have hmb:∀x∈m.blks,x∈L.root.blks:=Mt.all_blk _ (List.mem_of_getElem? hx)
  have j2:=hc5.keep i2 (by simp)
  have j3:=Aq.chg hc5 i3 (fun x hx=>by simpa using (hbl x hx).1)
  have j4:=hc5.keep i4 (by simp;omega)
  have j5:=i5.low hc5 (by simp;omega)
  have hT5:=Aq.chg hc5 hT (fun x hx=>by simpa using (hbl x (hmb x hx)).1)
  refine OpX.call Df rfl (Calls.ret (CY hT5) ?_)
  rintro v' w6 ⟨rfl,rfl⟩
  have ht:(L.root.all L.R).take (j+1)=(L.root.all L.R).take j++[(m,S)]:=by
   rw[List.take_add_one,hx];rfl
  cases m with
  | split mb mac mp mq ml mr =>
   simp -dsimp (disch:=first|omega|(simp only[go_sem,seval];try omega))only[go_sem,seval,Mt.isPane]
   refine⟨b5,?_⟩
   have hc6:Chg [w2.heap.size+1] w6 (Ab w6 (w2.heap.size+1) (Lp .ready)):=(Chg.refl _ _).set _ _ (by simp)
   have hc56:=hc5.trans hc6 (fun x hx=>.inl hx)
   have e9:((L.root.all L.R).take (j+1)).filterMap Mt.onePane=((L.root.all L.R).take j).filterMap Mt.onePane:=by rw[ht,List.filterMap_append];simp [Mt.onePane]
   have k4:=hc6.keep j4 (by simp;omega)
   refine⟨⟨Nat.le_trans i0 hc56.size,Ar _ _ _ _ rfl (Aa b5),hc6.keep j2 (by simp),Aq.chg hc6 j3 (fun x hx=>by simpa using (hbl x hx).1),v,k4,?_⟩,Trn.of hc56 (fun x hx=>by simp at hx;exact .inr (.inl hx)) fun x hx=>?_⟩
   ·rw[e9];exact j5.low hc6 (by simp;omega)
   ·rcases hx with hx|hx|⟨v',e,ho⟩
    ·exact .inl (.inl hx)
    ·exact .inl (.inr (.inl hx))
    ·rw[k4] at e
     simp only[Option.some.injEq,Obj.cells.injEq,Array.mk.injEq,List.cons.injEq,and_true] at e
     exact .inl (.inr (.inr ⟨v,i4,e ▸ ho⟩))
  | pane mb mid =>
   simp only[Aq,Mt.blk] at hT5
   obtain⟨a,cap,rfl,hcp,hsx,hown,-⟩:=j5.form
   have e9:((L.root.all L.R).take (j+1)).filterMap Mt.onePane=((L.root.all L.R).take j).filterMap Mt.onePane++[(mid,S)]:=by rw[ht,List.filterMap_append];simp [Mt.onePane]
   have hln:(((L.root.all L.R).take j).filterMap Mt.onePane).length≤100:=by
    have h1:=List.length_filterMap_le Mt.onePane ((L.root.all L.R).take j)
    have h2:((L.root.all L.R).take j).length≤(L.root.all L.R).length:=by rw[List.length_take];omega
    omega
   simp -dsimp (disch:=first|omega|(simp only[go_sem,seval];try omega))only[go_sem,seval,Mt.isPane,Mt.blk,j4,hT5,a5]
   have hw6:=hc5.size
   refine OpX.gen fun w7 hw7=>?_
   have hc7:Chg [] w6 w7:=by rw[hw7];(repeat (first|exact Chg.refl _ _|apply Chg.drew|apply Chg.alloc|(refine Chg.set ?_ _ _ (by first|(left;simp;done)|(right;omega)))))
   have hsa:Sx w7 (some 59) Cc (some ⟨w6.heap.size,0,none⟩) [(mid,S)]:=Sx.built (c:=Cc (mid,S)) (by rw[hw7];simp only[Cc,Rc.cells];simp -dsimp (disch:=first|omega|(simp only[go_sem,seval];try omega))only[go_sem,seval]) rfl
   clear hw7
   have ho7:=j5.chg0 hc7
   have j47:=hc7.keep j4 (by simp)
   have b57:=hc7.keep b5 (by simp)
   have j37:=j3.chg0 hc7
   have j27:=hc7.keep j2 (by simp)
   have hw7:=hc7.size
   refine Bz Zw E2 al ho7 hsa rfl (by rw[List.length_singleton];omega) (by omega) (by omega) ?_
   intro v' w8 ho8 hc8 hown8
   have hge:=ho7.own_ge
   have j48:=hc8.keep j47 (fun hm=>by have:=hge _ hm;omega)
   have b58:=hc8.keep b57 (fun hm=>by have:=hge _ hm;omega)
   have j28:=hc8.keep j27 (fun hm=>by have:=hge _ hm;omega)
   have j38:=Aq.chg hc8 j37 (fun x hx hm=>by have h1:=hge _ hm;have h2:=h.tree.lt x hx;have:=hc03.size;omega)
   have hl8:=Aa j48
   have hlb8:=Aa b58
   obtain⟨a8,cap8,rfl,-,-,hown8',-⟩:=ho8.form
   simp -dsimp (disch:=first|omega|(simp only[go_sem,seval];try omega))only[go_sem,seval,j48,b58]
   have hc9:Chg [w.heap.size,w2.heap.size+1] w8 (Ab (Ab w8 w.heap.size (.cells #[.slice a8 ((((L.root.all L.R).take j).filterMap Mt.onePane)++[(mid,S)]).length cap8] 53)) (w2.heap.size+1) (Lp .ready)):=((Chg.refl _ _).set _ _ (by simp)).set _ _ (by simp)
   have hc59:Chg ([w.heap.size,w2.heap.size+1]++(Value.slice a (((L.root.all L.R).take j).filterMap Mt.onePane).length cap).ownBlock.toList) w' (Ab (Ab w8 w.heap.size (.cells #[.slice a8 ((((L.root.all L.R).take j).filterMap Mt.onePane)++[(mid,S)]).length cap8] 53)) (w2.heap.size+1) (Lp .ready)) :=
    (((hc5.mono (F':=[w.heap.size,w2.heap.size+1]++(Value.slice a (((L.root.all L.R).take j).filterMap Mt.onePane).length cap).ownBlock.toList) (by simp)).trans0 hc7).trans hc8 (fun x hx=>.inl (List.mem_append_right _ hx))).trans hc9 (fun x hx=>.inl (List.mem_append_left _ hx))
   have k4:(Ab (Ab w8 w.heap.size (.cells #[.slice a8 ((((L.root.all L.R).take j).filterMap Mt.onePane)++[(mid,S)]).length cap8] 53)) (w2.heap.size+1) (Lp .ready)).heap[w.heap.size]?=some (.cells #[.slice a8 ((((L.root.all L.R).take j).filterMap Mt.onePane)++[(mid,S)]).length cap8] 53):=by
    rw[AW _ _ _ _ (by omega)];exact Ar _ _ _ _ rfl hl8
   refine⟨⟨Nat.le_trans i0 hc59.size,Ar _ _ _ _ rfl (by rw[Dy];exact hlb8),hc9.keep j28 (by simp;omega),Aq.chg hc9 j38 (fun x hx=>by simpa using ⟨(hbl x hx).2,(hbl x hx).1⟩),_,k4,?_⟩,Trn.of hc59 (fun x hx=>?_) fun x hx=>?_⟩
   ·rw[e9];exact ho8.low hc9 (by simp;omega)
   ·simp only[List.cons_append,List.nil_append,List.mem_cons,Option.mem_toList] at hx
    rcases hx with hx|hx|hx
    ·exact .inl hx
    ·exact .inr (.inl hx)
    ·exact .inr (.inr ⟨_,i4,hx⟩)
   ·rcases hx with hx|hx|⟨v',e,ho⟩
    ·exact .inl (.inl hx)
    ·exact .inl (.inr (.inl hx))
    ·rw[k4] at e
     simp only[Option.some.injEq,Obj.cells.injEq,Array.mk.injEq,List.cons.injEq,and_true] at e
     obtain⟨rfl,-⟩:=e
     rcases hown8 with h9|h9
     ·exact .inl (.inr (.inr ⟨_,i4,h9 ▸ ho⟩))
     ·rw[h9] at ho
      cases ho
      exact .inr (by omega)
 apply Lm
 intro K hK
 unfold I8
 simp -dsimp (disch:=first|omega|(simp only[go_sem,seval];try omega))only[go_sem,seval,q0,q1]
 refine OpX.call FO rfl (Calls.ret (LD I M hM hI 0 ok.ok ok.R ok.fits (fun j w h=>h.2.2.2.1) h3 hstep) ?_)
 rintro v w4 ⟨rfl,i4,t4⟩
 rw[Nat.zero_add] at i4
 obtain⟨i0,i1,i2,i3,v,i4,i5⟩:=i4
 rw[List.take_length,Mt.all_panes] at i5
 refine hK _ _ (.inl ⟨i1,?_⟩)
 have l1:=Aa i1
 have hc5:Chg [w2.heap.size+1] w4 (Ab w4 (w2.heap.size+1) (Lp (.over .normal))):=(Chg.refl _ _).set _ _ (by simp)
 have k4:=hc5.keep i4 (by simp;omega)
 have k2:=hc5.keep i2 (by simp)
 have k5:=i5.low hc5 (by simp;omega)
 have t5:=t4
 generalize Ab w4 _ _=w5 at hc5 k4 k2 k5 ⊢
 simp -dsimp (disch:=first|omega|(simp only[go_sem,seval];try omega))only[go_sem,seval,k4]
 refine EJ k2 ?_
 have hc6:Chg [w2.heap.size] w5 (Ab w5 w2.heap.size (.deferred none)):=(Chg.refl _ _).set _ _ (by simp)
 refine hKo _ _ ⟨(k5.low hc6 (by simp;omega)).base_le (by omega),?_⟩
 have hc34:Chg [] w w4:=t4.base hc03 (fun x hx=>?_)
 ·exact(hc34.trans hc5 (by simp;omega)).trans hc6 (by simp;omega)
 ·rcases hx with rfl|rfl|⟨v',e,ho⟩
  ·omega
  ·omega
  ·rw[hb3] at e
   simp only[Option.some.injEq,Obj.cells.injEq,Array.mk.injEq,List.cons.injEq,and_true] at e
   obtain⟨rfl,-⟩:=e
   simp [Value.ownBlock] at ho
theorem W5 (h:LAt w b L) (ok:L.ok):Calls Tryz.prog 45 #[.pointer (some ⟨b,0,none⟩)] w (Ac fun v w'=>Ox w.heap.size w' 49 4 Rc.cells v (L.root.bords L.R)∧Chg [] w w'):=by
 have hal:=Mt.all_len L.root L.R
 have hfew:=ok.few
 apply VK
 intro K hK
 unfold N1
 have hKo:=hK
 simp -dsimp (disch:=first|omega|(simp only[go_sem,seval];try omega))only[go_sem,seval]
 have hc0:=AA w (.cells #[.slice none 0 0] 45)
 have hb0:=Lyc.heap_alloc_new w (.cells #[.slice none 0 0] 45) _ rfl
 have hz0:(w.alloc (.cells #[.slice none 0 0] 45)).heap.size=w.heap.size+1:=by simp -dsimp (disch:=first|omega|(simp only[go_sem,seval];try omega))only[go_sem,seval]
 generalize w.alloc (.cells #[.slice none 0 0] 45)=w0 at hc0 hb0 hz0 ⊢
 have h0:=h.chg0 hc0
 refine OpX.call D8 rfl (Calls.ret (Ej h0) ?_)
 rintro v w1 ⟨rfl,rfl⟩
 have hh:=h0.hb
 simp -dsimp (disch:=first|omega|(simp only[go_sem,seval];try omega))only[go_sem,seval,hh]
 refine OpX.call Lr rfl (Calls.ret (MX w1.drew L.root.blk L.R) ?_)
 rintro v w2 ⟨rfl,p0,p1,hc2,hz2⟩
 have hc2:Chg [] w1 w2:=hc2.low_drew
 have hz2:w2.heap.size=w1.heap.size+2:=hz2
 refine⟨fun Lp yv hyv=>⟨_,[],_,rfl,Qa,?_⟩⟩
 have hl:((w2.alloc (.deferred (some []))).alloc (Lp .ready)).heap[w2.heap.size+1]?=some (Lp .ready):=by simp -dsimp (disch:=first|omega|(simp only[go_sem,seval];try omega))only[go_sem,seval]
 have hr:((w2.alloc (.deferred (some []))).alloc (Lp .ready)).heap[w2.heap.size]?=some (.deferred (some [])):=by simp -dsimp (disch:=first|omega|(simp only[go_sem,seval];try omega))only[go_sem,seval]
 have hc3:=BI w2 (.deferred (some [])) (Lp .ready)
 have hz3:((w2.alloc (.deferred (some []))).alloc (Lp .ready)).heap.size=w2.heap.size+2:=by simp -dsimp (disch:=first|omega|(simp only[go_sem,seval];try omega))only[go_sem,seval]
 generalize (w2.alloc (.deferred (some []))).alloc (Lp .ready)=w3 at hl hr hc3 hz3 ⊢
 have hc13:=hc2.trans0 hc3
 have hc03:=hc0.trans0 hc13
 have hb3:=hc13.keep hb0 (by simp)
 have q0:=hc3.keep (show w2.heap[w1.heap.size]?=_ from p0) (by simp)
 have q1:=hc3.keep (show w2.heap[w1.heap.size+1]?=_ from p1) (by simp)
 have hlb:=Aa hb0
 have hz1:w1.heap.size=w.heap.size+1:=hz0
 let I:Nat→World→Prop:=fun j w'=>w3.heap.size≤w'.heap.size∧w'.heap[w2.heap.size+1]?=some (Lp .ready)∧w'.heap[w2.heap.size]?=some (.deferred (some []))∧Aq w' L.root∧∃v,w'.heap[w.heap.size]?=some (.cells #[v] 45)∧Ox w3.heap.size w' 49 4 Rc.cells v (((L.root.all L.R).take j).filterMap Mt.oneBord)
 let M:World→Nat→Prop:=fun w' x=>x=w.heap.size∨x=w2.heap.size+1∨∃v,w'.heap[w.heap.size]?=some (.cells #[v] 45)∧v.ownBlock=some x
 have hM:∀j w' x,I j w'→M w' x→x<w'.heap.size:=by
  rintro j w' x ⟨i0,i1,i2,i3,v,i4,i5⟩ (rfl|rfl|⟨v',e,ho⟩)
  ·exact Aa i4
  ·exact Aa i1
  ·rw[i4] at e
   simp only[Option.some.injEq,Obj.cells.injEq,Array.mk.injEq,List.cons.injEq,and_true] at e
   obtain⟨rfl,-⟩:=e
   obtain⟨-,-,-,-,-,hown,-⟩:=i5.form
   exact(hown x ho.symm).2
 have hI:∀j w' w'',I j w'→Chg [] w' w''→I j w''∧∀x,M w'' x→M w' x:=by
  rintro j w' w'' ⟨i0,i1,i2,i3,v,i4,i5⟩ hc
  refine⟨⟨Nat.le_trans i0 hc.size,hc.keep i1 (by simp),hc.keep i2 (by simp),i3.chg0 hc,v,hc.keep i4 (by simp),i5.chg0 hc⟩,?_⟩
  rintro x (rfl|rfl|⟨v',e,ho⟩)
  ·exact .inl rfl
  ·exact .inr (.inl rfl)
  ·rw[hc.keep i4 (by simp)] at e
   simp only[Option.some.injEq,Obj.cells.injEq,Array.mk.injEq,List.cons.injEq,and_true] at e
   obtain⟨rfl,-⟩:=e
   exact .inr (.inr ⟨v,i4,ho⟩)
 have h3:I 0 w3:=⟨Nat.le_refl _,hl,hr,h0.tree.chg0 hc13,_,hb3,Ox.nil _ _ _ _ _⟩
 have hstep:∀j x w',(L.root.all L.R)[j]?=some x→I (0+j) w'→Bd Tryz.prog yv [.pointer (some ⟨x.1.blk,0,none⟩),x.2.val] (fun v w''=>v=.bool true∧I (0+j+1) w''∧Trn (M w') (M w'') w' w'') w':=by
  rintro j ⟨m,S⟩ w' hx ⟨i0,i1,i2,i3,v,i4,i5⟩
  rw[Nat.zero_add] at *
  refine hyv _ _ _ rfl i1 ?_
  have l1:=Aa i1
  have l4:=Aa i4
  have hT:=i3.sub _ (List.mem_of_getElem? hx)
  dsimp only at hT
  simp -dsimp (disch:=first|omega|(simp only[go_sem,seval];try omega))only[go_sem,seval,Rc.val]
  refine⟨i1,?_⟩
  refine OpX.gen fun w5 hw5=>?_
  have hc5:Chg [w2.heap.size+1] w' w5:=by rw[hw5];(repeat (first|exact Chg.refl _ _|apply Chg.drew|apply Chg.alloc|(refine Chg.set ?_ _ _ (by first|(left;simp;done)|(right;omega)))))
  have hz5:w5.heap.size=w'.heap.size+1:=by rw[hw5];simp -dsimp (disch:=first|omega|(simp only[go_sem,seval];try omega))only[go_sem,seval]
  have a5:w5.heap[w'.heap.size]?=some (.cells #[.int .i64 S.x,.int .i64 S.y,.int .i64 S.w,.int .i64 S.h] 49):=by rw[hw5];simp -dsimp (disch:=first|omega|(simp only[go_sem,seval];try omega))only[go_sem,seval]
  have b5:w5.heap[w2.heap.size+1]?=some (Lp .busy):=by rw[hw5];simp -dsimp (disch:=first|omega|(simp only[go_sem,seval];try omega))only[go_sem,seval]
  clear hw5
  have hbl:∀x∈L.root.blks,x≠w2.heap.size+1∧x≠w.heap.size:=fun x hx=>by
   have h9:=h.tree.lt x hx
   have:=hc13.size
   omega
  have hmb:∀x∈m.blks,x∈L.root.blks:=Mt.all_blk _ (List.mem_of_getElem? hx)
  have j2:=hc5.keep i2 (by simp)
  have j3:=Aq.chg hc5 i3 (fun x hx=>by simpa using (hbl x hx).1)
  have j4:=hc5.keep i4 (by simp;omega)
  have j5:=i5.low hc5 (by simp;omega)
  have hT5:=Aq.chg hc5 hT (fun x hx=>by simpa using (hbl x (hmb x hx)).1)
  refine OpX.call Df rfl (Calls.ret (CY hT5) ?_)
  rintro v' w6 ⟨rfl,rfl⟩
  have ht:(L.root.all L.R).take (j+1)=(L.root.all L.R).take j++[(m,S)]:=by
   rw[List.take_add_one,hx];rfl
  cases m with
  | split mb mac mp mq ml mr =>
   obtain⟨hT5,-,-⟩:=hT5
   obtain⟨a,cap,rfl,hcp,hsx,hown,-⟩:=j5.form
   have e9:((L.root.all L.R).take (j+1)).filterMap Mt.oneBord=((L.root.all L.R).take j).filterMap Mt.oneBord++[B7 S mac (As (S.len mac) mp mq)]:=by rw[ht,List.filterMap_append];simp [Mt.oneBord]
   have hln:(((L.root.all L.R).take j).filterMap Mt.oneBord).length≤100:=by
    have h1:=List.length_filterMap_le Mt.oneBord ((L.root.all L.R).take j)
    have h2:((L.root.all L.R).take j).length≤(L.root.all L.R).length:=by rw[List.length_take];omega
    omega
   obtain⟨S1,-,S2⟩:=Mt.all_ok ok.fits ok.R _ (List.mem_of_getElem? hx)
   obtain⟨S3,-,-⟩:=Mt.fits_split S2
   obtain⟨o1,o2,o3,o4,-,-⟩:=(Mt.put_all (new:=.pane 0 0) h.nd (List.mem_of_getElem? hx)).2.2.2.1 ok.ok
   simp -dsimp (disch:=first|omega|(simp only[go_sem,seval];try omega))only[go_sem,seval,Mt.isPane,Mt.blk,a5]
   refine OpX.call FT rfl (Calls.ret (GQ hT5 o1 o2 o3 o4 S1 S3) ?_)
   rintro v6 w65 ⟨rfl,hc65⟩
   replace j4:=hc65.keep j4 (by simp)
   replace b5:=hc65.keep b5 (by simp)
   replace j2:=hc65.keep j2 (by simp)
   replace j3:=j3.chg0 hc65
   replace j5:=j5.chg0 hc65
   replace hc5:=hc5.trans0 hc65
   have hz65:=hc65.size
   replace hz5:w'.heap.size+1≤w65.heap.size:=by omega
   clear hT5 a5
   clear hc65
   generalize w65=w6 at *
   simp -dsimp (disch:=first|omega|(simp only[go_sem,seval];try omega))only[go_sem,seval,Rc.val,j4]
   have hw6:=hc5.size
   refine OpX.gen fun w7 hw7=>?_
   have hc7:Chg [] w6 w7:=by rw[hw7];(repeat (first|exact Chg.refl _ _|apply Chg.drew|apply Chg.alloc|(refine Chg.set ?_ _ _ (by first|(left;simp;done)|(right;omega)))))
   have hsa:Sx w7 (some 49) Rc.cells (some ⟨w6.heap.size+3,0,none⟩) [B7 S mac (As (S.len mac) mp mq)]:=Sx.built (c:=Rc.cells (B7 S mac (As (S.len mac) mp mq))) (by rw[hw7];simp only[Rc.cells,Rc.cells];simp -dsimp (disch:=first|omega|(simp only[go_sem,seval];try omega))only[go_sem,seval]) rfl
   clear hw7
   have ho7:=j5.chg0 hc7
   have j47:=hc7.keep j4 (by simp)
   have b57:=hc7.keep b5 (by simp)
   have j37:=j3.chg0 hc7
   have j27:=hc7.keep j2 (by simp)
   have hw7:=hc7.size
   refine Bz VP Rc.len4 Rc.okc ho7 hsa rfl (by rw[List.length_singleton];omega) (by omega) (by omega) ?_
   intro v' w8 ho8 hc8 hown8
   have hge:=ho7.own_ge
   have j48:=hc8.keep j47 (fun hm=>by have:=hge _ hm;omega)
   have b58:=hc8.keep b57 (fun hm=>by have:=hge _ hm;omega)
   have j28:=hc8.keep j27 (fun hm=>by have:=hge _ hm;omega)
   have j38:=Aq.chg hc8 j37 (fun x hx hm=>by have h1:=hge _ hm;have h2:=h.tree.lt x hx;have:=hc03.size;omega)
   have hl8:=Aa j48
   have hlb8:=Aa b58
   obtain⟨a8,cap8,rfl,-,-,hown8',-⟩:=ho8.form
   simp -dsimp (disch:=first|omega|(simp only[go_sem,seval];try omega))only[go_sem,seval,j48,b58]
   have hc9:Chg [w.heap.size,w2.heap.size+1] w8 (Ab (Ab w8 w.heap.size (.cells #[.slice a8 ((((L.root.all L.R).take j).filterMap Mt.oneBord)++[B7 S mac (As (S.len mac) mp mq)]).length cap8] 45)) (w2.heap.size+1) (Lp .ready)):=((Chg.refl _ _).set _ _ (by simp)).set _ _ (by simp)
   have hc59:Chg ([w.heap.size,w2.heap.size+1]++(Value.slice a (((L.root.all L.R).take j).filterMap Mt.oneBord).length cap).ownBlock.toList) w' (Ab (Ab w8 w.heap.size (.cells #[.slice a8 ((((L.root.all L.R).take j).filterMap Mt.oneBord)++[B7 S mac (As (S.len mac) mp mq)]).length cap8] 45)) (w2.heap.size+1) (Lp .ready)) :=
    (((hc5.mono (F':=[w.heap.size,w2.heap.size+1]++(Value.slice a (((L.root.all L.R).take j).filterMap Mt.oneBord).length cap).ownBlock.toList) (by simp)).trans0 hc7).trans hc8 (fun x hx=>.inl (List.mem_append_right _ hx))).trans hc9 (fun x hx=>.inl (List.mem_append_left _ hx))
   have k4:(Ab (Ab w8 w.heap.size (.cells #[.slice a8 ((((L.root.all L.R).take j).filterMap Mt.oneBord)++[B7 S mac (As (S.len mac) mp mq)]).length cap8] 45)) (w2.heap.size+1) (Lp .ready)).heap[w.heap.size]?=some (.cells #[.slice a8 ((((L.root.all L.R).take j).filterMap Mt.oneBord)++[B7 S mac (As (S.len mac) mp mq)]).length cap8] 45):=by
    rw[AW _ _ _ _ (by omega)];exact Ar _ _ _ _ rfl hl8
   refine⟨⟨Nat.le_trans i0 hc59.size,Ar _ _ _ _ rfl (by rw[Dy];exact hlb8),hc9.keep j28 (by simp;omega),Aq.chg hc9 j38 (fun x hx=>by simpa using ⟨(hbl x hx).2,(hbl x hx).1⟩),_,k4,?_⟩,Trn.of hc59 (fun x hx=>?_) fun x hx=>?_⟩
   ·rw[e9];exact ho8.low hc9 (by simp;omega)
   ·simp only[List.cons_append,List.nil_append,List.mem_cons,Option.mem_toList] at hx
    rcases hx with hx|hx|hx
    ·exact .inl hx
    ·exact .inr (.inl hx)
    ·exact .inr (.inr ⟨_,i4,hx⟩)
   ·rcases hx with hx|hx|⟨v',e,ho⟩
    ·exact .inl (.inl hx)
    ·exact .inl (.inr (.inl hx))
    ·rw[k4] at e
     simp only[Option.some.injEq,Obj.cells.injEq,Array.mk.injEq,List.cons.injEq,and_true] at e
     obtain⟨rfl,-⟩:=e
     rcases hown8 with h9|h9
     ·exact .inl (.inr (.inr ⟨_,i4,h9 ▸ ho⟩))
     ·rw[h9] at ho
      cases ho
      exact .inr (by omega)
  | pane mb mid =>
   simp -dsimp (disch:=first|omega|(simp only[go_sem,seval];try omega))only[go_sem,seval,Mt.isPane]
   refine⟨b5,?_⟩
   have hc6:Chg [w2.heap.size+1] w6 (Ab w6 (w2.heap.size+1) (Lp .ready)):=(Chg.refl _ _).set _ _ (by simp)
   have hc56:=hc5.trans hc6 (fun x hx=>.inl hx)
   have e9:((L.root.all L.R).take (j+1)).filterMap Mt.oneBord=((L.root.all L.R).take j).filterMap Mt.oneBord:=by rw[ht,List.filterMap_append];simp [Mt.oneBord]
   have k4:=hc6.keep j4 (by simp;omega)
   refine⟨⟨Nat.le_trans i0 hc56.size,Ar _ _ _ _ rfl (Aa b5),hc6.keep j2 (by simp),Aq.chg hc6 j3 (fun x hx=>by simpa using (hbl x hx).1),v,k4,?_⟩,Trn.of hc56 (fun x hx=>by simp at hx;exact .inr (.inl hx)) fun x hx=>?_⟩
   ·rw[e9];exact j5.low hc6 (by simp;omega)
   ·rcases hx with hx|hx|⟨v',e,ho⟩
    ·exact .inl (.inl hx)
    ·exact .inl (.inr (.inl hx))
    ·rw[k4] at e
     simp only[Option.some.injEq,Obj.cells.injEq,Array.mk.injEq,List.cons.injEq,and_true] at e
     exact .inl (.inr (.inr ⟨v,i4,e ▸ ho⟩))
 apply Lm
 intro K hK
 unfold I8
 simp -dsimp (disch:=first|omega|(simp only[go_sem,seval];try omega))only[go_sem,seval,q0,q1]
 refine OpX.call FO rfl (Calls.ret (LD I M hM hI 0 ok.ok ok.R ok.fits (fun j w h=>h.2.2.2.1) h3 hstep) ?_)
 rintro v w4 ⟨rfl,i4,t4⟩
 rw[Nat.zero_add] at i4
 obtain⟨i0,i1,i2,i3,v,i4,i5⟩:=i4
 rw[List.take_length,Mt.all_bords] at i5
 refine hK _ _ (.inl ⟨i1,?_⟩)
 have l1:=Aa i1
 have hc5:Chg [w2.heap.size+1] w4 (Ab w4 (w2.heap.size+1) (Lp (.over .normal))):=(Chg.refl _ _).set _ _ (by simp)
 have k4:=hc5.keep i4 (by simp;omega)
 have k2:=hc5.keep i2 (by simp)
 have k5:=i5.low hc5 (by simp;omega)
 have t5:=t4
 generalize Ab w4 _ _=w5 at hc5 k4 k2 k5 ⊢
 simp -dsimp (disch:=first|omega|(simp only[go_sem,seval];try omega))only[go_sem,seval,k4]
 refine EJ k2 ?_
 have hc6:Chg [w2.heap.size] w5 (Ab w5 w2.heap.size (.deferred none)):=(Chg.refl _ _).set _ _ (by simp)
 refine hKo _ _ ⟨(k5.low hc6 (by simp;omega)).base_le (by omega),?_⟩
 have hc34:Chg [] w w4:=t4.base hc03 (fun x hx=>?_)
 ·exact(hc34.trans hc5 (by simp;omega)).trans hc6 (by simp;omega)
 ·rcases hx with rfl|rfl|⟨v',e,ho⟩
  ·omega
  ·omega
  ·rw[hb3] at e
   simp only[Option.some.injEq,Obj.cells.injEq,Array.mk.injEq,List.cons.injEq,and_true] at e
   obtain⟨rfl,-⟩:=e
   simp [Value.ownBlock] at ho
end
def Dt (l:List Int) (id:Int):Int:=match l.findIdx? (· == id) with
 | none=>0
 | some i=>l.getD ((i+1) % l.length) 0
section
variable {w w':World} {b:Nat} {L:Ly}
theorem MG (h:LAt w b L) (ok:L.ok) (id:Int):Calls Tryz.prog 115 #[.pointer (some ⟨b,0,none⟩),.int .i64 id] w (Ac fun v w'=>v=.int .i64 (Dt L.root.ids id)∧Chg [] w w'):=by
 have hpl:=Mt.panes_len L.root L.R
 have hpi:=Mt.panes_ids L.root L.R
 have hfew:=ok.few
 have hpos:=Mt.ids_pos L.root
 apply R4
 intro K hK
 unfold KS
 refine OpX.call F0 rfl (Calls.ret (FN h ok) ?_)
 rintro v w1 ⟨ho,hc1⟩
 obtain⟨a,cap,rfl,-,hs,-,-⟩:=ho.form
 simp -dsimp (disch:=first|omega|(simp only[go_sem,seval];try omega))only[go_sem,seval]
 refine Loop1.st (fun q:Nat=>.int .i64 (q:Int)) (fun q w'=>q≤(L.root.panes L.R).length∧Chg [] w1 w'∧∀j,j<q→L.root.ids[j]?≠some id) (fun q=>(L.root.panes L.R).length-q) 0 rfl ⟨by simp,Chg.refl _ _,by simp⟩ ?_
 rintro next i wi hn ⟨hi,hc,hne⟩
 simp -dsimp (disch:=first|omega|(simp only[go_sem,seval];try omega))only[go_sem,seval]
 refine BrW.dec (fun g=>?_) (fun g=>?_)
 ·have hi':i<(L.root.panes L.R).length:=by omega
  obtain⟨b',o,rfl,hbl,hcell⟩:=(hs.chg0 hc).get E2 (List.getElem?_eq_getElem hi')
  have hidi:L.root.ids[i]?=some (L.root.panes L.R)[i].1:=by rw[←hpi,List.getElem?_map,List.getElem?_eq_getElem hi'];rfl
  generalize (L.root.panes L.R)[i]=x at *
  simp only[Cc,Rc.cells] at hcell
  simp -dsimp (disch:=first|omega|(simp only[go_sem,seval];try omega))only[go_sem,seval,hcell]
  have hca:=AA wi (.cells #[.int .i64 x.1,.int .i64 x.2.x,.int .i64 x.2.y,.int .i64 x.2.w,.int .i64 x.2.h] 59)
  generalize wi.alloc _=wj at hca ⊢
  have hcj:=hc.trans0 hca
  refine BrW.dec (fun g2=>?_) (fun g2=>?_)
  ·have hk:(i+1) % (L.root.panes L.R).length<(L.root.panes L.R).length:=Nat.mod_lt _ (by omega)
   obtain⟨b2,o2,e2,hbl2,hcell2⟩:=(hs.chg0 hcj).get E2 (List.getElem?_eq_getElem hk)
   have hidk:L.root.ids[(i+1) % (L.root.panes L.R).length]?=some (L.root.panes L.R)[(i+1) % (L.root.panes L.R).length].1:=by rw[←hpi,List.getElem?_map,List.getElem?_eq_getElem hk];rfl
   generalize (L.root.panes L.R)[(i+1) % (L.root.panes L.R).length]=y at *
   simp only[Option.some.injEq,Addr.mk.injEq,and_true] at e2
   obtain⟨rfl,rfl⟩:=e2
   have hc0:=CG hcell2 0 (by omega)
   rw[Nat.add_zero] at hc0
   have hy:(Cc y).toArray[0]?=some (.int .i64 y.1):=rfl
   rw[hy] at hc0
   have em:=Pk (i+1) (L.root.panes L.R).length ((i:Int)+1) (by omega)
   simp -dsimp (disch:=first|omega|(simp only[go_sem,seval];try omega))only[go_sem,seval,em,hc0]
   refine hK _ _ ⟨?_,hc1.trans0 hcj⟩
   have hfi:L.root.ids.findIdx? (· == id)=some i:=by
    rw[List.findIdx?_eq_some_iff_getElem]
    obtain⟨hlt,hv⟩:=List.getElem?_eq_some_iff.1 hidi
    refine⟨hlt,by simp [hv,g2],fun j hj=>?_⟩
    have:=hne j hj
    rw[List.getElem?_eq_getElem (by omega)] at this
    simpa using this
   unfold Dt
   rw[hfi]
   dsimp only
   rw[List.getD_eq_getElem?_getD,←hpl,hidk]
   rfl
  ·have e1:(i:Int)+1=((i+1:Nat):Int):=by omega
   simp -dsimp (disch:=first|omega|(simp only[go_sem,seval];try omega))only[go_sem,seval,e1]
   refine hn (i+1) _ ⟨by omega,hcj,fun j hj=>?_⟩ (by omega)
   rcases Nat.lt_or_ge j i with h1|h1
   ·exact hne j h1
   ·have:j=i:=by omega
    subst this
    rw[hidi]
    simpa using g2
 ·have hil:i=(L.root.panes L.R).length:=by omega
  refine hK _ _ ⟨?_,hc1.trans0 hc⟩
  have hfi:L.root.ids.findIdx? (· == id)=none:=by
   rw[List.findIdx?_eq_none_iff]
   intro x hx
   obtain⟨j,hj,e⟩:=List.mem_iff_getElem.1 hx
   have:=hne j (by omega)
   rw[List.getElem?_eq_getElem hj,e] at this
   simpa using this
  unfold Dt
  rw[hfi]
def Ck (x:Mt × Rc):List Value:=.pointer (some ⟨x.1.blk,0,none⟩)::x.2.cells
theorem DQ (x:Mt × Rc):(Ck x).length=5:=rfl
theorem WJ (x:Mt × Rc):AO (Ck x)=true:=rfl
theorem Ju {t:Mt}:∀{w:World} {R:Rc} (id:Int),Aq w t→t.ok→R.ok→t.fits R=true→t.ids.length≤100→Calls Tryz.prog 215 #[.pointer (some ⟨t.blk,0,none⟩),R.val,.int .i64 id] w (Ac fun v w'=>Ox w.heap.size w' 290 5 Ck v (t.way id R)∧(t.way id R=[]→v=.slice none 0 0)∧Chg [] w w'):=by
 induction t with
 | pane b i =>
  intro w R id h hk hR hf hl
  have hp:=CY h
  simp only[Mt.blk,Mt.isPane] at hp ⊢
  apply Oi
  intro K hK
  unfold HA
  simp -dsimp (disch:=first|omega|(simp only[go_sem,seval];try omega))only[go_sem,seval,Rc.val]
  refine OpX.gen fun w0 hw0=>?_
  have hc0:Chg [] w w0:=by rw[hw0];(repeat (first|exact Chg.refl _ _|apply Chg.drew|apply Chg.alloc|(refine Chg.set ?_ _ _ (by first|(left;simp;done)|(right;omega)))))
  have hz0:w0.heap.size=w.heap.size+2:=by rw[hw0];simp -dsimp (disch:=first|omega|(simp only[go_sem,seval];try omega))only[go_sem,seval]
  have a7:w0.heap[w.heap.size+1]?=some (.cells #[.pointer (some ⟨b,0,none⟩),.int .i64 R.x,.int .i64 R.y,.int .i64 R.w,.int .i64 R.h] 290):=by rw[hw0];simp -dsimp (disch:=first|omega|(simp only[go_sem,seval];try omega))only[go_sem,seval]
  clear hw0
  have h0:=h.chg0 hc0
  have hp:=CY h0
  simp only[Mt.blk,Mt.isPane,Aq] at hp h0
  refine OpX.call Df rfl (Calls.ret (hp) ?_)
  rintro v w1 ⟨rfl,rfl⟩
  simp -dsimp (disch:=first|omega|(simp only[go_sem,seval];try omega))only[go_sem,seval,h0]
  refine BrW.dec (fun g=>?_) (fun g=>?_)
  ·have e:(Mt.pane b i).way id R=[(.pane b i,R)]:=by simp [Mt.way,g]
   simp -dsimp (disch:=first|omega|(simp only[go_sem,seval];try omega))only[go_sem,seval,a7]
   refine hK _ _ ⟨?_,fun h=>by rw[e] at h;simp at h,by(repeat (first|with_reducible exact hc0|with_reducible exact Chg.refl _ _|(with_reducible refine Chg.set ?_ _ _ (by first|(left;simp;done)|(right;omega)))|with_reducible apply Chg.drew|with_reducible apply Chg.alloc))⟩
   rw[e]
   exact Ox.built (c:=Ck (.pane b i,R)) (by simp only[Ck,Rc.cells,Mt.blk];simp -dsimp (disch:=first|omega|(simp only[go_sem,seval];try omega))only[go_sem,seval]) DQ (by omega) rfl rfl (by omega) rfl
  ·have e:(Mt.pane b i).way id R=[]:=by simp [Mt.way,g]
   refine hK _ _ ⟨?_,fun _=>rfl,hc0⟩
   rw[e]
   exact Ox.nil _ _ _ _ _
 | split b ac p q l r ihl ihr =>
  intro w R id h hk hR hf hl
  obtain⟨k1,k2,k3,k4,k5,k6⟩:=hk
  obtain⟨h3',hfl,hfr⟩:=Mt.fits_split hf
  obtain⟨s0,s1⟩:=Dg (p:=p) (q:=q) h3'
  obtain⟨f1,-⟩:=GP hR s0 s1
  obtain⟨e1,-⟩:=FV hR s0 s1
  obtain⟨g0,g1,g2⟩:=h
  have hl0:=Aa g0
  simp only[Mt.ids,List.length_append] at hl
  simp only[Mt.blk]
  apply Oi
  intro K hK
  unfold HA
  simp -dsimp (disch:=first|omega|(simp only[go_sem,seval];try omega))only[go_sem,seval,Rc.val]
  refine OpX.gen fun w0 hw0=>?_
  have hc0:Chg [] w w0:=by rw[hw0];(repeat (first|exact Chg.refl _ _|apply Chg.drew|apply Chg.alloc|(refine Chg.set ?_ _ _ (by first|(left;simp;done)|(right;omega)))))
  have hz0:w0.heap.size=w.heap.size+2:=by rw[hw0];simp -dsimp (disch:=first|omega|(simp only[go_sem,seval];try omega))only[go_sem,seval]
  have a4:w0.heap[w.heap.size]?=some (.cells #[.int .i64 R.x,.int .i64 R.y,.int .i64 R.w,.int .i64 R.h] 49):=by rw[hw0];simp -dsimp (disch:=first|omega|(simp only[go_sem,seval];try omega))only[go_sem,seval]
  have a7:w0.heap[w.heap.size+1]?=some (.cells #[.pointer (some ⟨b,0,none⟩),.int .i64 R.x,.int .i64 R.y,.int .i64 R.w,.int .i64 R.h] 290):=by rw[hw0];simp -dsimp (disch:=first|omega|(simp only[go_sem,seval];try omega))only[go_sem,seval]
  clear hw0
  have hp:=CY (t:=.split b ac p q l r) ⟨hc0.keep g0 (by simp),g1.chg0 hc0,g2.chg0 hc0⟩
  simp only[Mt.blk,Mt.isPane] at hp
  refine OpX.call Df rfl (Calls.ret (hp) ?_)
  rintro v w1 ⟨rfl,rfl⟩
  have h1:=hc0.keep g0 (by simp)
  simp -dsimp (disch:=first|omega|(simp only[go_sem,seval];try omega))only[go_sem,seval,a4]
  refine OpX.call FT rfl (Calls.ret (GQ h1 k1 k2 k3 k4 hR h3') ?_)
  rintro v w3 ⟨rfl,hc3⟩
  have hc13:=hc0.trans0 hc3
  have h3w:=hc13.keep g0 (by simp)
  have hl3:=Aa h3w
  have a73:=hc3.keep a7 (by simp)
  have hws:=Mt.way_split (id:=id) (b:=b) (ac:=ac) (p:=p) (q:=q) (l:=l) (r:=r) (R:=R)
  generalize hF:AU R ac (As (R.len ac) p q)=F at *
  generalize hS:AP R ac (As (R.len ac) p q)=S at *
  simp -dsimp (disch:=first|omega|(simp only[go_sem,seval];try omega))only[go_sem,seval,Rc.val,h3w]
  refine OpX.gen fun w4 hw4=>?_
  have hc4:Chg [] w3 w4:=by rw[hw4];(repeat (first|exact Chg.refl _ _|apply Chg.drew|apply Chg.alloc|(refine Chg.set ?_ _ _ (by first|(left;simp;done)|(right;omega)))))
  have hz4:w4.heap.size=w3.heap.size+3:=by rw[hw4];simp -dsimp (disch:=first|omega|(simp only[go_sem,seval];try omega))only[go_sem,seval]
  have a10:w4.heap[w3.heap.size+2]?=some (.cells #[.int .i64 S.x,.int .i64 S.y,.int .i64 S.w,.int .i64 S.h] 49):=by rw[hw4];simp -dsimp (disch:=first|omega|(simp only[go_sem,seval];try omega))only[go_sem,seval]
  clear hw4
  have hc04:=hc13.trans0 hc4
  have a74:=hc4.keep a73 (by simp)
  refine OpX.call Fl rfl (Calls.ret (ihl id (g1.chg0 hc04) k5 f1 hfl (by omega)) ?_)
  rintro v w5 ⟨ho5,hn5,hc5⟩
  have hc05:=hc04.trans0 hc5
  have a75:=hc5.keep a74 (by simp)
  have a105:=hc5.keep a10 (by simp)
  have h5:=hc05.keep g0 (by simp)
  refine Join1.cut (fun v' w'=>∃V,Ox w.heap.size w' 290 5 Ck v' V∧(V=[]→v'=.slice none 0 0)∧Chg [] w w'∧w'.heap[w.heap.size+1]?=some (.cells #[.pointer (some ⟨b,0,none⟩),.int .i64 R.x,.int .i64 R.y,.int .i64 R.w,.int .i64 R.h] 290) ∧
   V.length≤100∧(Mt.split b ac p q l r).way id R=(if V.isEmpty then[] else(Mt.split b ac p q l r,R)::V)) ?_ ?_
  ·have hwl:=Mt.way_len (id:=id) (t:=l) (R:=F)
   have hwr:=Mt.way_len (id:=id) (t:=r) (R:=S)
   obtain⟨a,cap,rfl,-,hsx,-,hne⟩:=ho5.form
   by_cases hL:l.way id F=[]
   ·have:=hn5 hL
    rw[Value.slice.injEq] at this
    obtain⟨rfl,h9,rfl⟩:=this
    rw[h9]
    simp -dsimp (disch:=first|omega|(simp only[go_sem,seval];try omega))only[go_sem,seval,h5,a105]
    refine OpX.call Fl rfl (Calls.ret (ihr id (g2.chg0 hc05.drew) k6 e1 hfr (by omega)) ?_)
    rintro v w6 ⟨ho6,hn6,hc6⟩
    refine⟨_,ho6.base_le hc05.size,hn6,hc05.trans0 hc6.low_drew,hc6.low_drew.keep a75 (by simp),by omega,?_⟩
    rcases hws with ⟨e,e2⟩|⟨e,e2,e3⟩|⟨e,e2,e3⟩
    ·exact absurd hL e2
    ·rw[e2,if_neg (by simpa using e3)]
    ·rw[e3,e2];rfl
   ·obtain⟨gb,rfl,-,-⟩:=hne hL
    simp -dsimp (disch:=first|omega|(simp only[go_sem,seval];try omega))only[go_sem,seval]
    refine⟨_,ho5.base_le hc04.size,fun h=>absurd h hL,hc05,a75,by omega,?_⟩
    rcases hws with ⟨e,e2⟩|⟨e,e2,e3⟩|⟨e,e2,e3⟩
    ·rw[e,if_neg (by simpa using e2)]
    ·exact absurd e hL
    ·exact absurd e hL
  ·rintro v w6 ⟨V,ho6,hn6,hc6,a76,hVl,hway⟩
   obtain⟨a,cap,rfl,-,hsx,-,hne⟩:=ho6.form
   by_cases hV:V=[]
   ·subst hV
    have:=hn6 rfl
    rw[Value.slice.injEq] at this
    obtain⟨rfl,-,rfl⟩:=this
    simp -dsimp (disch:=first|omega|(simp only[go_sem,seval];try omega))only[go_sem,seval]
    refine hK _ _ ⟨?_,fun _=>rfl,hc6⟩
    rw[hway]
    exact Ox.nil _ _ _ _ _
   ·obtain⟨gb,rfl,-,-⟩:=hne hV
    simp -dsimp (disch:=first|omega|(simp only[go_sem,seval];try omega))only[go_sem,seval,a76]
    refine OpX.gen fun w7 hw7=>?_
    have hc7:Chg [] w6 w7:=by rw[hw7];(repeat (first|exact Chg.refl _ _|apply Chg.drew|apply Chg.alloc|(refine Chg.set ?_ _ _ (by first|(left;simp;done)|(right;omega)))))
    have ho7:Ox w.heap.size w7 290 5 Ck (.slice (some ⟨w6.heap.size,0,none⟩) 1 1) [(Mt.split b ac p q l r,R)]:=Ox.built (c:=Ck (.split b ac p q l r,R)) (by rw[hw7];simp only[Ck,Rc.cells,Mt.blk];simp -dsimp (disch:=first|omega|(simp only[go_sem,seval];try omega))only[go_sem,seval]) DQ hc6.size rfl rfl (by omega) rfl
    clear hw7
    refine Bz VA DQ WJ ho7 (hsx.chg0 hc7) rfl (by rw[List.length_singleton];omega) (by omega) (Nat.le_trans hc6.size hc7.size) ?_
    intro v' w8 ho8 hc8 hown8
    refine hK _ _ ⟨?_,fun h=>?_,(hc6.trans0 hc7).trans hc8 (fun x hx=>.inr (ho7.own_ge x hx))⟩
    ·rw[hway,if_neg (by simpa using hV)]
     exact ho8
    ·rw[hway,if_neg (by simpa using hV)] at h
     simp at h
end
set_option maxRecDepth 100000
def JA (p0 p1:Value) (K:Value→World→Prop):World→Prop :=
 xO .eql 144 p0 (.pointer none) fun t8 =>
 xW t8
 (K (.tuple #[])) <|
 xU p1 160 fun t10 =>
 Loop1 (.int .i64 0) fun t11 next1 =>
 xO .lss 3 t11 t10 fun t12 =>
 xW t12
 (xI 160 p1 t11 fun t13 =>
 xL 9 t13 fun t14 =>
 Loop1 t14 fun t5 next2 =>
 xU t5 9 fun t16 =>
 xO .gtr 3 t16 (.int .i64 0) fun t17 =>
 xW t17
 (xU t5 9 fun t19 =>
 OpX Tryz.prog (.call { callee:=.builtin .min,args:=#[.const t19,.const (.int .i64 4096)],argTypes:=#[3,3] }) 3 fun t20 =>
 Ai <|
 xP (.nilCheck (.const p0)) 0 fun t22 =>
 qF 220 t22 0 fun t23 =>
 qL 213 t23 fun t24 =>
 xP (.nilCheck (.const p0)) 0 fun t26 =>
 qF 220 t26 2 fun t27 =>
 xP (.nilCheck (.const p0)) 0 fun t29 =>
 qF 220 t29 1 fun t30 =>
 xP (.slice 9 (.const t5) none (some (.const t20)) none) 9 fun t33 =>
 xC 123 [.const t30,.const t33] [215,9] 120 fun t34 =>
 xT (qZ 213 t23 t24) <|
 xC 122 [.const t27,.const t34] [217,120] 118 fun t35 =>
 xT (qZ 213 t23 t24) <|
 xC 121 [.const t24,.const t35] [213,118] 0 fun _ =>
 OpX Tryz.prog (.slice 9 (.const t5) (some (.const t20)) none none) 9 fun t39 =>
 next2 t39) <|
 xO .add 3 t11 (.int .i64 1) fun t40 =>
 next1 t40) <|
 Ai <|
 xP (.nilCheck (.const p0)) 0 fun t42 =>
 qF 220 t42 3 fun t43 =>
 qL 218 t43 fun t44 =>
 xP (.nilCheck (.const p0)) 0 fun t46 =>
 qF 220 t46 0 fun t47 =>
 qL 213 t47 fun t48 =>
 xC 125 [.const t48] [213] 128 fun t49 =>
 xT (qZ 218 t43 t44) <|
 xC 124 [.const t44,.const t49] [218,128] 0 fun _ =>
 K (.tuple #[])
theorem Zv (p0 p1:Value):Lk 63 #[p0,p1] (JA p0 p1):=lk [p0,p1] [(10,[11]),(22,[5])] Tryz.func63
theorem aB:Ad Tryz.prog 63:=bd Tryz.func63
def Mm (p0 p1:Value) (K:Value→World→Prop):World→Prop :=
 xA 38 fun t4 =>
 xO .eql 144 p0 (.pointer none) fun t6 =>
 xW t6
 (OpX Tryz.prog (.build 38 #[]) 38 fun t7 =>
 xS 38 t4 t7 <|
 xD 38 t4 fun t4_1 =>
 K t4_1) <|
 Ai <|
 xP (.nilCheck (.const p0)) 0 fun t9 =>
 qF 220 t9 3 fun t10 =>
 qL 218 t10 fun t11 =>
 xC 135 [.const p0] [144] 38 fun t13 =>
 xT (qZ 218 t10 t11) <|
 xC 134 [.const t11,.const t13,.const p1] [218,38,3] 38 fun t15 =>
 xS 38 t4 t15 <|
 xD 38 t4 fun t4_2 =>
 K t4_2
theorem Xb (p0 p1:Value):Lk 73 #[p0,p1] (Mm p0 p1):=lk [p0,p1] [] Tryz.func73
theorem YD:Ad Tryz.prog 73:=bd Tryz.func73
def JG (p0 p1 p2:Value) (K:Value→World→Prop):World→Prop :=
 xO .eql 144 p0 (.pointer none) fun t8 =>
 xW t8
 (K (.bool false)) <|
 OpX Tryz.prog (.nilCheck (.const p0)) 0 fun t10 =>
 xF 220 t10 0 fun t11 =>
 xL 213 t11 fun t12 =>
 xC 168 [.const t12,.const p1,.const p2] [213,3,3] 4 fun t15 =>
 K t15
theorem Uu (p0 p1 p2:Value):Lk 105 #[p0,p1,p2] (JG p0 p1 p2):=lk [p0,p1,p2] [] Tryz.func105
theorem VI:Ad Tryz.prog 105:=bd Tryz.func105
def JM (p0:Value) (K:Value→World→Prop):World→Prop :=
 xO .eql 144 p0 (.pointer none) fun t4 =>
 xW t4
 (K (.int .i64 0)) <|
 OpX Tryz.prog (.nilCheck (.const p0)) 0 fun t6 =>
 xF 220 t6 3 fun t7 =>
 xL 218 t7 fun t8 =>
 xC 185 [.const t8] [218] 3 fun t9 =>
 K t9
theorem US (p0:Value):Lk 126 #[p0] (JM p0):=lk [p0] [] Tryz.func126
theorem WB:Ad Tryz.prog 126:=bd Tryz.func126
def Nl (p0:Value) (K:Value→World→Prop):World→Prop :=
 xA 38 fun t2 =>
 xO .eql 144 p0 (.pointer none) fun t4 =>
 xW t4
 (OpX Tryz.prog (.build 38 #[]) 38 fun t5 =>
 xS 38 t2 t5 <|
 xD 38 t2 fun t2_1 =>
 K t2_1) <|
 OpX Tryz.prog (.nilCheck (.const p0)) 0 fun t7 =>
 xF 220 t7 0 fun t8 =>
 xL 213 t8 fun t9 =>
 xC 194 [.const t9] [213] 38 fun t10 =>
 xS 38 t2 t10 <|
 xD 38 t2 fun t2_2 =>
 K t2_2
theorem aQ (p0:Value):Lk 135 #[p0] (Nl p0):=lk [p0] [] Tryz.func135
theorem Xg:Ad Tryz.prog 135:=bd Tryz.func135
def L4 (p0 p1 p2:Value) (K:Value→World→Prop):World→Prop :=
 xC 169 [.const p0,.const p1] [3,3] 213 fun t10 =>
 xO .eql 213 t10 (.pointer none) fun t12 =>
 xW t12
 (K (.pointer none)) <|
 xC 170 [.const p2] [3] 218 fun t15 =>
 OpX Tryz.prog (.build 220 #[(0,.const t10),(3,.const t15)]) 220 fun t16 =>
 OpX Tryz.prog (.box 220 (.const t16)) 144 fun t17 =>
 K t17
theorem Yw (p0 p1 p2:Value):Lk 106 #[p0,p1,p2] (L4 p0 p1 p2):=lk [p0,p1,p2] [] Tryz.func106
theorem Z7:Ad Tryz.prog 106:=bd Tryz.func106
def ND (p0 p1:Value) (K:Value→World→Prop):World→Prop :=
 xU p1 120 fun t11 =>
 Loop2 (.slice none 0 0) (.int .i64 0) fun t5 t12 next1 =>
 xO .lss 3 t12 t11 fun t13 =>
 xW t13
 (Join1 (fun k2 =>
 xI 120 p1 t12 fun t14 =>
 xL 21 t14 fun t15 =>
 xC 181 [.const p0,.const t15] [251,21] 252 fun t19 =>
 xE t19 0 112 fun t20 =>
 xE t19 1 4 fun t21 =>
 xA 112 fun t8 =>
 xS 112 t8 t20 <|
 xW t21
 (xL 112 t8 fun t24 =>
 OpX Tryz.prog (.buildSlice 118 1 #[(0,.const t24)]) 118 fun t25 =>
 OpX Tryz.prog (.call { callee:=.builtin .append,args:=#[.const t5,.const t25],argTypes:=#[118,118] }) 118 fun t26 =>
 k2 t26) <|
 k2 t5) fun t5_1 =>
 xO .add 3 t12 (.int .i64 1) fun t27 =>
 next1 t5_1 t27) <|
 K t5
theorem V3 (p0 p1:Value):Lk 122 #[p0,p1] (ND p0 p1):=lk [p0,p1] [(8,[5,12]),(15,[5])] Tryz.func122
theorem V1:Ad Tryz.prog 122:=bd Tryz.func122
def K9 (p0 p1:Value) (K:Value→World→Prop):World→Prop :=
 xA 112 fun t4 =>
 xO .eql 251 p0 (.pointer none) fun t7 =>
 xW t7
 (OpX Tryz.prog (.build 112 #[]) 112 fun t8 =>
 xS 112 t4 t8 <|
 xD 112 t4 fun t4_1 =>
 K (.tuple #[t4_1,(.bool false)])) <|
 xO .eql 21 p1 (.int .i32 27) fun t11 =>
 xW t11
 (OpX Tryz.prog (.build 217 #[(0,.const (.int .i64 1))]) 217 fun t13 =>
 OpX Tryz.prog (.nilCheck (.const p0)) 0 fun t14 =>
 xS 217 t14 t13 <|
 OpX Tryz.prog (.build 112 #[]) 112 fun t15 =>
 xS 112 t4 t15 <|
 xD 112 t4 fun t4_2 =>
 K (.tuple #[t4_2,(.bool false)])) <|
 Join1 (fun k1 =>
 xO .eql 21 p1 (.int .i32 24) fun t18 =>
 xW t18
 (k1 (.bool true)) <|
 xO .eql 21 p1 (.int .i32 26) fun t21 =>
 k1 t21) fun t16 =>
 xW t16
 (xC 227 [.const p0] [251] 0 fun _ =>
 OpX Tryz.prog (.build 112 #[]) 112 fun t25 =>
 xS 112 t4 t25 <|
 xD 112 t4 fun t4_3 =>
 K (.tuple #[t4_3,(.bool false)])) <|
 Join1 (fun k2 =>
 xO .lss 21 p1 (.int .i32 0) fun t28 =>
 xW t28
 (k2 (.bool true)) <|
 xO .geq 21 p1 (.int .i32 127) fun t31 =>
 xW t31
 (xO .leq 21 p1 (.int .i32 159) fun t34 =>
 xW t34
 (k2 (.bool true)) <|
 xO .gtr 21 p1 (.int .i32 1114111) fun t39 =>
 k2 t39) <|
 xO .gtr 21 p1 (.int .i32 1114111) fun t39_1 =>
 k2 t39_1) fun t26 =>
 xW t26
 (OpX Tryz.prog (.build 112 #[]) 112 fun t41 =>
 xS 112 t4 t41 <|
 xD 112 t4 fun t4_4 =>
 K (.tuple #[t4_4,(.bool false)])) <|
 Join1 (fun k3 =>
 xO .lss 21 p1 (.int .i32 32) fun t44 =>
 xW t44
 (OpX Tryz.prog (.nilCheck (.const p0)) 0 fun t47 =>
 xF 217 t47 0 fun t48 =>
 xL 3 t48 fun t49 =>
 xO .eql 3 t49 (.int .i64 4) fun t50 =>
 k3 t50) <|
 k3 (.bool false)) fun t42 =>
 xW t42
 (Join0 (fun k4 =>
 xO .eql 21 p1 (.int .i32 7) fun t53 =>
 xW t53
 (xC 227 [.const p0] [251] 0 fun _ =>
 k4) <|
 k4) <|
 OpX Tryz.prog (.build 112 #[]) 112 fun t56 =>
 xS 112 t4 t56 <|
 xD 112 t4 fun t4_5 =>
 K (.tuple #[t4_5,(.bool false)])) <|
 xO .lss 21 p1 (.int .i32 32) fun t59 =>
 xW t59
 (OpX Tryz.prog (.build 112 #[(0,.const (.int .i64 2)),(1,.const p1)]) 112 fun t61 =>
 xS 112 t4 t61 <|
 xD 112 t4 fun t4_6 =>
 K (.tuple #[t4_6,(.bool true)])) <|
 Join0 (fun k5 =>
 OpX Tryz.prog (.nilCheck (.const p0)) 0 fun t63 =>
 xF 217 t63 0 fun t64 =>
 xL 3 t64 fun t65 =>
 xO .eql 3 t65 (.int .i64 0) fun t67 =>
 xW t67
 (OpX Tryz.prog (.build 112 #[(0,.const (.int .i64 1)),(1,.const p1)]) 112 fun t69 =>
 xS 112 t4 t69 <|
 xD 112 t4 fun t4_7 =>
 K (.tuple #[t4_7,(.bool true)])) <|
 xO .eql 3 t65 (.int .i64 1) fun t71 =>
 xW t71
 (xC 228 [.const p0,.const p1] [251,21] 252 fun t74 =>
 xE t74 0 112 fun t75 =>
 xE t74 1 4 fun t76 =>
 xS 112 t4 t75 <|
 xD 112 t4 fun t4_8 =>
 K (.tuple #[t4_8,t76])) <|
 xO .eql 3 t65 (.int .i64 2) fun t78 =>
 xW t78
 (xC 229 [.const p0,.const p1] [251,21] 252 fun t81 =>
 xE t81 0 112 fun t82 =>
 xE t81 1 4 fun t83 =>
 xS 112 t4 t82 <|
 xD 112 t4 fun t4_9 =>
 K (.tuple #[t4_9,t83])) <|
 xO .eql 3 t65 (.int .i64 3) fun t85 =>
 xW t85
 (Join1 (fun k6 =>
 xO .geq 21 p1 (.int .i32 64) fun t87 =>
 xW t87
 (xO .leq 21 p1 (.int .i32 126) fun t90 =>
 k6 t90) <|
 k6 (.bool false)) fun t91 =>
 xW t91
 (xC 227 [.const p0] [251] 0 fun _ =>
 k5) <|
 k5) <|
 k5) <|
 OpX Tryz.prog (.build 112 #[]) 112 fun t94 =>
 xS 112 t4 t94 <|
 xD 112 t4 fun t4_10 =>
 K (.tuple #[t4_10,(.bool false)])
theorem QF (p0 p1:Value):Lk 181 #[p0,p1] (K9 p0 p1):=lk [p0,p1] [(21,[16]),(29,[26]),(35,[42]),(37,[]),(53,[]),(79,[91])] Tryz.func181
theorem Wq:Ad Tryz.prog 181:=bd Tryz.func181
def NH (p0:Value) (K:Value→World→Prop):World→Prop :=
 xO .neq 251 p0 (.pointer none) fun t3 =>
 xW t3
 (OpX Tryz.prog (.build 217 #[]) 217 fun t5 =>
 OpX Tryz.prog (.nilCheck (.const p0)) 0 fun t6 =>
 xS 217 t6 t5 <|
 K (.tuple #[])) <|
 K (.tuple #[])
theorem UD (p0:Value):Lk 227 #[p0] (NH p0):=lk [p0] [] Tryz.func227
theorem Ee:Ad Tryz.prog 227:=bd Tryz.func227
def N6 (p0 p1:Value) (K:Value→World→Prop):World→Prop :=
 xA 112 fun t4 =>
 OpX Tryz.prog (.nilCheck (.const p0)) 0 fun t8 =>
 xF 217 t8 2 fun t9 =>
 xL 5 t9 fun t10 =>
 Join0 (fun k1 =>
 Join1 (fun k2 =>
 xO .leq 21 p1 (.int .i32 47) fun t15 =>
 xW t15
 (xO .eql 5 t10 (.int .u8 0) fun t18 =>
 k2 t18) <|
 k2 (.bool false)) fun t13 =>
 xW t13
 (OpX Tryz.prog (.convert 21 5 (.const p1)) 5 fun t22 =>
 OpX Tryz.prog (.nilCheck (.const p0)) 0 fun t23 =>
 xF 217 t23 2 fun t24 =>
 xS 5 t24 t22 <|
 k1) <|
 xO .leq 21 p1 (.int .i32 47) fun t27 =>
 xW t27
 (OpX Tryz.prog (.nilCheck (.const p0)) 0 fun t29 =>
 xF 217 t29 2 fun t30 =>
 xS 5 t30 (.int .u8 255) <|
 k1) <|
 Join1 (fun k3 =>
 xO .eql 21 p1 (.int .i32 91) fun t33 =>
 xW t33
 (xO .eql 5 t10 (.int .u8 0) fun t36 =>
 k3 t36) <|
 k3 (.bool false)) fun t31 =>
 xW t31
 (OpX Tryz.prog (.build 217 #[(0,.const (.int .i64 2))]) 217 fun t39 =>
 OpX Tryz.prog (.nilCheck (.const p0)) 0 fun t40 =>
 xS 217 t40 t39 <|
 k1) <|
 Join1 (fun k4 =>
 xO .eql 21 p1 (.int .i32 80) fun t43 =>
 xW t43
 (xO .eql 5 t10 (.int .u8 0) fun t58 =>
 k4 t58) <|
 xO .eql 21 p1 (.int .i32 88) fun t46 =>
 xW t46
 (xO .eql 5 t10 (.int .u8 0) fun t58_1 =>
 k4 t58_1) <|
 xO .geq 21 p1 (.int .i32 93) fun t50 =>
 xW t50
 (xO .leq 21 p1 (.int .i32 95) fun t53 =>
 xW t53
 (xO .eql 5 t10 (.int .u8 0) fun t58_2 =>
 k4 t58_2) <|
 k4 (.bool false)) <|
 k4 (.bool false)) fun t41 =>
 xW t41
 (OpX Tryz.prog (.build 217 #[(0,.const (.int .i64 4))]) 217 fun t61 =>
 OpX Tryz.prog (.nilCheck (.const p0)) 0 fun t62 =>
 xS 217 t62 t61 <|
 k1) <|
 Join1 (fun k5 =>
 xO .leq 21 p1 (.int .i32 126) fun t65 =>
 xW t65
 (xO .neq 5 t10 (.int .u8 255) fun t68 =>
 k5 t68) <|
 k5 (.bool false)) fun t63 =>
 xW t63
 (xC 227 [.const p0] [251] 0 fun _ =>
 OpX Tryz.prog (.build 112 #[(0,.const (.int .i64 3)),(1,.const p1),(3,.const t10)]) 112 fun t74 =>
 xS 112 t4 t74 <|
 xD 112 t4 fun t4_1 =>
 K (.tuple #[t4_1,(.bool true)])) <|
 xC 227 [.const p0] [251] 0 fun _ =>
 k1) <|
 OpX Tryz.prog (.build 112 #[]) 112 fun t75 =>
 xS 112 t4 t75 <|
 xD 112 t4 fun t4_2 =>
 K (.tuple #[t4_2,(.bool false)])
theorem Xl (p0 p1:Value):Lk 228 #[p0,p1] (N6 p0 p1):=lk [p0,p1] [(4,[]),(7,[13]),(15,[31]),(19,[41]),(23,[63])] Tryz.func228
theorem UN:Ad Tryz.prog 228:=bd Tryz.func228
def Kx (p0 p1:Value) (K:Value→World→Prop):World→Prop :=
 xA 112 fun t4 =>
 Join0 (fun k1 =>
 Join1 (fun k2 =>
 xO .geq 21 p1 (.int .i32 48) fun t12 =>
 xW t12
 (xO .leq 21 p1 (.int .i32 57) fun t15 =>
 xW t15
 (OpX Tryz.prog (.nilCheck (.const p0)) 0 fun t19 =>
 xF 217 t19 2 fun t20 =>
 xL 5 t20 fun t21 =>
 xO .eql 5 t21 (.int .u8 0) fun t22 =>
 k2 t22) <|
 k2 (.bool false)) <|
 k2 (.bool false)) fun t10 =>
 xW t10
 (OpX Tryz.prog (.nilCheck (.const p0)) 0 fun t26 =>
 xF 217 t26 3 fun t27 =>
 xL 3 t27 fun t28 =>
 OpX Tryz.prog (.call { callee:=.builtin .max,args:=#[.const t28,.const (.int .i64 1)],argTypes:=#[3,3] }) 3 fun t29 =>
 OpX Tryz.prog (.nilCheck (.const p0)) 0 fun t30 =>
 xF 217 t30 3 fun t31 =>
 xS 3 t31 t29 <|
 OpX Tryz.prog (.nilCheck (.const p0)) 0 fun t33 =>
 xF 217 t33 3 fun t34 =>
 xL 3 t34 fun t35 =>
 xO .leq 3 t35 (.int .i64 8) fun t36 =>
 xW t36
 (Ai <|
 xP (.nilCheck (.const p0)) 0 fun t39 =>
 qF 217 t39 3 fun t40 =>
 qL 3 t40 fun t41 =>
 qP .sub 3 t41 (.int .i64 1) fun t42 =>
 xP (.nilCheck (.const p0)) 0 fun t45 =>
 qF 217 t45 3 fun t46 =>
 qL 3 t46 fun t47 =>
 qP .sub 3 t47 (.int .i64 1) fun t48 =>
 xP (.nilCheck (.const p0)) 0 fun t49 =>
 qF 217 t49 4 fun t50 =>
 xP (.indexAddr 110 (.const t50) (.const t48)) 0 fun t51 =>
 qL 3 t51 fun t52 =>
 qP .mul 3 t52 (.int .i64 10) fun t53 =>
 qP .sub 21 p1 (.int .i32 48) fun t55 =>
 xP (.convert 21 3 (.const t55)) 3 fun t56 =>
 qP .add 3 t53 t56 fun t57 =>
 xP (.call { callee:=.builtin .min,args:=#[.const t57,.const (.int .i64 9999)],argTypes:=#[3,3] }) 3 fun t58 =>
 xP (.nilCheck (.const p0)) 0 fun t59 =>
 qF 217 t59 4 fun t60 =>
 xP (.indexAddr 110 (.const t60) (.const t42)) 0 fun t61 =>
 xS 3 t61 t58 <|
 k1) <|
 k1) <|
 Join1 (fun k3 =>
 xO .eql 21 p1 (.int .i32 58) fun t64 =>
 xW t64
 (OpX Tryz.prog (.nilCheck (.const p0)) 0 fun t71 =>
 xF 217 t71 2 fun t72 =>
 xL 5 t72 fun t73 =>
 xO .eql 5 t73 (.int .u8 0) fun t74 =>
 k3 t74) <|
 xO .eql 21 p1 (.int .i32 59) fun t67 =>
 xW t67
 (OpX Tryz.prog (.nilCheck (.const p0)) 0 fun t71_1 =>
 xF 217 t71_1 2 fun t72_1 =>
 xL 5 t72_1 fun t73_1 =>
 xO .eql 5 t73_1 (.int .u8 0) fun t74_1 =>
 k3 t74_1) <|
 k3 (.bool false)) fun t62 =>
 xW t62
 (OpX Tryz.prog (.nilCheck (.const p0)) 0 fun t78 =>
 xF 217 t78 3 fun t79 =>
 xL 3 t79 fun t80 =>
 OpX Tryz.prog (.call { callee:=.builtin .max,args:=#[.const t80,.const (.int .i64 1)],argTypes:=#[3,3] }) 3 fun t81 =>
 xO .add 3 t81 (.int .i64 1) fun t82 =>
 OpX Tryz.prog (.call { callee:=.builtin .min,args:=#[.const t82,.const (.int .i64 9)],argTypes:=#[3,3] }) 3 fun t83 =>
 OpX Tryz.prog (.nilCheck (.const p0)) 0 fun t84 =>
 xF 217 t84 3 fun t85 =>
 xS 3 t85 t83 <|
 k1) <|
 Join1 (fun k4 =>
 xO .geq 21 p1 (.int .i32 60) fun t88 =>
 xW t88
 (xO .leq 21 p1 (.int .i32 63) fun t91 =>
 xW t91
 (OpX Tryz.prog (.nilCheck (.const p0)) 0 fun t95 =>
 xF 217 t95 1 fun t96 =>
 xL 5 t96 fun t97 =>
 xO .eql 5 t97 (.int .u8 0) fun t98 =>
 xW t98
 (OpX Tryz.prog (.nilCheck (.const p0)) 0 fun t102 =>
 xF 217 t102 2 fun t103 =>
 xL 5 t103 fun t104 =>
 xO .eql 5 t104 (.int .u8 0) fun t105 =>
 xW t105
 (OpX Tryz.prog (.nilCheck (.const p0)) 0 fun t109 =>
 xF 217 t109 3 fun t110 =>
 xL 3 t110 fun t111 =>
 xO .eql 3 t111 (.int .i64 0) fun t112 =>
 k4 t112) <|
 k4 (.bool false)) <|
 k4 (.bool false)) <|
 k4 (.bool false)) <|
 k4 (.bool false)) fun t86 =>
 xW t86
 (OpX Tryz.prog (.convert 21 5 (.const p1)) 5 fun t116 =>
 OpX Tryz.prog (.nilCheck (.const p0)) 0 fun t117 =>
 xF 217 t117 1 fun t118 =>
 xS 5 t118 t116 <|
 k1) <|
 Join1 (fun k5 =>
 xO .leq 21 p1 (.int .i32 47) fun t121 =>
 xW t121
 (OpX Tryz.prog (.nilCheck (.const p0)) 0 fun t124 =>
 xF 217 t124 2 fun t125 =>
 xL 5 t125 fun t126 =>
 xO .eql 5 t126 (.int .u8 0) fun t127 =>
 k5 t127) <|
 k5 (.bool false)) fun t119 =>
 xW t119
 (OpX Tryz.prog (.convert 21 5 (.const p1)) 5 fun t131 =>
 OpX Tryz.prog (.nilCheck (.const p0)) 0 fun t132 =>
 xF 217 t132 2 fun t133 =>
 xS 5 t133 t131 <|
 k1) <|
 Join1 (fun k6 =>
 xO .geq 21 p1 (.int .i32 64) fun t136 =>
 xW t136
 (xO .leq 21 p1 (.int .i32 126) fun t139 =>
 k6 t139) <|
 k6 (.bool false)) fun t134 =>
 xW t134
 (Ai <|
 Join1 (fun k7 =>
 xP (.nilCheck (.const p0)) 0 fun t143 =>
 qF 217 t143 1 fun t144 =>
 qL 5 t144 fun t145 =>
 xP (.nilCheck (.const p0)) 0 fun t147 =>
 qF 217 t147 2 fun t148 =>
 qL 5 t148 fun t149 =>
 xP (.nilCheck (.const p0)) 0 fun t151 =>
 qF 217 t151 3 fun t152 =>
 qL 3 t152 fun t153 =>
 xP (.call { callee:=.builtin .min,args:=#[.const t153,.const (.int .i64 8)],argTypes:=#[3,3] }) 3 fun t154 =>
 xP (.nilCheck (.const p0)) 0 fun t156 =>
 qF 217 t156 4 fun t157 =>
 qL 110 t157 fun t158 =>
 xT (OpX Tryz.prog (.build 112 #[(0,.const (.int .i64 4)),(1,.const p1),(2,.const t145),(3,.const t149),(4,.const t154),(5,.const t158)]) 112 fun t159 =>
 xA 112 fun t6 =>
 xS 112 t6 t159 <|
 k7 t6) <|
 xA 112 fun t6_1 =>
 xT (qZ 110 t157 t158) <|
 xT (qZ 3 t152 t153) <|
 xT (qZ 5 t148 t149) <|
 xT (qZ 5 t144 t145) <|
 OpX Tryz.prog (.build 112 #[(0,.const (.int .i64 4)),(1,.const p1),(2,.const t145),(3,.const t149),(4,.const t154),(5,.const t158)]) 112 fun t159_1 =>
 xS 112 t6_1 t159_1 <|
 k7 t6_1) fun t6_2 =>
 xC 227 [.const p0] [251] 0 fun _ =>
 xL 112 t6_2 fun t162 =>
 xS 112 t4 t162 <|
 xD 112 t4 fun t4_1 =>
 K (.tuple #[t4_1,(.bool true)])) <|
 OpX Tryz.prog (.build 217 #[(0,.const (.int .i64 3))]) 217 fun t8 =>
 OpX Tryz.prog (.nilCheck (.const p0)) 0 fun t9 =>
 xS 217 t9 t8 <|
 k1) <|
 OpX Tryz.prog (.build 112 #[]) 112 fun t163 =>
 xS 112 t4 t163 <|
 xD 112 t4 fun t4_2 =>
 K (.tuple #[t4_2,(.bool false)])
theorem Zc (p0 p1:Value):Lk 229 #[p0,p1] (Kx p0 p1):=lk [p0,p1] [(2,[]),(5,[10]),(15,[62]),(19,[86]),(23,[119]),(27,[134]),(30,[6])] Tryz.func229
theorem VT:Ad Tryz.prog 229:=bd Tryz.func229
def Lc (p0:Value) (K:Value→World→Prop):World→Prop :=
 xC 231 [.const p0] [9] 9 fun t4 =>
 K t4
theorem Td (p0:Value):Lk 183 #[p0] (Lc p0):=lk [p0] [] Tryz.func183
theorem Ub:Ad Tryz.prog 183:=bd Tryz.func183
theorem YU:Ad Tryz.prog 231:=bd Tryz.func231
end Go.Proofs.YtelplojmbjnplaaGreat
namespace Lyc
open Go
@[go_sem] theorem cG (p:Prop) [Decidable p]:(!decide p)=decide (¬p):=by by_cases h:p<;>simp [h]
attribute [go_sem] Decidable.not_not
structure Cel where
 r:Int
 fg:BitVec 8
 bg:BitVec 8
 a:BitVec 8
deriving DecidableEq
@[go_sem] def Cel.cells (c:Cel):List Value:=[.int .i32 c.r,.int .u8 c.fg.toNat,.int .u8 c.bg.toNat,.int .u8 c.a.toNat]
@[go_sem] def Cel.val (c:Cel):Value:=.agg #[.int .i32 c.r,.int .u8 c.fg.toNat,.int .u8 c.bg.toNat,.int .u8 c.a.toNat]
theorem Cel.len (c:Cel):c.cells.length=4:=rfl
theorem Cel.ok (c:Cel):AO c.cells=true:=rfl
def BK:List (Int × Int × Int):=[(0x7f,0x9f,0),(0x300,0x36f,0),(0x200b,0x200f,0),(0xd800,0xdfff,0),(0xfe00,0xfe0f,0),(0x1100,0x115f,2),(0x2e80,0x303e,2),(0x3041,0xa4cf,2),(0xac00,0xd7a3,2),(0xf900,0xfaff,2),(0xfe30,0xfe6f,2),(0xff01,0xff60,2),(0xffe0,0xffe6,2),(0x1f300,0x1f64f,2),(0x1f900,0x1f9ff,2),(0x20000,0x3fffd,2)]
def Cr:List (Int × Int × Int)→Int→Int
 | [],_=>1
 | s::l,r=>if s.1≤r∧r≤s.2.1 then s.2.2 else Cr l r
def Be (r:Int):Int:=if r<32∨1114111<r then 0 else if r<127 then 1 else Cr BK r
def Cel.wide (c:Cel):Bool:=decide (¬c.a &&& 64#8=0#8)
def Cel.tail (c:Cel):Bool:=decide (¬c.a &&& 128#8=0#8)
def Cel.plain (c:Cel):Bool:=decide (c.a &&& 192#8=0#8)
def Cel.check (c:Cel):Bool:=if c.tail then !c.wide && decide (c.r=0) else if c.wide then decide (Be c.r=2) else decide (Be c.r=1)
def Cel.tailOf (c:Cel):Cel:=⟨0,c.fg,c.bg,(c.a &&& ~~~64#8) ||| 128#8⟩
def Cel.single (c:Cel):Bool:=c.plain && c.check
def BS (c d:Cel):Bool:=c.wide && c.check && decide (d=c.tailOf)
def Bp (l:List Cel) (x:Nat):Bool:=match l[x]?,l[x+1]? with|some c,some d=>BS c d|_,_=>false
def Cel.blank:Cel:=⟨32,0,0,0⟩
def Cel.fix (c:Cel):Cel:=if c.single then c else⟨32,c.fg,c.bg,0⟩
def Cw (r:Int) (p:Cel):List Cel :=
 if Be r=1 then[⟨r,p.fg,p.bg,p.a &&& 63#8⟩] else if Be r=2 then[⟨r,p.fg,p.bg,(p.a &&& 63#8) ||| 64#8⟩,⟨0,p.fg,p.bg,(p.a &&& 63#8) ||| 128#8⟩] else[]
def right:List Cel→Bool
 | []=>true
 | [c]=>c.single
 | c::d::l=>if BS c d then right l else c.single && right (d::l)
def AK:List Cel→List Cel
 | []=>[]
 | [c]=>[c.fix]
 | c::d::l=>if BS c d then c::d::AK l else c.fix::AK (d::l)
theorem Dw:∀l:List Cel,(AK l).length=l.length
 | []=>rfl
 | [c]=>rfl
 | c::d::l=>by
  unfold AK
  split
  ·simp [Dw l]
  ·simp [Dw (d::l)]
theorem JS (x y:BitVec 8):IntKind.u8.wrap (((x &&& y).toNat:Nat):Int)=((x &&& y).toNat:Int):=Io _ (by omega) (by have:=(x &&& y).isLt;omega)
theorem Hn (x:BitVec 8) (k:Int):AQ .and .u8 (x.toNat:Int) k=((x &&& BitVec.ofInt 8 k).toNat:Int):=by
 show IntKind.u8.wrap ((BitVec.ofInt 8 (x.toNat:Int) &&& BitVec.ofInt 8 k).toNat:Int)=_
 rw[show BitVec.ofInt 8 (x.toNat:Int)=x by simp]
 exact JS _ _
theorem H8 (x:BitVec 8) (k:Int):AQ .or .u8 (x.toNat:Int) k=((x ||| BitVec.ofInt 8 k).toNat:Int):=by
 show IntKind.u8.wrap ((BitVec.ofInt 8 (x.toNat:Int) ||| BitVec.ofInt 8 k).toNat:Int)=_
 rw[show BitVec.ofInt 8 (x.toNat:Int)=x by simp]
 exact Io _ (by omega) (by have:=(x ||| BitVec.ofInt 8 k).isLt;omega)
theorem GA (x:BitVec 8) (k:Int):AQ .andNot .u8 (x.toNat:Int) k=((x &&& ~~~BitVec.ofInt 8 k).toNat:Int):=by
 show IntKind.u8.wrap ((BitVec.ofInt 8 (x.toNat:Int) &&& ~~~BitVec.ofInt 8 k).toNat:Int)=_
 rw[show BitVec.ofInt 8 (x.toNat:Int)=x by simp]
 exact JS _ _
theorem bv0 (x:BitVec 8):((x.toNat:Int)=0)=(x=0#8):=by
 apply propext
 constructor
 ·intro h;apply BitVec.eq_of_toNat_eq;simp;omega
 ·rintro rfl;rfl
@[go_sem] theorem cl (x:BitVec 8):(AQ .and .u8 (x.toNat:Int) 64=0)=(x &&& 64#8=0#8):=by rw[Hn,bv0];rfl
@[go_sem] theorem gS (x:BitVec 8):(AQ .and .u8 (x.toNat:Int) 128=0)=(x &&& 128#8=0#8):=by rw[Hn,bv0];rfl
@[go_sem] theorem eU (x:BitVec 8):(AQ .and .u8 (x.toNat:Int) 192=0)=(x &&& 192#8=0#8):=by rw[Hn,bv0];rfl
@[go_sem] theorem dZ (x:BitVec 8):AQ .andNot .u8 (x.toNat:Int) 64=((x &&& ~~~64#8).toNat:Int):=GA x 64
@[go_sem] theorem iz (x:BitVec 8):AQ .andNot .u8 (x.toNat:Int) 192=((x &&& ~~~192#8).toNat:Int):=GA x 192
@[go_sem] theorem hJ (x:BitVec 8):AQ .or .u8 (x.toNat:Int) 128=((x ||| 128#8).toNat:Int):=H8 x 128
@[go_sem] theorem ik (x:BitVec 8):AQ .or .u8 (x.toNat:Int) 64=((x ||| 64#8).toNat:Int):=H8 x 64
theorem UX (x y:BitVec 8):((x.toNat:Int)=y.toNat)=(x=y):=propext ⟨fun h=>BitVec.eq_of_toNat_eq (by omega),fun h=>by rw[h]⟩
theorem ZL (c d:Cel):decide (c=d)=(decide (c.r=d.r) && (decide ((c.fg.toNat:Int)=d.fg.toNat) && (decide ((c.bg.toNat:Int)=d.bg.toNat) && (decide ((c.a.toNat:Int)=d.a.toNat) && true)))):=by
 obtain⟨r,f,b,a⟩:=c
 obtain⟨r',f',b',a'⟩:=d
 simp only[Cel.mk.injEq,UX,Bool.decide_and,Bool.and_true]
abbrev SxC (w:World) (e:Option TypeId) (a:Option Addr) (l:List Cel):Prop:=Sx w e Cel.cells a l
theorem SxC.cel {w:World} {e:Option TypeId} {a:Option Addr} {l:List Cel} (h:Sx w e Cel.cells a l) {i:Nat} {c:Cel} (hi:l[i]?=some c) :
  ∃b o,a=some ⟨b,o,none⟩∧b<w.heap.size∧AS w.heap[b]? (o+i*4) 4=some #[.int .i32 c.r,.int .u8 c.fg.toNat,.int .u8 c.bg.toNat,.int .u8 c.a.toNat] ∧
   Aw w.heap[b]? (o+i*4)=some (.int .i32 c.r)∧Aw w.heap[b]? (o+i*4+1)=some (.int .u8 c.fg.toNat)∧Aw w.heap[b]? (o+i*4+2)=some (.int .u8 c.bg.toNat)∧Aw w.heap[b]? (o+i*4+3)=some (.int .u8 c.a.toNat):=by
 obtain⟨b,o,h1,h2,h3⟩:=h.get (m:=4) Cel.len hi
 exact⟨b,o,h1,h2,h3,CG h3 0 (by omega),CG h3 1 (by omega),CG h3 2 (by omega),CG h3 3 (by omega)⟩
theorem XG {l:List Cel} {k:Nat} (hk:k<l.length):AK (l.drop k)=if Bp l k then(l.drop k).take 2++AK (l.drop (k+2)) else(l[k].fix::AK (l.drop (k+1))):=by
 have e1:l.drop k=l[k]::l.drop (k+1):=List.drop_eq_getElem_cons hk
 unfold Bp
 rw[List.getElem?_eq_getElem hk]
 by_cases h2:k+1<l.length
 ·have e2:l.drop (k+1)=l[k+1]::l.drop (k+2):=List.drop_eq_getElem_cons h2
  rw[List.getElem?_eq_getElem h2,e1,e2]
  simp only[AK]
  split<;>rfl
 ·rw[List.getElem?_eq_none (by omega),e1,List.drop_eq_nil_of_le (by omega)]
  simp [AK]
theorem T7 {l:List Cel} {k:Nat} (hk:k<l.length):right (l.drop k)=if Bp l k then right (l.drop (k+2)) else(l[k].single && right (l.drop (k+1))):=by
 have e1:l.drop k=l[k]::l.drop (k+1):=List.drop_eq_getElem_cons hk
 unfold Bp
 rw[List.getElem?_eq_getElem hk]
 by_cases h2:k+1<l.length
 ·have e2:l.drop (k+1)=l[k+1]::l.drop (k+2):=List.drop_eq_getElem_cons h2
  rw[List.getElem?_eq_getElem h2,e1,e2]
  simp only[right]
 ·rw[List.getElem?_eq_none (by omega),e1,List.drop_eq_nil_of_le (by omega)]
  simp [right]
theorem OY {l:List Cel} {k:Nat} (h:Bp l k=true):k+1<l.length:=by
 unfold Bp at h
 by_cases h2:k+1<l.length
 ·exact h2
 ·rw[List.getElem?_eq_none (l:=l) (i:=k+1) (by omega)] at h
  cases l[k]?<;>simp at h
def Cl (w h:Int):Bool:=decide (1≤w∧w≤200∧1≤h∧h≤60)
def AN (at' n size:Int):Int × Int :=
 if n≤0∨size≤at'∨(at'<0∧at'+n≤0) then(0,0) else if at'<0 then(0,min (at'+n) size) else(at',at'+min n (size-at'))
def Cel.usual (c:Cel):Bool:=c.check && c.plain
structure Gr where
 w:Nat
 h:Nat
 cs:List Cel
 deriving DecidableEq
def Gr.val (g:Gr) (a:Option Addr) (cap:Nat):Value:=.agg #[.int .i64 g.w,.int .i64 g.h,.slice a g.cs.length cap]
def Gr.row (g:Gr) (y:Nat):List Cel:=(g.cs.drop (y*g.w)).take g.w
structure Gr.ok (g:Gr):Prop where
 w0:0<g.w
 w1:g.w≤200
 h0:0<g.h
 h1:g.h≤60
 len:g.cs.length=g.w*g.h
theorem Gr.ok.le {g:Gr} (h:g.ok):g.cs.length≤12000:=by
 rw[h.len]
 have:=Nat.mul_le_mul h.w1 h.h1
 omega
theorem Gr.ok.row_lt {g:Gr} (h:g.ok) {y:Nat} (hy:y<g.h):y*g.w+g.w≤g.cs.length:=by
 rw[h.len,Nat.mul_comm g.w g.h]
 have:=Nat.mul_le_mul_right g.w (show y+1≤g.h by omega)
 rw[Nat.add_mul] at this
 omega
theorem Gr.ok.row_len {g:Gr} (h:g.ok) {y:Nat} (hy:y<g.h):(g.row y).length=g.w:=by
 have:=h.row_lt hy
 simp [Gr.row];omega
def Gr.right (g:Gr):Bool:=(List.range g.h).all fun y=>Lyc.right (g.row y)
theorem Gr.right_of {g:Gr} (h:∀y,y<g.h→Lyc.right (g.row y)=true):g.right=true:=by
 unfold Gr.right;rw[List.all_eq_true];intro y hy;exact h y (List.mem_range.1 hy)
theorem Gr.right_not {g:Gr} {y:Nat} (hy:y<g.h) (h:Lyc.right (g.row y)=false):g.right=false:=by
 unfold Gr.right;rw[List.all_eq_false];exact⟨y,List.mem_range.2 hy,by simp [h]⟩
theorem Gr.right.at {g:Gr} (h:g.right=true) {y:Nat} (hy:y<g.h):Lyc.right (g.row y)=true:=by
 unfold Gr.right at h;rw[List.all_eq_true] at h;exact h y (List.mem_range.2 hy)
theorem Gr.ok.fits {g:Gr} (h:g.ok):Cl g.w g.h=true:=by
 have:=h.w0;have:=h.w1;have:=h.h0;have:=h.h1
 unfold Cl;apply decide_eq_true;omega
theorem Gr.ok.ne {g:Gr} (h:g.ok):g.cs≠[]:=by
 intro hn
 have:=h.len;rw[hn] at this
 have h1:=h.w0;have h2:=h.h0
 have:=Nat.mul_pos h1 h2
 simp at *
 omega
variable {α:Type}
def Bi (R:Nat→List α):Nat→List α
 | 0=>[]
 | h+1=>Bi R h++R h
theorem Fc {R:Nat→List α} {w:Nat}:∀{h:Nat},(∀y,y<h→(R y).length=w)→(Bi R h).length=h*w
 | 0,_=>by simp [Bi]
 | h+1,hR=>by simp [Bi,Fc (h:=h) (fun y hy=>hR y (by omega)),hR h (by omega),Nat.add_mul]
theorem Em {R S:Nat→List α}:∀{h:Nat},(∀y,y<h→R y=S y)→Bi R h=Bi S h
 | 0,_=>rfl
 | h+1,hR=>by simp [Bi,Em (h:=h) (fun y hy=>hR y (by omega)),hR h (by omega)]
theorem HI (R:Nat→List α) (y:Nat):∀d:Nat,∃post,∀S:Nat→List α,(∀k,k≠y→S k=R k)→Bi S (y+1+d)=Bi R y++S y++post
 | 0=>⟨[],fun S hS=>by simp [Bi,Em (h:=y) (fun k hk=>hS k (by omega))]⟩
 | d+1=>by
  obtain⟨post,h⟩:=HI R y d
  refine⟨post++R (y+1+d),fun S hS=>?_⟩
  rw[←Nat.add_assoc]
  simp only[Bi]
  rw[h S hS,hS (y+1+d) (by omega)]
  simp
theorem Sp {R:Nat→List α} {w h:Nat} (hR:∀y,y<h→(R y).length=w) {y:Nat} (hy:y<h):((Bi R h).drop (y*w)).take w=R y:=by
 obtain⟨d,rfl⟩:∃d,h=y+1+d:=⟨h-(y+1),by omega⟩
 obtain⟨post,hp⟩:=HI R y d
 rw[hp R (fun _ _=>rfl)]
 have h1:=Fc (R:=R) (w:=w) (h:=y) (fun k hk=>hR k (by omega))
 rw[List.append_assoc,List.drop_append,h1]
 have h2:=hR y (by omega)
 simp [List.drop_eq_nil_of_le,h1,h2]
theorem NJ {w:Nat}:∀{h:Nat} (l:List α),l.length=h*w→Bi (fun y=>(l.drop (y*w)).take w) h=l
 | 0,l,hl=>by simp at hl;subst hl;rfl
 | h+1,l,hl=>by
  rw[Nat.add_mul] at hl
  have ih:=NJ (w:=w) (h:=h) (l.take (h*w)) (by simp;omega)
  have hc:Bi (fun y=>(l.drop (y*w)).take w) h=Bi (fun y=>((l.take (h*w)).drop (y*w)).take w) h:=by
   refine Em fun y hy=>?_
   have:=Nat.mul_le_mul_right w (show y+1≤h by omega)
   rw[Nat.add_mul] at this
   rw[List.drop_take,List.take_take,Nat.min_eq_left (by omega)]
  show Bi _ h++(l.drop (h*w)).take w=l
  rw[hc,ih,List.take_of_length_le (l:=l.drop (h*w)) (by simp;omega),List.take_append_drop]
theorem Gr.ok.rows {g:Gr} (h:g.ok):Bi g.row g.h=g.cs:=by
 have:=NJ (w:=g.w) (h:=g.h) g.cs (by rw[h.len,Nat.mul_comm])
 exact this
def Gr.of (w h:Nat) (R:Nat→List Cel):Gr:=⟨w,h,Bi R h⟩
theorem Gr.of_ok {w h:Nat} {R:Nat→List Cel} (w0:0<w) (w1:w≤200) (h0:0<h) (h1:h≤60) (hR:∀y,y<h→(R y).length=w):(Gr.of w h R).ok :=
 ⟨w0,w1,h0,h1,by simp [Gr.of,Fc hR,Nat.mul_comm]⟩
theorem Gr.of_row {w h:Nat} {R:Nat→List Cel} (hR:∀y,y<h→(R y).length=w) {y:Nat} (hy:y<h):(Gr.of w h R).row y=R y:=Sp hR hy
def Gr.chg (g:Gr) (top fin:Int) (f:Nat→List Cel):Gr:=Gr.of g.w g.h fun y=>if top≤y∧(y:Int)<fin then AK (f y) else g.row y
theorem Gr.chg_rows {g:Gr} (h:g.ok) {top fin:Int} {f:Nat→List Cel} (hf:∀y,y<g.h→top≤(y:Int)→(y:Int)<fin→(f y).length=g.w) (y:Nat) (hy:y<g.h):(if top≤y∧(y:Int)<fin then AK (f y) else g.row y).length=g.w:=by
 split
 ·rename_i h1;rw[Dw,hf y hy h1.1 h1.2]
 ·exact h.row_len hy
theorem Gr.chg_ok {g:Gr} (h:g.ok) {top fin:Int} {f:Nat→List Cel} (hf:∀y,y<g.h→top≤(y:Int)→(y:Int)<fin→(f y).length=g.w):(g.chg top fin f).ok :=
 Gr.of_ok h.w0 h.w1 h.h0 h.h1 (Gr.chg_rows h hf)
theorem Gr.chg_len {g:Gr} (h:g.ok) {top fin:Int} {f:Nat→List Cel} (hf:∀y,y<g.h→top≤(y:Int)→(y:Int)<fin→(f y).length=g.w):(g.chg top fin f).cs.length=g.cs.length:=by
 rw[(Gr.chg_ok h hf).len,h.len];rfl
theorem Gr.chg_row {g:Gr} (h:g.ok) {top fin:Int} {f:Nat→List Cel} (hf:∀y,y<g.h→top≤(y:Int)→(y:Int)<fin→(f y).length=g.w) {y:Nat} (hy:y<g.h):(g.chg top fin f).row y=if top≤y∧(y:Int)<fin then AK (f y) else g.row y :=
 Gr.of_row (Gr.chg_rows h hf) hy
def AD (n:Nat) (c:Nat→α):List α:=(List.range n).map c
theorem AX (n:Nat) (c:Nat→α):(AD n c).length=n:=by simp [AD]
theorem Fp {n:Nat} {c:Nat→α} {i:Nat} (h:i<n):(AD n c)[i]?=some (c i):=by simp [AD,h]
theorem CZ {n:Nat} {c d:Nat→α} (h:∀i,i<n→c i=d i):AD n c=AD n d:=List.map_congr_left fun i hi=>h i (List.mem_range.1 hi)
theorem PG {n:Nat} {c d:Nat→α} {i:Nat} {v:α} (hi:i<n) (hd:d i=v) (h:∀k,k<n→k≠i→d k=c k):(AD n c).set i v=AD n d:=by
 apply List.ext_getElem?
 intro k
 by_cases hk:k<n
 ·rw[Fp hk,List.getElem?_set]
  by_cases he:i=k
  ·subst he;rw[if_pos rfl,if_pos (by rw[AX];exact hi),hd]
  ·rw[if_neg he,Fp hk,h k hk (Ne.symm he)]
 ·rw[List.getElem?_eq_none (by rw[List.length_set,AX];omega),List.getElem?_eq_none (by rw[AX];omega)]
theorem Hb {l:List α} {n:Nat} (h:l.length=n) {c:Nat→α} (hc:∀i,i<n→l[i]?=some (c i)):l=AD n c:=by
 apply List.ext_getElem?
 intro k
 by_cases hk:k<n
 ·rw[Fp hk,hc k hk]
 ·rw[List.getElem?_eq_none (by omega),List.getElem?_eq_none (by rw[AX];omega)]
def Cel.none:Cel:=⟨0,0,0,0⟩
def Gr.at (g:Gr) (x y:Nat):Cel:=g.cs.getD (y*g.w+x) Cel.none
theorem Gr.ok.at_some {g:Gr} (h:g.ok) {x y:Nat} (hx:x<g.w) (hy:y<g.h):g.cs[y*g.w+x]?=some (g.at x y):=by
 have:=h.row_lt hy
 unfold Gr.at
 rw[List.getD_eq_getElem?_getD,List.getElem?_eq_getElem (by omega)];rfl
theorem Gr.ok.row_get {g:Gr} (h:g.ok) {x y:Nat} (hx:x<g.w) (hy:y<g.h):(g.row y)[x]?=some (g.at x y):=by
 unfold Gr.row
 rw[List.getElem?_take_of_lt hx,List.getElem?_drop,h.at_some hx hy]
theorem Gr.ok.row_line {g:Gr} (h:g.ok) {y:Nat} (hy:y<g.h):g.row y=AD g.w fun x=>g.at x y :=
 Hb (h.row_len hy) fun _ hx=>h.row_get hx hy
theorem DU {x n size:Int} (h:0≤size):0≤(AN x n size).1∧(AN x n size).1≤(AN x n size).2∧(AN x n size).2≤size:=by
 unfold AN
 split
 ·simp;omega
 ·split<;>simp<;>omega
theorem NR {x n size:Int} {i:Int} (h0:0≤i) (h1:i<size):((AN x n size).1≤i∧i<(AN x n size).2)↔(x≤i∧i<x+n):=by
 unfold AN
 split
 ·simp;omega
 ·split<;>simp<;>omega
def Gr.fill (g:Gr) (X Y W H:Int) (c:Cel):Gr :=
 g.chg (AN Y H g.h).1 (AN Y H g.h).2 fun y=>AD g.w fun x=>if(AN X W g.w).1≤(x:Int)∧(x:Int)<(AN X W g.w).2 then c else g.at x y
def Gr.plain (w h:Nat) (c:Cel):Gr:=⟨w,h,List.replicate (w*h) c⟩
theorem Gr.plain_ok {w h:Nat} (w0:0<w) (w1:w≤200) (h0:0<h) (h1:h≤60) (c:Cel):(Gr.plain w h c).ok:=⟨w0,w1,h0,h1,by simp [Gr.plain]⟩
def Gr.put (g:Gr) (X Y:Int) (l:List Cel):Gr :=
 g.chg (AN Y 1 g.h).1 (AN Y 1 g.h).2 fun y=>AD g.w fun x=>if(AN X l.length g.w).1≤(x:Int)∧(x:Int)<(AN X l.length g.w).2 then l.getD ((x:Int)-X).toNat Cel.none else g.at x y
def Gr.scrollF (g:Gr) (top fin n:Int) (c:Cel) (y:Nat):List Cel:=if(y:Int)+n<top∨fin≤(y:Int)+n then AD g.w fun _=>c else g.row ((y:Int)+n).toNat
def Gr.scroll (g:Gr) (top fin n:Int) (c:Cel):Gr :=
 g.chg (min (max top 0) g.h) (min (max fin 0) g.h) (g.scrollF (min (max top 0) g.h) (min (max fin 0) g.h) (min (max n (-g.h)) g.h) c)
def Gr.shiftF (g:Gr) (X n:Int) (c:Cel) (y:Nat):List Cel :=
 AD g.w fun x=>if X≤(x:Int) then(if X≤(x:Int)-n∧(x:Int)-n<g.w then g.at ((x:Int)-n).toNat y else c) else g.at x y
def Gr.shift (g:Gr) (X Y n:Int) (c:Cel):Gr :=
 g.chg (AN Y 1 g.h).1 (AN Y 1 g.h).2 (g.shiftF (max X 0) (min (max n (-g.w)) g.w) c)
def Gr.blit (g f:Gr) (X Y:Int):Gr :=
 g.chg (AN Y f.h g.h).1 (AN Y f.h g.h).2 fun y=>AD g.w fun x=>if(AN X f.w g.w).1≤(x:Int)∧(x:Int)<(AN X f.w g.w).2 then(if 0≤(y:Int)-Y∧(y:Int)-Y<f.h∧0≤(x:Int)-X∧(x:Int)-X<f.w then f.at ((x:Int)-X).toNat ((y:Int)-Y).toNat else Cel.none) else g.at x y
def Gr.resize (g:Gr) (w h:Nat) (c:Cel):Gr :=
 (Gr.plain w h c).chg 0 (min (h:Int) g.h) fun y=>AD w fun x=>if x<g.w then g.at x y else(Gr.plain w h c).at x y
theorem Gr.ok.scrollF_len {g:Gr} (hg:g.ok) {T E N:Int} {c:Cel} (ht:0≤T) (he:E≤g.h) (y:Nat):(g.scrollF T E N c y).length=g.w:=by
 unfold Gr.scrollF
 by_cases h:(y:Int)+N<T∨E≤(y:Int)+N
 ·rw[if_pos h];exact AX _ _
 ·rw[if_neg h];exact hg.row_len (by omega)
structure Act' where
  kind:Int
  r:Int
  priv:Int
  mid:Int
  n:Int
  n0:Int
  n1:Int
  n2:Int
  n3:Int
  n4:Int
  n5:Int
  n6:Int
  n7:Int
deriving DecidableEq
def Act'.nums (a:Act'):List Int:=[a.n0,a.n1,a.n2,a.n3,a.n4,a.n5,a.n6,a.n7]
@[go_sem] def Act'.cells (a:Act'):List Value:=[.int .i64 a.kind,.int .i32 a.r,.int .u8 a.priv,.int .u8 a.mid,.int .i64 a.n,.int .i64 a.n0,.int .i64 a.n1,.int .i64 a.n2,.int .i64 a.n3,.int .i64 a.n4,.int .i64 a.n5,.int .i64 a.n6,.int .i64 a.n7]
@[go_sem] def Act'.val (a:Act'):Value:=.agg #[.int .i64 a.kind,.int .i32 a.r,.int .u8 a.priv,.int .u8 a.mid,.int .i64 a.n,.int .i64 a.n0,.int .i64 a.n1,.int .i64 a.n2,.int .i64 a.n3,.int .i64 a.n4,.int .i64 a.n5,.int .i64 a.n6,.int .i64 a.n7]
theorem Act'.len (a:Act'):a.cells.length=13:=rfl
theorem Act'.ok (a:Act'):AO a.cells=true:=rfl
def Bx (n:Int):Prop:=-9223372036854775808≤n∧n≤9223372036854775807
structure Act'.fits (a:Act'):Prop where
  r0:-2147483648≤a.r
  r1:a.r≤2147483647
  n:Bx a.n
  nums:∀x∈a.nums,Bx x
def Act'.num (a:Act') (i:Nat) (Bo:Int):Int:=if 8≤i∨a.n≤i then Bo else max (a.nums.getD i 0) Bo
structure Sav where
  x:Nat
  y:Nat
  pen:Cel
deriving DecidableEq
@[go_sem] def Sav.cells (s:Sav):List Value:=[.int .i64 s.x,.int .i64 s.y,.int .i32 s.pen.r,.int .u8 s.pen.fg.toNat,.int .u8 s.pen.bg.toNat,.int .u8 s.pen.a.toNat]
def Sav.zero:Sav:=⟨0,0,Cel.none⟩
structure Scr where
  w:Nat
  h:Nat
  g0:Gr
  g1:Gr
  s0:Sav
  s1:Sav
  alt:Bool
  now:Sav
  top:Nat
  fin:Nat
  tabs:List Bool
  wraps:Bool
  waits:Bool
  shown:Bool
  gone:List (List Cel)
def Ep:List Bool:=(List.range 200).map fun x=>decide (x % 8=0∧8≤x)
def Scr.renew (S:Scr):Scr:=⟨S.w,S.h,Gr.plain S.w S.h Cel.blank,Gr.plain S.w S.h Cel.blank,.zero,.zero,false,.zero,0,S.h,Ep,true,false,true,S.gone⟩
def Scr.new (w h:Nat):Scr:=⟨w,h,Gr.plain w h Cel.blank,Gr.plain w h Cel.blank,.zero,.zero,false,.zero,0,h,Ep,true,false,true,[]⟩
def Scr.cur (S:Scr):Gr:=bif S.alt then S.g1 else S.g0
def Scr.setCur (S:Scr) (g:Gr):Scr:=bif S.alt then { S with g1:=g } else { S with g0:=g }
def Scr.free (S:Scr):Cel:=⟨32,0,S.now.pen.bg,0⟩
def AJ (x:Int) (n:Nat):Nat:=(min (max x 0) ((n:Int)-1)).toNat
def Scr.at (S:Scr) (x y:Nat):Scr:={ S with now:={ S.now with x:=x,y:=y } }
def Scr.move (S:Scr) (x y:Int):Scr:=S.at (AJ x S.w) (AJ y S.h)
def Scr.save (S:Scr):Scr:=bif S.alt then { S with s1:=S.now } else { S with s0:=S.now }
def Scr.restore (S:Scr):Scr:={ S with now:=bif S.alt then S.s1 else S.s0,waits:=false }
def Scr.line (S:Scr) (f:Gr→Gr):Scr:=S.setCur (Gr.of S.w S.h fun y=>if y=S.now.y then(f ⟨S.w,1,S.cur.row y⟩).cs else S.cur.row y)
def Scr.erase (S:Scr) (x n:Int):Scr:=S.line fun g=>g.fill x 0 n 1 S.free
def Scr.clear (S:Scr) (y n:Int):Scr:=S.setCur (S.cur.fill 0 y S.w n S.free)
def Scr.scroll (S:Scr) (top n:Int):Scr:=S.setCur (S.cur.scroll top S.fin n S.free)
def DN (l:List (List Cel)):List (List Cel):=l.drop (l.length-500)
def Scr.keep (S:Scr) (n:Int):Scr:=if S.top=0∧S.alt=false then { S with gone:=DN (S.gone++(List.range (min n S.fin).toNat).map S.g0.row) } else S
def Scr.up (S:Scr) (n:Int):Scr:=(S.keep n).scroll S.top n
def Scr.below (S:Scr):Scr:=if S.now.y+1=S.fin then S.up 1 else if S.now.y+1<S.h then S.at S.now.x (S.now.y+1) else S
def Scr.above (S:Scr):Scr:=if S.now.y=S.top then S.scroll S.top (-1) else if 0<S.now.y then S.at S.now.x (S.now.y-1) else S
def Scr.wrapped (S:Scr):Scr:=if S.waits then(S.at 0 S.now.y).below else S
def Scr.roomFor (S:Scr) (n:Nat):Scr:=if S.w<S.now.x+n then(if S.wraps then(S.at 0 S.now.y).below else S.at (S.w-n) S.now.y) else S
def Scr.lay (S:Scr) (r:Int) (n:Nat):Scr :=
  let T:=(S.line fun g=>g.put S.now.x 0 (Cw r S.now.pen))
  if S.now.x+n=S.w then { T.at (S.w-1) S.now.y with waits:=S.wraps } else { T.at (S.now.x+n) S.now.y with waits:=false }
def Scr.print (S:Scr) (r:Int):Scr :=
  if Be r=0∨(S.w:Int)<Be r then S else((S.wrapped).roomFor (Be r).toNat).lay r (Be r).toNat
def DG (tabs:List Bool) (w:Nat):Nat→Nat→Nat
  | 0,x=>x
  | k+1,x=>if x<w∧tabs.getD x false=false then DG tabs w k (x+1) else x
def Scr.tab (S:Scr):Scr:=S.at (min (DG S.tabs S.w (S.w-(S.now.x+1)) (S.now.x+1)) (S.w-1)) S.now.y
def Scr.calm (S:Scr):Scr:={ S with waits:=false }
def Scr.ctl (S:Scr) (r:Int):Scr :=
  if r=8 then(S.at (S.now.x-1) S.now.y).calm
  else if r=9 then S.tab.calm
  else if r=10∨r=11∨r=12 then S.below.calm
  else if r=13 then(S.at 0 S.now.y).calm
  else S
def Scr.esc (S:Scr) (r:Int):Scr :=
  if r=55 then S.save
  else if r=72 then { S with tabs:=S.tabs.set S.now.x true }
  else if r=69 then(S.at 0 S.now.y).below.calm
  else if r=68 then S.below.calm
  else if r=77 then S.above.calm
  else if r=56 then S.restore.calm
  else if r=99 then S.renew.calm
  else S
def Scr.mode (S:Scr) (n:Int) (on:Bool):Scr :=
  if n=7 then { S with wraps:=on,waits:=S.waits && on }
  else if n=25 then { S with shown:=on }
  else if n=47∨n=1047∨n=1049 then
    (if on=true∧S.alt=false then { S.save with alt:=true,g1:=Gr.plain S.w S.h Cel.blank,waits:=false }
     else if on=false∧S.alt=true then { S with alt:=false }.restore
     else S)
  else S
def Scr.modes (S:Scr) (l:List Int) (on:Bool):Scr:=l.foldl (fun S n=>S.mode n on) S
def Scr.moved (S:Scr) (a:Act'):Option Scr :=
  let n:=min (a.num 0 1) 9999
  let up:=fun(S:Scr)=>S.at S.now.x (max ((S.now.y:Int)-n) (if S.top≤S.now.y then S.top else 0)).toNat
  let dn:=fun(S:Scr)=>S.at S.now.x (min ((S.now.y:Int)+n) (if S.now.y+1≤S.fin then S.fin-1 else S.h-1)).toNat
  if a.r=70 then some (up (S.at 0 S.now.y))
  else if a.r=65 then some (up S)
  else if a.r=69 then some (dn (S.at 0 S.now.y))
  else if a.r=66 then some (dn S)
  else if a.r=67 then some (S.move (S.now.x+n) S.now.y)
  else if a.r=68 then some (S.move (S.now.x-n) S.now.y)
  else if a.r=71∨a.r=96 then some (S.move (n-1) S.now.y)
  else if a.r=100 then some (S.move S.now.x (n-1))
  else if a.r=72∨a.r=102 then some (S.move (a.num 1 1-1) (n-1))
  else if a.r=117 then some S.restore
  else none
def Scr.region (S:Scr) (top fin:Int):Scr :=
  let f:=if fin=0∨(S.h:Int)<fin then(S.h:Int) else fin
  if top<f-1 then { S with top:=top.toNat,fin:=f.toNat }.move 0 0 else S
def Scr.wipeRows (S:Scr) (k:Int):Scr:=if k=0 then S.clear ((S.now.y:Int)+1) S.h else if k=1 then S.clear 0 S.now.y else if k=2 then S.clear 0 S.h else S
def Scr.wipeLine (S:Scr) (k:Int):Scr:=if k=0 then S.erase S.now.x S.w else if k=1 then S.erase 0 ((S.now.x:Int)+1) else if k=2 then S.erase 0 S.w else S
def Scr.shiftRows (S:Scr) (n:Int):Scr:=if S.top≤S.now.y∧S.now.y<S.fin then(S.scroll S.now.y (-n)).at 0 S.now.y else S
def Scr.changed (S:Scr) (a:Act'):Option Scr :=
  let n:=min (a.num 0 1) 9999
  if a.r=74 then some ((S.wipeRows (a.num 0 0)).wipeLine (a.num 0 0))
  else if a.r=75 then some (S.wipeLine (a.num 0 0))
  else if a.r=77 then some (S.shiftRows (-n))
  else if a.r=76 then some (S.shiftRows n)
  else if a.r=80 then some (S.line fun g=>g.shift S.now.x 0 (-n) S.free)
  else if a.r=64 then some (S.line fun g=>g.shift S.now.x 0 n S.free)
  else if a.r=88 then some (S.erase S.now.x n)
  else if a.r=83 then some (S.up n)
  else if a.r=84 then some (S.scroll S.top (-n))
  else if a.r=114 then some (S.region (n-1) (a.num 1 0))
  else none
def way (n:Nat):BitVec 8:=[0#8,1#8,2#8,4#8,8#8,16#8,0#8,32#8].getD n 0#8
def hue (n:Int):BitVec 8:=BitVec.ofInt 8 (max n 1)
def Ft (c:Cel) (n:Int):Cel :=
  if n=0 then { c with fg:=0,bg:=0,a:=0 }
  else if 0<n∧n<8 then { c with a:=c.a ||| way n.toNat }
  else if n=22 then { c with a:=c.a &&& ~~~3#8 }
  else if 23≤n∧n≤27 then { c with a:=c.a &&& ~~~(way (n-20).toNat) }
  else if 30≤n∧n≤37 then { c with fg:=hue (n-30) }
  else if n=39 then { c with fg:=0 }
  else if 40≤n∧n≤47 then { c with bg:=hue (n-40) }
  else if n=49 then { c with bg:=0 }
  else if 90≤n∧n≤97 then { c with fg:=hue (n-82) }
  else if 100≤n∧n≤107 then { c with bg:=hue (n-92) }
  else c
def Cv (n:Int):Int:=(min (max n 0) 255) / 43
def rgb (r g b:Int):BitVec 8:=BitVec.ofInt 8 (16+36*Cv r+6*Cv g+Cv b)
def AY:List Int→Option (BitVec 8) × List Int
  | 5::n::l=>(if 0≤n∧n≤255 then some (hue n) else none,l)
  | 2::r::g::b::l=>(some (rgb r g b),l)
  | _=>(none,[])
theorem TR (l:List Int):(AY l).2.length≤l.length:=by
  unfold AY
  split<;>simp<;>omega
def C0:Nat→List Int→Cel→Cel
  | 0,_,c=>c
  | _+1,[],c=>c
  | k+1,n::l,c =>
    if n=38 then C0 k (AY l).2 (match (AY l).1 with|some x=>{ c with fg:=x }|none=>c)
    else if n=48 then C0 k (AY l).2 (match (AY l).1 with|some x=>{ c with bg:=x }|none=>c)
    else C0 k l (Ft c n)
def Act'.left (a:Act'):List Int:=let l:=a.nums.take (min (max a.n 0) 8).toNat;if l=[] then[0] else l
def Gw (c:Cel) (a:Act'):Cel:=if a.kind≠4∨a.r≠109∨a.priv≠0∨a.mid≠0 then c else C0 9 a.left c
def Scr.set (S:Scr) (a:Act'):Option Scr :=
  if a.r=109 then some { S with now:={ S.now with pen:=Gw S.now.pen a } }
  else if a.r=103 then some (if a.num 0 0=0 then { S with tabs:=S.tabs.set S.now.x false } else if a.num 0 0=3 then { S with tabs:=List.replicate 200 false } else S)
  else if a.r=115 then some S.save
  else none
def Scr.csi (S:Scr) (a:Act'):Scr :=
  if a.priv=63∧a.mid=0∧(a.r=104∨a.r=108) then S.modes (a.nums.take (min (max a.n 0) 8).toNat) (decide (a.r=104))
  else if a.priv≠0∨a.mid≠0 then S
  else match S.set a with
    | some T=>T
    | none=>match S.moved a with
      | some T=>T.calm
      | none=>match S.changed a with
        | some T=>T.calm
        | none=>S
def Scr.act (S:Scr) (a:Act'):Scr :=
  if a.kind=1 then S.print a.r
  else if a.kind=2 then S.ctl a.r
  else if a.kind=3 then(if a.mid=0 then S.esc a.r else S)
  else if a.kind=4 then S.csi a
  else S
def Scr.acts (S:Scr) (l:List Act'):Scr:=l.foldl Scr.act S
def Scr.resize (S:Scr) (w h:Nat):Scr :=
  { (⟨w,h,S.g0.resize w h Cel.blank,S.g1.resize w h Cel.blank,⟨AJ S.s0.x w,AJ S.s0.y h,S.s0.pen⟩,⟨AJ S.s1.x w,AJ S.s1.y h,S.s1.pen⟩,S.alt,S.now,0,h,S.tabs,S.wraps,false,S.shown,S.gone⟩:Scr).move S.now.x S.now.y with waits:=false }
def Hk (r:Int) (b:UInt8):Int:=AQ .or .i32 (IntKind.i32.wrap (r*64)) (IntKind.i32.wrap (AQ .and .u8 b.toNat 63))
def BN (s:List UInt8):Nat→Int→Nat→Nat→Nat→Int × Nat × Bool
 | 0,r,n,_,_=>(r,n,false)
 | k+1,r,n,lo,hi =>
  match s[n]? with
  | none=>(65533,n,true)
  | some b=>if b.toNat<lo∨hi<b.toNat then(65533,n,false) else BN s k (Hk r b) (n+1) 128 191
def EC (h:Nat):Nat:=if h=224 then 160 else if h=240 then 144 else 128
def EA (h:Nat):Nat:=if h=237 then 159 else if h=244 then 143 else 191
def Bb (h:Nat):Nat:=if 194≤h∧h≤223 then 1 else if 224≤h∧h≤239 then 2 else if 240≤h∧h≤244 then 3 else 0
def Ds (h:Nat):Int:=IntKind.i32.wrap (AQ .and .u8 h (if Bb h=1 then 31 else if Bb h=2 then 15 else 7))
def first (s:List UInt8):Int × Nat × Bool :=
 match s[0]? with
 | none=>(0,0,false)
 | some b =>
  if b.toNat≤127 then((b.toNat:Int),1,false)
  else if Bb b.toNat=0 then(65533,1,false)
  else BN s (Bb b.toNat) (Ds b.toNat) 1 (EC b.toNat) (EA b.toNat)
def Bf (r:Int):Prop:=-2147483648≤r∧r≤2147483647
theorem JZ (r:Int):Bf (IntKind.i32.wrap r):=by
 unfold Bf IntKind.wrap
 simp [IntKind.bits,IntKind.signed]
 omega
theorem M0 (r:Int) (b:UInt8):Bf (Hk r b):=JZ _
theorem L9 (h:Nat):Bf (Ds h):=JZ _
theorem MF (s:List UInt8):∀(k:Nat) (r:Int) (n lo hi:Nat),Bf r→n≤s.length →
  Bf (BN s k r n lo hi).1∧n≤(BN s k r n lo hi).2.1∧(BN s k r n lo hi).2.1≤s.length∧(BN s k r n lo hi).2.1≤n+k∧((BN s k r n lo hi).2.2=true→s.length≤n+k)
 | 0,r,n,lo,hi,h,hn=>⟨h,Nat.le_refl _,hn,by simp [BN],by simp [BN]⟩
 | k+1,r,n,lo,hi,h,hn=>by
  unfold BN
  cases hb:s[n]? with
  | none =>
   have:=List.getElem?_eq_none_iff.1 hb
   exact⟨by show Bf 65533;unfold Bf;omega,Nat.le_refl _,hn,by dsimp only;omega,fun _=>by omega⟩
  | some b =>
   have hlt:=(List.getElem?_eq_some_iff.1 hb).1
   dsimp only
   split
   ·exact⟨by show Bf 65533;unfold Bf;omega,Nat.le_refl _,hn,by dsimp only;omega,by simp⟩
   ·obtain⟨a,b',c,d,e⟩:=MF s k (Hk r b) (n+1) 128 191 (M0 r b) hlt
    exact⟨a,by omega,c,by omega,fun h=>by have:=e h;omega⟩
theorem ET (s:List UInt8) (h:s≠[]):Bf (first s).1∧1≤(first s).2.1∧(first s).2.1≤s.length∧((first s).2.2=true→s.length≤4):=by
 cases s with
 | nil=>exact absurd rfl h
 | cons b l =>
  have hb:=b.toNat_lt
  unfold first
  show Bf (if b.toNat≤127 then((b.toNat:Int),1,false) else _).1∧_
  simp only[List.getElem?_cons_zero]
  split
  ·exact⟨by show Bf (b.toNat:Int);unfold Bf;omega,Nat.le_refl _,by simp,by simp⟩
  split
  ·exact⟨by show Bf 65533;unfold Bf;omega,Nat.le_refl _,by simp,by simp⟩
  ·have hm:Bb b.toNat≤3:=by unfold Bb;split<;>(try split)<;>(try split)<;>omega
   obtain⟨a,b',c,d,e⟩:=MF (b::l) (Bb b.toNat) (Ds b.toNat) 1 (EC b.toNat) (EA b.toNat) (L9 _) (by simp)
   exact⟨a,b',c,fun h=>by have:=e h;omega⟩
theorem Kf (s t:List UInt8):∀(k:Nat) (r:Int) (n lo hi:Nat),(BN s k r n lo hi).2.2=false→BN (s++t) k r n lo hi=BN s k r n lo hi
 | 0,_,_,_,_,_=>rfl
 | k+1,r,n,lo,hi,h=>by
  unfold BN at h ⊢
  cases hb:s[n]? with
  | none=>rw[hb] at h;simp at h
  | some b =>
   have hlt:=(List.getElem?_eq_some_iff.1 hb).1
   rw[List.getElem?_append_left hlt,hb]
   rw[hb] at h
   dsimp only at h ⊢
   split
   ·rfl
   ·rename_i hc
    rw[if_neg hc] at h
    exact Kf s t k _ _ _ _ h
theorem YJ (s t:List UInt8) (h:s≠[]) (ho:(first s).2.2=false):first (s++t)=first s:=by
 cases s with
 | nil=>exact absurd rfl h
 | cons b l =>
  unfold first at ho ⊢
  rw[List.cons_append]
  simp only[List.getElem?_cons_zero] at ho ⊢
  split
  ·rfl
  split
  ·rfl
  ·rename_i h1 h2
   rw[if_neg h1,if_neg h2] at ho
   exact Kf (b::l) t _ _ _ _ _ ho
def CP:Nat→List UInt8→List Int × List UInt8
 | 0,s=>([],s)
 | k+1,s=>match s with
  | []=>([],[])
  | b::l=>if(first (b::l)).2.2 then([],b::l) else((first (b::l)).1::(CP k ((b::l).drop (first (b::l)).2.1)).1,(CP k ((b::l).drop (first (b::l)).2.1)).2)
def dec (s:List UInt8):List Int × List UInt8:=CP s.length s
theorem TX:∀(k:Nat) (s:List UInt8),s.length≤k→CP k s=dec s:=by
 have key:∀(n:Nat) (s:List UInt8),s.length=n→∀k,n≤k→CP k s=CP n s:=by
  intro n
  induction n using Nat.strongRecOn with
  | ind n ih =>
   intro s hs k hk
   cases n with
   | zero =>
    have:s=[]:=List.eq_nil_of_length_eq_zero hs
    subst this
    cases k<;>rfl
   | succ n =>
    cases k with
    | zero=>omega
    | succ k =>
     cases s with
     | nil=>rfl
     | cons b l =>
      have hf:=ET (b::l) (by simp)
      have hd:((b::l).drop (first (b::l)).2.1).length≤n:=by rw[List.length_drop];omega
      unfold CP
      dsimp only
      rw[ih _ (by omega) _ rfl k (by omega),ih _ (by omega) _ rfl n (by omega)]
 intro k s h
 exact key s.length s rfl k h
theorem I9:dec []=([],[]):=rfl
theorem Fi {s:List UInt8} (h:s≠[]) (ho:(first s).2.2=true):dec s=([],s):=by
 cases s with
 | nil=>exact absurd rfl h
 | cons b l=>unfold dec;rw[List.length_cons];unfold CP;dsimp only;rw[if_pos ho]
theorem Fj {s:List UInt8} (h:s≠[]) (ho:(first s).2.2=false):dec s=((first s).1::(dec (s.drop (first s).2.1)).1,(dec (s.drop (first s).2.1)).2):=by
 cases s with
 | nil=>exact absurd rfl h
 | cons b l =>
  have hf:=ET (b::l) (by simp)
  have hd:((b::l).drop (first (b::l)).2.1).length≤l.length:=by rw[List.length_drop];simp;omega
  show CP (b::l).length (b::l)=_
  rw[List.length_cons]
  unfold CP
  dsimp only
  rw[if_neg (by simp [ho]),TX _ _ hd]
theorem Nj (s:List UInt8):(∀r∈(dec s).1,Bf r)∧(dec s).1.length≤s.length∧(dec s).2.length≤4:=by
 have key:∀(n:Nat) (s:List UInt8),s.length=n→(∀r∈(dec s).1,Bf r)∧(dec s).1.length≤s.length∧(dec s).2.length≤4:=by
  intro n
  induction n using Nat.strongRecOn with
  | ind n ih =>
   intro s hs
   by_cases h:s=[]
   ·subst h;simp [I9]
   have hf:=ET s h
   cases ho:(first s).2.2 with
   | true=>rw[Fi h ho];exact⟨by simp,by simp,hf.2.2.2 ho⟩
   | false =>
    obtain⟨a,b,c⟩:=ih _ (show(s.drop (first s).2.1).length<n by rw[List.length_drop];omega) _ rfl
    rw[Fj h ho]
    refine⟨fun r hr=>?_,?_,c⟩
    ·rcases List.mem_cons.1 hr with rfl|hr
     ·exact hf.1
     ·exact a r hr
    ·rw[List.length_drop] at b
     simp
     omega
 exact key _ s rfl
theorem Wu (s t:List UInt8):dec (s++t)=((dec s).1++(dec ((dec s).2++t)).1,(dec ((dec s).2++t)).2):=by
 have key:∀(n:Nat) (s:List UInt8),s.length=n→dec (s++t)=((dec s).1++(dec ((dec s).2++t)).1,(dec ((dec s).2++t)).2):=by
  intro n
  induction n using Nat.strongRecOn with
  | ind n ih =>
   intro s hs
   by_cases h:s=[]
   ·subst h;simp [I9]
   have hf:=ET s h
   cases ho:(first s).2.2 with
   | true=>rw[Fi h ho];simp
   | false =>
    have hne:s++t≠[]:=by simp [h]
    have hm:=YJ s t h ho
    rw[Fj hne (by rw[hm];exact ho),hm,Fj h ho,List.drop_append_of_le_length hf.2.2.1,ih _ (by rw[List.length_drop];omega) _ rfl]
    rfl
 exact key _ s rfl
theorem Mn (s:List UInt8):dec (dec s).2=([],(dec s).2):=by
 have key:∀(n:Nat) (s:List UInt8),s.length=n→dec (dec s).2=([],(dec s).2):=by
  intro n
  induction n using Nat.strongRecOn with
  | ind n ih =>
   intro s hs
   by_cases h:s=[]
   ·subst h;rfl
   have hf:=ET s h
   cases ho:(first s).2.2 with
   | true=>rw[Fi h ho];exact Fi h ho
   | false =>
    rw[Fj h ho]
    exact ih _ (by rw[List.length_drop];omega) _ rfl
 exact key _ s rfl
structure Esc where
 inn:Int
 priv:Int
 mid:Int
 n:Int
 nums:List Int
def Esc.new:Esc:=⟨0,0,0,0,[0,0,0,0,0,0,0,0]⟩
structure Esc.ok (E:Esc):Prop where
 len:E.nums.length=8
 n0:0≤E.n
 n9:E.n≤9
 k:∀x∈E.nums,0≤x∧x≤9999
theorem Esc.new_ok:Esc.new.ok:=⟨rfl,by decide,by decide,by decide⟩
def Db (kind r priv mid n:Int) (l:List Int):Act':=⟨kind,r,priv,mid,n,l.getD 0 0,l.getD 1 0,l.getD 2 0,l.getD 3 0,l.getD 4 0,l.getD 5 0,l.getD 6 0,l.getD 7 0⟩
def EB:List Int:=[0,0,0,0,0,0,0,0]
def noA:Act':=⟨0,0,0,0,0,0,0,0,0,0,0,0,0⟩
def Esc.escape (E:Esc) (r:Int):Esc × Option Act' :=
 if r≤47∧E.mid=0 then({ E with mid:=IntKind.u8.wrap r },none)
 else if r≤47 then({ E with mid:=255 },none)
 else if r=91∧E.mid=0 then({ Esc.new with inn:=2 },none)
 else if(r=80∨r=88∨93≤r∧r≤95)∧E.mid=0 then({ Esc.new with inn:=4 },none)
 else if r≤126∧E.mid≠255 then(Esc.new,some (Db 3 r 0 E.mid 0 EB))
 else(Esc.new,none)
def Esc.control (E:Esc) (r:Int):Esc × Option Act' :=
 if 48≤r∧r≤57∧E.mid=0 then
  (if max E.n 1≤8 then { E with n:=max E.n 1,nums:=E.nums.set (max E.n 1-1).toNat (min (E.nums.getD (max E.n 1-1).toNat 0*10+(r-48)) 9999) } else { E with n:=max E.n 1 },none)
 else if(r=58∨r=59)∧E.mid=0 then({ E with n:=min (max E.n 1+1) 9 },none)
 else if 60≤r∧r≤63∧E.priv=0∧E.mid=0∧E.n=0 then({ E with priv:=IntKind.u8.wrap r },none)
 else if r≤47∧E.mid=0 then({ E with mid:=IntKind.u8.wrap r },none)
 else if 64≤r∧r≤126 then(Esc.new,some (Db 4 r E.priv E.mid (min E.n 8) E.nums))
 else({ Esc.new with inn:=3 },none)
def Esc.step (E:Esc) (r:Int):Esc × Option Act' :=
 if r=27 then({ Esc.new with inn:=1 },none)
 else if r=24∨r=26 then(Esc.new,none)
 else if r<0∨127≤r∧r≤159∨1114111<r then(E,none)
 else if r<32∧E.inn=4 then(if r=7 then Esc.new else E,none)
 else if r<32 then(E,some (Db 2 r 0 0 0 EB))
 else if E.inn=0 then(E,some (Db 1 r 0 0 0 EB))
 else if E.inn=1 then E.escape r
 else if E.inn=2 then E.control r
 else if E.inn=3 then(if 64≤r∧r≤126 then Esc.new else E,none)
 else(E,none)
def Esc.feed (E:Esc):List Int→Esc × List Act'
 | []=>(E,[])
 | r::l=>((Esc.feed (E.step r).1 l).1,(E.step r).2.toList++(Esc.feed (E.step r).1 l).2)
theorem Esc.feed_append (E:Esc) (l m:List Int):E.feed (l++m)=(((E.feed l).1.feed m).1,(E.feed l).2++((E.feed l).1.feed m).2):=by
 induction l generalizing E with
 | nil=>rfl
 | cons r l ih=>simp only[List.cons_append,Esc.feed];rw[ih];simp
theorem Hi {kind r priv mid n:Int} {l:List Int} (hr:Bf r) (n0:0≤n) (n1:n≤9) (hk:∀x∈l,0≤x∧x≤9999):(Db kind r priv mid n l).fits:=by
 have g:∀i,0≤l.getD i 0∧l.getD i 0≤9999:=fun i=>by
  rw[List.getD_eq_getElem?_getD]
  cases h:l[i]? with
  | none=>simp
  | some x=>exact hk x (List.mem_of_getElem? h)
 refine⟨hr.1,hr.2,by unfold Bx;show -9223372036854775808≤n∧n≤9223372036854775807;omega,fun x hx=>?_⟩
 have:∃i,x=l.getD i 0:=by
  simp only[Act'.nums,Db,List.mem_cons,List.not_mem_nil,or_false] at hx
  rcases hx with rfl|rfl|rfl|rfl|rfl|rfl|rfl|rfl<;>exact⟨_,rfl⟩
 obtain⟨i,rfl⟩:=this
 have:=g i
 unfold Bx
 omega
theorem Ii:∀x∈EB,0≤x∧x≤9999:=by decide
theorem Esc.step_ok {E:Esc} (h:E.ok) {r:Int} (hr:Bf r):(E.step r).1.ok∧∀a∈(E.step r).2.toList,a.fits:=by
 have hn:∀i:Int,({ Esc.new with inn:=i }:Esc).ok:=fun i=>⟨rfl,by show(0:Int)≤0;decide,by show(0:Int)≤9;decide,Esc.new_ok.k⟩
 unfold Esc.step
 split
 ·exact⟨hn 1,by simp⟩
 split
 ·exact⟨Esc.new_ok,by simp⟩
 split
 ·exact⟨h,by simp⟩
 split
 ·refine⟨?_,by simp⟩
  split
  ·exact Esc.new_ok
  ·exact h
 split
 ·exact⟨h,by simp;exact Hi hr (by decide) (by decide) Ii⟩
 split
 ·exact⟨h,by simp;exact Hi hr (by decide) (by decide) Ii⟩
 split
 ·unfold Esc.escape
  split
  ·exact⟨⟨h.len,h.n0,h.n9,h.k⟩,by simp⟩
  split
  ·exact⟨⟨h.len,h.n0,h.n9,h.k⟩,by simp⟩
  split
  ·exact⟨hn 2,by simp⟩
  split
  ·exact⟨hn 4,by simp⟩
  split
  ·exact⟨Esc.new_ok,by simp;exact Hi hr (by decide) (by decide) Ii⟩
  ·exact⟨Esc.new_ok,by simp⟩
 split
 ·have n0:=h.n0
  have n9:=h.n9
  unfold Esc.control
  split
  ·refine⟨?_,by simp⟩
   split
   ·rename_i hd h8
    refine⟨by simp [h.len],by show 0≤max E.n 1;omega,by show max E.n 1≤9;omega,fun x hx=>?_⟩
    rcases List.mem_or_eq_of_mem_set hx with hx|rfl
    ·exact h.k x hx
    ·have:0≤E.nums.getD (max E.n 1-1).toNat 0:=by
      rw[List.getD_eq_getElem?_getD]
      cases hg:E.nums[(max E.n 1-1).toNat]? with
      | none=>simp
      | some y=>exact(h.k y (List.mem_of_getElem? hg)).1
     omega
   ·exact⟨h.len,by show 0≤max E.n 1;omega,by show max E.n 1≤9;omega,h.k⟩
  split
  ·exact⟨⟨h.len,by show 0≤min (max E.n 1+1) 9;omega,by show min (max E.n 1+1) 9≤9;omega,h.k⟩,by simp⟩
  split
  ·exact⟨⟨h.len,h.n0,h.n9,h.k⟩,by simp⟩
  split
  ·exact⟨⟨h.len,h.n0,h.n9,h.k⟩,by simp⟩
  split
  ·exact⟨Esc.new_ok,by simp;exact Hi hr (by omega) (by omega) h.k⟩
  ·exact⟨hn 3,by simp⟩
 split
 ·refine⟨?_,by simp⟩
  split
  ·exact Esc.new_ok
  ·exact h
 ·exact⟨h,by simp⟩
theorem Esc.feed_ok {E:Esc} (h:E.ok):∀{l:List Int},(∀r∈l,Bf r)→(E.feed l).1.ok∧(∀a∈(E.feed l).2,a.fits)∧(E.feed l).2.length≤l.length:=by
 intro l
 induction l generalizing E with
 | nil=>intro _;exact⟨h,by simp [Esc.feed],by simp [Esc.feed]⟩
 | cons r l ih =>
  intro hl
  have hs:=Esc.step_ok h (hl r (by simp))
  obtain⟨a,b,c⟩:=ih hs.1 (fun x hx=>hl x (by simp [hx]))
  refine⟨a,fun x hx=>?_,?_⟩
  ·rcases List.mem_append.1 hx with hx|hx
   ·exact hs.2 x hx
   ·exact b x hx
  ·simp only[Esc.feed,List.length_append,List.length_cons]
   have:(E.step r).2.toList.length≤1:=by cases (E.step r).2<;>simp
   omega
end Lyc
