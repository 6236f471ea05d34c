/- Helpers of this claim, part 1: engine, translated functions, contracts, plain laws. -/
import Derived.Test.YtnpkidnbhlepkaaGreatB0
import Derived.Laws.StructEq
set_option linter.unusedSimpArgs false
set_option linter.unusedVariables false
namespace Go.Proofs.YtnpkidnbhlepkaaGreat
open Lyc Go Go.Proofs.Tryz
set_option maxRecDepth 100000
@[go_sem] theorem qH:AF prog 1=some (.nilFunc):=by kernel_rfl
@[go_sem] theorem ty1:Ae prog 1=some 11∧Ak prog 1=some 1∧Am prog 1=some 8∧Al prog 1=some false:=by and_intros<;>kernel_rfl
@[go_sem] theorem mY:AF prog 3=some (.int .i64 0):=by kernel_rfl
@[go_sem] theorem ty3:Ae prog 3=some 8∧Ak prog 3=some 1∧Am prog 3=some 8∧Al prog 3=some false∧CP prog 3=some .i64:=by and_intros<;>kernel_rfl
@[go_sem] theorem lx:AF prog 4=some (.bool false):=by kernel_rfl
@[go_sem] theorem ty4:Ae prog 4=some 9∧Ak prog 4=some 1∧Am prog 4=some 1∧Al prog 4=some false:=by and_intros<;>kernel_rfl
@[go_sem] theorem ty5:Ae prog 5=some 8∧Ak prog 5=some 1∧Am prog 5=some 1∧Al prog 5=some false∧CP prog 5=some .u8:=by and_intros<;>kernel_rfl
@[go_sem] theorem ty9:Ae prog 9=some 3∧Ak prog 9=some 1∧Am prog 9=some 16∧Al prog 9=some false:=by and_intros<;>kernel_rfl
@[go_sem] theorem mT:Ae prog 21=some 8∧Ak prog 21=some 1∧Am prog 21=some 4∧Al prog 21=some false∧CP prog 21=some .i32:=by and_intros<;>kernel_rfl
@[go_sem] theorem kF:Ae prog 23=some 7∧Ak prog 23=some 2∧Am prog 23=some 16∧Al prog 23=some true∧BI prog 23=some [(0,8),(1,8)]∧AG prog 23=some 2∧Ai prog 23 0=some (0,1)∧tfo prog 23 0=some 0∧Ai prog 23 1=some (1,1)∧tfo prog 23 1=some 1∧AO prog 23=some [(0,1),(1,1)]:=by and_intros<;>kernel_rfl
@[go_sem] theorem pT:AM prog 24=some 2:=by kernel_rfl
@[go_sem] theorem mD:Ae prog 24=some 1∧Ak prog 24=some 1∧Am prog 24=some 24∧Al prog 24=some false∧tbs prog 24=some (46,2,[.int .i64 0,.string ⟨#[]⟩])∧AA prog 24=some 46:=by and_intros<;>kernel_rfl
@[go_sem] theorem lO:Ae prog 28=some 4∧Ak prog 28=some 1∧Am prog 28=some 8∧Al prog 28=some false∧AA prog 28=some 70:=by and_intros<;>kernel_rfl
@[go_sem] theorem oX:Ae prog 30=some 8∧Ak prog 30=some 1∧Am prog 30=some 8∧Al prog 30=some false∧CP prog 30=some .u64:=by and_intros<;>kernel_rfl
@[go_sem] theorem mK:Ae prog 32=some 10∧Ak prog 32=some 1∧Am prog 32=some 16∧Al prog 32=some false:=by and_intros<;>kernel_rfl
@[go_sem] theorem mW:AF prog 35=some (.agg #[.int .i64 0,.int .i64 0,.int .i64 0,.string ⟨#[]⟩,.int .i64 0,.int .i64 0]):=by kernel_rfl
@[go_sem] theorem nf:Ae prog 35=some 7∧Ak prog 35=some 6∧Am prog 35=some 56∧Al prog 35=some true∧BI prog 35=some [(0,8),(1,8),(2,8),(3,3),(4,8),(5,8)]∧AG prog 35=some 6∧Ai prog 35 0=some (0,1)∧tfo prog 35 0=some 0∧Ai prog 35 1=some (1,1)∧tfo prog 35 1=some 1∧Ai prog 35 2=some (2,1)∧tfo prog 35 2=some 2∧Ai prog 35 3=some (3,1)∧tfo prog 35 3=some 3∧Ai prog 35 4=some (4,1)∧tfo prog 35 4=some 4∧Ai prog 35 5=some (5,1)∧tfo prog 35 5=some 5∧AO prog 35=some [(0,1),(1,1),(2,1),(3,1),(4,1),(5,1)]:=by and_intros<;>kernel_rfl
@[go_sem] theorem qd:AF prog 36=some (.slice none 0 0):=by kernel_rfl
@[go_sem] theorem lX:AM prog 36=some 5:=by kernel_rfl
@[go_sem] theorem YP:BO prog 36=some (44,5,40):=by kernel_rfl
@[go_sem] theorem qQ:Ae prog 36=some 1∧Ak prog 36=some 1∧Am prog 36=some 24∧Al prog 36=some false∧tbs prog 36=some (44,5,[.int .i64 0,.int .i64 0,.int .i64 0,.int .i64 0,.int .i64 0])∧AA prog 36=some 44:=by and_intros<;>kernel_rfl
@[go_sem] theorem nO:AM prog 38=some 1:=by kernel_rfl
@[go_sem] theorem j0:BO prog 38=some (39,1,8):=by kernel_rfl
@[go_sem] theorem ox:Ae prog 38=some 1∧Ak prog 38=some 1∧Am prog 38=some 24∧Al prog 38=some false∧tbs prog 38=some (39,1,[.pointer none])∧AA prog 38=some 39:=by and_intros<;>kernel_rfl
@[go_sem] theorem lZ:Ae prog 39=some 4∧Ak prog 39=some 1∧Am prog 39=some 8∧Al prog 39=some false∧AA prog 39=some 57:=by and_intros<;>kernel_rfl
@[go_sem] theorem nF:AF prog 42=some (.agg #[.int .i64 0,.int .i64 0,.int .i64 0,.int .i64 0]):=by kernel_rfl
@[go_sem] theorem nZ:Ae prog 42=some 7∧Ak prog 42=some 4∧Am prog 42=some 32∧Al prog 42=some true∧BI prog 42=some [(0,8),(1,8),(2,8),(3,8)]∧AG prog 42=some 4∧Ai prog 42 0=some (0,1)∧tfo prog 42 0=some 0∧Ai prog 42 1=some (1,1)∧tfo prog 42 1=some 1∧Ai prog 42 2=some (2,1)∧tfo prog 42 2=some 2∧Ai prog 42 3=some (3,1)∧tfo prog 42 3=some 3∧AO prog 42=some [(0,1),(1,1),(2,1),(3,1)]:=by and_intros<;>kernel_rfl
@[go_sem] theorem mX:AF prog 44=some (.agg #[.int .i64 0,.int .i64 0,.int .i64 0,.int .i64 0,.int .i64 0]):=by kernel_rfl
@[go_sem] theorem oC:Ae prog 44=some 7∧Ak prog 44=some 5∧Am prog 44=some 40∧Al prog 44=some true∧AG prog 44=some 5∧Ai prog 44 0=some (0,1)∧tfo prog 44 0=some 0∧Ai prog 44 1=some (1,4)∧tfo prog 44 1=some 1∧AO prog 44=some [(0,1),(1,4)]:=by and_intros<;>kernel_rfl
@[go_sem] theorem qj:Ae prog 46=some 7∧Ak prog 46=some 2∧Am prog 46=some 24∧Al prog 46=some true∧BI prog 46=some [(0,8),(1,3)]∧AG prog 46=some 2∧Ai prog 46 0=some (0,1)∧tfo prog 46 0=some 0∧Ai prog 46 1=some (1,1)∧tfo prog 46 1=some 1∧AO prog 46=some [(0,1),(1,1)]:=by and_intros<;>kernel_rfl
@[go_sem] theorem DC:AM prog 48=some 4:=by kernel_rfl
@[go_sem] theorem CZ:BO prog 48=some (60,4,8):=by kernel_rfl
@[go_sem] theorem Fp:tmk prog 48=some (60,4,[.int .i32 0,.int .u8 0,.int .u8 0,.int .u8 0],8):=by kernel_rfl
@[go_sem] theorem pv:Ae prog 48=some 1∧Ak prog 48=some 1∧Am prog 48=some 24∧Al prog 48=some false∧tbs prog 48=some (60,4,[.int .i32 0,.int .u8 0,.int .u8 0,.int .u8 0])∧AA prog 48=some 60:=by and_intros<;>kernel_rfl
@[go_sem] theorem qf:AF prog 50=some (.agg #[.int .i64 0,.int .i64 0,.slice none 0 0]):=by kernel_rfl
@[go_sem] theorem qc:Ae prog 50=some 7∧Ak prog 50=some 3∧Am prog 50=some 40∧Al prog 50=some true∧AG prog 50=some 3∧Ai prog 50 0=some (0,1)∧tfo prog 50 0=some 0∧Ai prog 50 1=some (1,1)∧tfo prog 50 1=some 1∧Ai prog 50 2=some (2,1)∧tfo prog 50 2=some 2∧AO prog 50=some [(0,1),(1,1),(2,1)]:=by and_intros<;>kernel_rfl
@[go_sem] theorem mC:Ae prog 52=some 4∧Ak prog 52=some 1∧Am prog 52=some 8∧Al prog 52=some false∧AA prog 52=some 86:=by and_intros<;>kernel_rfl
@[go_sem] theorem kO:Ae prog 53=some 4∧Ak prog 53=some 1∧Am prog 53=some 8∧Al prog 53=some false∧AA prog 53=some 91:=by and_intros<;>kernel_rfl
@[go_sem] theorem mn:Ae prog 54=some 4∧Ak prog 54=some 1∧Am prog 54=some 8∧Al prog 54=some false∧AA prog 54=some 107:=by and_intros<;>kernel_rfl
@[go_sem] theorem lH:Ae prog 55=some 4∧Ak prog 55=some 1∧Am prog 55=some 8∧Al prog 55=some false∧AA prog 55=some 146:=by and_intros<;>kernel_rfl
@[go_sem] theorem mI:AF prog 57=some (.agg #[.pointer none,.pointer none,.pointer none,.pointer none]):=by kernel_rfl
@[go_sem] theorem oZ:Ae prog 57=some 7∧Ak prog 57=some 4∧Am prog 57=some 32∧Al prog 57=some true∧AG prog 57=some 4∧Ai prog 57 0=some (0,1)∧tfo prog 57 0=some 0∧Ai prog 57 1=some (1,1)∧tfo prog 57 1=some 1∧Ai prog 57 2=some (2,1)∧tfo prog 57 2=some 2∧Ai prog 57 3=some (3,1)∧tfo prog 57 3=some 3∧AO prog 57=some [(0,1),(1,1),(2,1),(3,1)]:=by and_intros<;>kernel_rfl
@[go_sem] theorem nu:AF prog 60=some (.agg #[.int .i32 0,.int .u8 0,.int .u8 0,.int .u8 0]):=by kernel_rfl
@[go_sem] theorem od:Ae prog 60=some 7∧Ak prog 60=some 4∧Am prog 60=some 8∧Al prog 60=some true∧BI prog 60=some [(0,8),(1,8),(2,8),(3,8)]∧AG prog 60=some 4∧Ai prog 60 0=some (0,1)∧tfo prog 60 0=some 0∧Ai prog 60 1=some (1,1)∧tfo prog 60 1=some 1∧Ai prog 60 2=some (2,1)∧tfo prog 60 2=some 2∧Ai prog 60 3=some (3,1)∧tfo prog 60 3=some 3∧AO prog 60=some [(0,1),(1,1),(2,1),(3,1)]:=by and_intros<;>kernel_rfl
@[go_sem] theorem YC:Ae prog 65=some 5∧Ak prog 65=some 1∧Am prog 65=some 8∧Al prog 65=some false∧AA prog 65=some 71:=by and_intros<;>kernel_rfl
@[go_sem] theorem qb:Ae prog 67=some 7∧Ak prog 67=some 2∧Am prog 67=some 2∧Al prog 67=some true∧BI prog 67=some [(0,9),(1,9)]∧AG prog 67=some 2∧Ai prog 67 0=some (0,1)∧tfo prog 67 0=some 0∧Ai prog 67 1=some (1,1)∧tfo prog 67 1=some 1∧AO prog 67=some [(0,1),(1,1)]:=by and_intros<;>kernel_rfl
@[go_sem] theorem pg:AM prog 68=some 3:=by kernel_rfl
@[go_sem] theorem oV:Ae prog 68=some 1∧Ak prog 68=some 1∧Am prog 68=some 24∧Al prog 68=some false∧tbs prog 68=some (184,3,[.int .i64 0,.int .i64 0,.string ⟨#[]⟩])∧AA prog 68=some 184:=by and_intros<;>kernel_rfl
@[go_sem] theorem kR:AF prog 70=some (.agg #[.int .i64 0,.int .i64 0,.int .i64 0,.map none,.int .i64 0,.bool false,.bool false,.int .i64 0,.slice none 0 0,.int .i64 0]):=by kernel_rfl
@[go_sem] theorem oL:Ae prog 70=some 7∧Ak prog 70=some 10∧Am prog 70=some 88∧Al prog 70=some true∧AG prog 70=some 10∧Ai prog 70 0=some (0,1)∧tfo prog 70 0=some 0∧Ai prog 70 1=some (1,1)∧tfo prog 70 1=some 1∧Ai prog 70 2=some (2,1)∧tfo prog 70 2=some 2∧Ai prog 70 3=some (3,1)∧tfo prog 70 3=some 3∧Ai prog 70 4=some (4,1)∧tfo prog 70 4=some 4∧Ai prog 70 5=some (5,2)∧tfo prog 70 5=some 5∧Ai prog 70 6=some (7,1)∧tfo prog 70 6=some 7∧Ai prog 70 7=some (8,1)∧tfo prog 70 7=some 8∧Ai prog 70 8=some (9,1)∧tfo prog 70 8=some 9∧AO prog 70=some [(0,1),(1,1),(2,1),(3,1),(4,1),(5,2),(7,1),(8,1),(9,1)]:=by and_intros<;>kernel_rfl
@[go_sem] theorem lJ:Ae prog 71=some 4∧Ak prog 71=some 1∧Am prog 71=some 8∧Al prog 71=some false∧AA prog 71=some 84:=by and_intros<;>kernel_rfl
@[go_sem] theorem o7:Ae prog 76=some 8∧Ak prog 76=some 1∧Am prog 76=some 8∧Al prog 76=some false∧CP prog 76=some .i64:=by and_intros<;>kernel_rfl
@[go_sem] theorem lB:Ae prog 81=some 4∧Ak prog 81=some 1∧Am prog 81=some 8∧Al prog 81=some false∧AA prog 81=some 140:=by and_intros<;>kernel_rfl
@[go_sem] theorem qp:Ae prog 82=some 5∧Ak prog 82=some 1∧Am prog 82=some 8∧Al prog 82=some false∧AA prog 82=some 132:=by and_intros<;>kernel_rfl
@[go_sem] theorem qt:AF prog 84=some (.agg #[.pointer none,.int .i64 0,.int .i64 0,.map none]):=by kernel_rfl
@[go_sem] theorem oM:Ae prog 84=some 7∧Ak prog 84=some 4∧Am prog 84=some 32∧Al prog 84=some true∧AG prog 84=some 4∧Ai prog 84 0=some (0,1)∧tfo prog 84 0=some 0∧Ai prog 84 1=some (1,1)∧tfo prog 84 1=some 1∧Ai prog 84 2=some (2,1)∧tfo prog 84 2=some 2∧Ai prog 84 3=some (3,1)∧tfo prog 84 3=some 3∧AO prog 84=some [(0,1),(1,1),(2,1),(3,1)]:=by and_intros<;>kernel_rfl
@[go_sem] theorem o9:AF prog 86=some (.agg #[.string ⟨#[]⟩]):=by kernel_rfl
@[go_sem] theorem nC:Ae prog 86=some 7∧Ak prog 86=some 1∧Am prog 86=some 16∧Al prog 86=some true∧BI prog 86=some [(0,3)]∧AG prog 86=some 1∧Ai prog 86 0=some (0,1)∧tfo prog 86 0=some 0∧AO prog 86=some [(0,1)]:=by and_intros<;>kernel_rfl
@[go_sem] theorem pL:Ae prog 87=some 2∧Ak prog 87=some 8∧Am prog 87=some 64∧Al prog 87=some true∧Bk prog 87=some (8,1)∧AG prog 87=some 8∧AA prog 87=some 3∧Cq prog 87=some 8:=by and_intros<;>kernel_rfl
@[go_sem] theorem qS:AF prog 89=some (.agg #[.int .i64 0,.int .i32 0,.int .u8 0,.int .u8 0,.int .i64 0,.int .i64 0,.int .i64 0,.int .i64 0,.int .i64 0,.int .i64 0,.int .i64 0,.int .i64 0,.int .i64 0]):=by kernel_rfl
@[go_sem] theorem oW:Ae prog 89=some 7∧Ak prog 89=some 13∧Am prog 89=some 88∧Al prog 89=some true∧AG prog 89=some 13∧Ai prog 89 0=some (0,1)∧tfo prog 89 0=some 0∧Ai prog 89 1=some (1,1)∧tfo prog 89 1=some 1∧Ai prog 89 2=some (2,1)∧tfo prog 89 2=some 2∧Ai prog 89 3=some (3,1)∧tfo prog 89 3=some 3∧Ai prog 89 4=some (4,1)∧tfo prog 89 4=some 4∧Ai prog 89 5=some (5,8)∧tfo prog 89 5=some 5∧AO prog 89=some [(0,1),(1,1),(2,1),(3,1),(4,1),(5,8)]:=by and_intros<;>kernel_rfl
@[go_sem] theorem mR:AF prog 91=some (.agg #[.int .i64 0,.int .i64 0,.int .i32 0,.int .u8 0,.int .u8 0,.int .i64 0,.int .i64 0,.int .i64 0,.int .i64 0,.int .i64 0,.int .i64 0,.int .i64 0,.int .i64 0,.int .i64 0,.bool false]):=by kernel_rfl
@[go_sem] theorem ni:Ae prog 91=some 7∧Ak prog 91=some 15∧Am prog 91=some 104∧Al prog 91=some true∧AG prog 91=some 15∧Ai prog 91 0=some (0,1)∧tfo prog 91 0=some 0∧Ai prog 91 1=some (1,13)∧tfo prog 91 1=some 1∧Ai prog 91 2=some (14,1)∧tfo prog 91 2=some 14∧AO prog 91=some [(0,1),(1,13),(14,1)]:=by and_intros<;>kernel_rfl
@[go_sem] theorem pZ:AM prog 95=some 13:=by kernel_rfl
@[go_sem] theorem Ln:BO prog 95=some (89,13,88):=by kernel_rfl
@[go_sem] theorem nh:Ae prog 95=some 1∧Ak prog 95=some 1∧Am prog 95=some 24∧Al prog 95=some false∧tbs prog 95=some (89,13,[.int .i64 0,.int .i32 0,.int .u8 0,.int .u8 0,.int .i64 0,.int .i64 0,.int .i64 0,.int .i64 0,.int .i64 0,.int .i64 0,.int .i64 0,.int .i64 0,.int .i64 0])∧AA prog 95=some 89:=by and_intros<;>kernel_rfl
@[go_sem] theorem kY:AM prog 97=some 1:=by kernel_rfl
@[go_sem] theorem MD:BO prog 97=some (21,1,4):=by kernel_rfl
@[go_sem] theorem oD:Ae prog 97=some 1∧Ak prog 97=some 1∧Am prog 97=some 24∧Al prog 97=some false∧tbs prog 97=some (21,1,[.int .i32 0])∧AA prog 97=some 21:=by and_intros<;>kernel_rfl
@[go_sem] theorem oK:Ae prog 100=some 2∧Ak prog 100=some 6∧Am prog 100=some 80∧Al prog 100=some true∧Bk prog 100=some (2,3)∧AG prog 100=some 6∧AA prog 100=some 50∧Cq prog 100=some 2:=by and_intros<;>kernel_rfl
@[go_sem] theorem pH:Ae prog 102=some 7∧Ak prog 102=some 6∧Am prog 102=some 24∧Al prog 102=some true∧AG prog 102=some 6∧Ai prog 102 0=some (0,1)∧tfo prog 102 0=some 0∧Ai prog 102 1=some (1,1)∧tfo prog 102 1=some 1∧Ai prog 102 2=some (2,4)∧tfo prog 102 2=some 2∧AO prog 102=some [(0,1),(1,1),(2,4)]:=by and_intros<;>kernel_rfl
@[go_sem] theorem nI:Ae prog 103=some 2∧Ak prog 103=some 12∧Am prog 103=some 48∧Al prog 103=some true∧Bk prog 103=some (2,6)∧AG prog 103=some 12∧AA prog 103=some 102∧Cq prog 103=some 2:=by and_intros<;>kernel_rfl
@[go_sem] theorem qi:Ae prog 104=some 2∧Ak prog 104=some 200∧Am prog 104=some 200∧Al prog 104=some true∧Bk prog 104=some (200,1)∧AG prog 104=some 200∧AA prog 104=some 4∧Cq prog 104=some 200:=by and_intros<;>kernel_rfl
@[go_sem] theorem qM:AM prog 105=some 1:=by kernel_rfl
@[go_sem] theorem Gp:BO prog 105=some (48,1,24):=by kernel_rfl
@[go_sem] theorem ZO:Ae prog 105=some 1∧Ak prog 105=some 1∧Am prog 105=some 24∧Al prog 105=some false∧tbs prog 105=some (48,1,[.slice none 0 0])∧AA prog 105=some 48:=by and_intros<;>kernel_rfl
@[go_sem] theorem mM:Ae prog 107=some 7∧Ak prog 107=some 231∧Am prog 107=some 408∧Al prog 107=some true∧AG prog 107=some 231∧Ai prog 107 0=some (0,6)∧tfo prog 107 0=some 0∧Ai prog 107 1=some (6,1)∧tfo prog 107 1=some 6∧Ai prog 107 2=some (7,6)∧tfo prog 107 2=some 7∧Ai prog 107 3=some (13,12)∧tfo prog 107 3=some 13∧Ai prog 107 4=some (25,1)∧tfo prog 107 4=some 25∧Ai prog 107 5=some (26,1)∧tfo prog 107 5=some 26∧Ai prog 107 6=some (27,200)∧tfo prog 107 6=some 27∧Ai prog 107 7=some (227,1)∧tfo prog 107 7=some 227∧Ai prog 107 8=some (228,1)∧tfo prog 107 8=some 228∧Ai prog 107 9=some (229,1)∧tfo prog 107 9=some 229∧Ai prog 107 10=some (230,1)∧tfo prog 107 10=some 230∧AO prog 107=some [(0,6),(6,1),(7,6),(13,12),(25,1),(26,1),(27,200),(227,1),(228,1),(229,1),(230,1)]:=by and_intros<;>kernel_rfl
@[go_sem] theorem oc:AF prog 110=some (.slice none 0 0):=by kernel_rfl
@[go_sem] theorem nj:AM prog 110=some 4:=by kernel_rfl
@[go_sem] theorem YG:BO prog 110=some (42,4,32):=by kernel_rfl
@[go_sem] theorem ou:Ae prog 110=some 1∧Ak prog 110=some 1∧Am prog 110=some 24∧Al prog 110=some false∧tbs prog 110=some (42,4,[.int .i64 0,.int .i64 0,.int .i64 0,.int .i64 0])∧AA prog 110=some 42:=by and_intros<;>kernel_rfl
@[go_sem] theorem qa:AF prog 117=some (.slice none 0 0):=by kernel_rfl
@[go_sem] theorem pE:AM prog 117=some 1:=by kernel_rfl
@[go_sem] theorem LH:BO prog 117=some (3,1,8):=by kernel_rfl
@[go_sem] theorem pY:Ae prog 117=some 1∧Ak prog 117=some 1∧Am prog 117=some 24∧Al prog 117=some false∧tbs prog 117=some (3,1,[.int .i64 0])∧AA prog 117=some 3:=by and_intros<;>kernel_rfl
@[go_sem] theorem mm:AM prog 122=some 1:=by kernel_rfl
@[go_sem] theorem Qg:BO prog 122=some (32,1,16):=by kernel_rfl
@[go_sem] theorem qn:Ae prog 122=some 1∧Ak prog 122=some 1∧Am prog 122=some 24∧Al prog 122=some false∧tbs prog 122=some (32,1,[.nilIface])∧AA prog 122=some 32:=by and_intros<;>kernel_rfl
@[go_sem] theorem qC:AF prog 123=some (.slice none 0 0):=by kernel_rfl
@[go_sem] theorem mo:AM prog 123=some 3:=by kernel_rfl
@[go_sem] theorem O8:BO prog 123=some (126,3,32):=by kernel_rfl
@[go_sem] theorem qT:Ae prog 123=some 1∧Ak prog 123=some 1∧Am prog 123=some 24∧Al prog 123=some false∧tbs prog 123=some (126,3,[.int .i64 0,.int .i64 0,.string ⟨#[]⟩])∧AA prog 123=some 126:=by and_intros<;>kernel_rfl
@[go_sem] theorem qe:AF prog 126=some (.agg #[.int .i64 0,.int .i64 0,.string ⟨#[]⟩]):=by kernel_rfl
@[go_sem] theorem lK:Ae prog 126=some 7∧Ak prog 126=some 3∧Am prog 126=some 32∧Al prog 126=some true∧BI prog 126=some [(0,8),(1,8),(2,3)]∧AG prog 126=some 3∧Ai prog 126 0=some (0,1)∧tfo prog 126 0=some 0∧Ai prog 126 1=some (1,1)∧tfo prog 126 1=some 1∧Ai prog 126 2=some (2,1)∧tfo prog 126 2=some 2∧AO prog 126=some [(0,1),(1,1),(2,1)]:=by and_intros<;>kernel_rfl
@[go_sem] theorem qB:Ae prog 132=some 4∧Ak prog 132=some 1∧Am prog 132=some 8∧Al prog 132=some false∧AA prog 132=some 207:=by and_intros<;>kernel_rfl
@[go_sem] theorem mw:AF prog 135=some (.nilFunc):=by kernel_rfl
@[go_sem] theorem pJ:Ae prog 135=some 11∧Ak prog 135=some 1∧Am prog 135=some 8∧Al prog 135=some false:=by and_intros<;>kernel_rfl
@[go_sem] theorem lU:Ae prog 138=some 4∧Ak prog 138=some 1∧Am prog 138=some 8∧Al prog 138=some false∧AA prog 138=some 143:=by and_intros<;>kernel_rfl
@[go_sem] theorem pI:AF prog 140=some (.agg #[.pointer none,.int .i64 0,.int .i64 0,.int .i64 0,.int .i64 0,.int .i64 0]):=by kernel_rfl
@[go_sem] theorem ly:Ae prog 140=some 7∧Ak prog 140=some 6∧Am prog 140=some 48∧Al prog 140=some true∧AG prog 140=some 6∧Ai prog 140 0=some (0,1)∧tfo prog 140 0=some 0∧Ai prog 140 1=some (1,4)∧tfo prog 140 1=some 1∧Ai prog 140 2=some (5,1)∧tfo prog 140 2=some 5∧AO prog 140=some [(0,1),(1,4),(5,1)]:=by and_intros<;>kernel_rfl
@[go_sem] theorem nD:AF prog 143=some (.agg #[.int .i64 0,.bool false,.int .i64 0,.int .i64 0,.pointer none,.pointer none]):=by kernel_rfl
@[go_sem] theorem kV:Ae prog 143=some 7∧Ak prog 143=some 6∧Am prog 143=some 48∧Al prog 143=some true∧AG prog 143=some 6∧Ai prog 143 0=some (0,1)∧tfo prog 143 0=some 0∧Ai prog 143 1=some (1,1)∧tfo prog 143 1=some 1∧Ai prog 143 2=some (2,1)∧tfo prog 143 2=some 2∧Ai prog 143 3=some (3,1)∧tfo prog 143 3=some 3∧Ai prog 143 4=some (4,1)∧tfo prog 143 4=some 4∧Ai prog 143 5=some (5,1)∧tfo prog 143 5=some 5∧AO prog 143=some [(0,1),(1,1),(2,1),(3,1),(4,1),(5,1)]:=by and_intros<;>kernel_rfl
@[go_sem] theorem lI:AF prog 146=some (.agg #[.int .i64 0,.slice none 0 0]):=by kernel_rfl
@[go_sem] theorem nt:Ae prog 146=some 7∧Ak prog 146=some 2∧Am prog 146=some 32∧Al prog 146=some true∧AG prog 146=some 2∧Ai prog 146 0=some (0,1)∧tfo prog 146 0=some 0∧Ai prog 146 1=some (1,1)∧tfo prog 146 1=some 1∧AO prog 146=some [(0,1),(1,1)]:=by and_intros<;>kernel_rfl
@[go_sem] theorem qg:AF prog 154=some (.agg #[.int .i64 0,.int .i32 0,.bool false]):=by kernel_rfl
@[go_sem] theorem mS:Ae prog 154=some 7∧Ak prog 154=some 3∧Am prog 154=some 16∧Al prog 154=some true∧BI prog 154=some [(0,8),(1,8),(2,9)]∧AG prog 154=some 3∧Ai prog 154 0=some (0,1)∧tfo prog 154 0=some 0∧Ai prog 154 1=some (1,1)∧tfo prog 154 1=some 1∧Ai prog 154 2=some (2,1)∧tfo prog 154 2=some 2∧AO prog 154=some [(0,1),(1,1),(2,1)]:=by and_intros<;>kernel_rfl
@[go_sem] theorem pV:Ae prog 161=some 11∧Ak prog 161=some 1∧Am prog 161=some 8∧Al prog 161=some false:=by and_intros<;>kernel_rfl
@[go_sem] theorem pR:AM prog 170=some 1:=by kernel_rfl
@[go_sem] theorem lQ:Ae prog 170=some 1∧Ak prog 170=some 1∧Am prog 170=some 24∧Al prog 170=some false∧tbs prog 170=some (9,1,[.string ⟨#[]⟩])∧AA prog 170=some 9:=by and_intros<;>kernel_rfl
@[go_sem] theorem mz:AF prog 171=some (.slice none 0 0):=by kernel_rfl
@[go_sem] theorem IA:BO prog 171=some (5,1,1):=by kernel_rfl
@[go_sem] theorem XX:tmk prog 171=some (5,1,[.int .u8 0],1):=by kernel_rfl
@[go_sem] theorem pW:Ae prog 171=some 1∧Ak prog 171=some 1∧Am prog 171=some 24∧Al prog 171=some false∧tbs prog 171=some (5,1,[.int .u8 0])∧AA prog 171=some 5:=by and_intros<;>kernel_rfl
@[go_sem] theorem mG:Ae prog 173=some 4∧Ak prog 173=some 1∧Am prog 173=some 8∧Al prog 173=some false∧AA prog 173=some 67:=by and_intros<;>kernel_rfl
@[go_sem] theorem nv:Ae prog 175=some 7∧Ak prog 175=some 2∧Am prog 175=some 16∧Al prog 175=some true∧BI prog 175=some [(0,8),(1,8)]∧AG prog 175=some 2∧Ai prog 175 0=some (0,1)∧tfo prog 175 0=some 0∧Ai prog 175 1=some (1,1)∧tfo prog 175 1=some 1∧AO prog 175=some [(0,1),(1,1)]:=by and_intros<;>kernel_rfl
@[go_sem] theorem jY:AF prog 178=some (.agg #[.int .i64 0,.int .i64 0,.int .i64 0,.int .i64 0,.int .i64 0,.int .i64 0,.int .i64 0,.int .i64 0,.int .i64 0,.int .i64 0,.int .i64 0,.int .i64 0,.int .i64 0,.int .i64 0,.int .i64 0,.int .i64 0,.int .i64 0,.int .i64 0,.int .i64 0,.int .i64 0,.int .i64 0,.int .i64 0,.int .i64 0,.int .i64 0,.int .i64 0,.int .i64 0,.int .i64 0,.int .i64 0,.int .i64 0,.int .i64 0,.int .i64 0,.int .i64 0,.int .i64 0,.int .i64 0,.int .i64 0,.int .i64 0,.int .i64 0,.int .i64 0,.int .i64 0,.int .i64 0,.int .i64 0,.int .i64 0,.int .i64 0,.int .i64 0]):=by kernel_rfl
@[go_sem] theorem L2:Ae prog 178=some 2∧Ak prog 178=some 44∧Am prog 178=some 352∧Al prog 178=some true∧Bk prog 178=some (22,2)∧AG prog 178=some 44∧AA prog 178=some 175∧Cq prog 178=some 22:=by and_intros<;>kernel_rfl
@[go_sem] theorem fZ:AF prog 180=some (.agg #[.int .i64 0,.int .i64 0,.int .i64 0,.int .i64 0,.int .i64 0,.int .i64 0,.int .i64 0,.int .i64 0,.int .i64 0,.int .i64 0,.int .i64 0,.int .i64 0,.int .i64 0,.int .i64 0]):=by kernel_rfl
@[go_sem] theorem N4:Ae prog 180=some 2∧Ak prog 180=some 14∧Am prog 180=some 112∧Al prog 180=some true∧Bk prog 180=some (7,2)∧AG prog 180=some 14∧AA prog 180=some 175∧Cq prog 180=some 7:=by and_intros<;>kernel_rfl
@[go_sem] theorem pn:AF prog 184=some (.agg #[.int .i64 0,.int .i64 0,.string ⟨#[]⟩]):=by kernel_rfl
@[go_sem] theorem rh:Ae prog 184=some 7∧Ak prog 184=some 3∧Am prog 184=some 32∧Al prog 184=some true∧BI prog 184=some [(0,8),(1,8),(2,3)]∧AG prog 184=some 3∧Ai prog 184 0=some (0,1)∧tfo prog 184 0=some 0∧Ai prog 184 1=some (1,1)∧tfo prog 184 1=some 1∧Ai prog 184 2=some (2,1)∧tfo prog 184 2=some 2∧AO prog 184=some [(0,1),(1,1),(2,1)]:=by and_intros<;>kernel_rfl
@[go_sem] theorem oQ:Ae prog 190=some 4∧Ak prog 190=some 1∧Am prog 190=some 8∧Al prog 190=some false∧AA prog 190=some 192:=by and_intros<;>kernel_rfl
@[go_sem] theorem oa:AF prog 192=some (.agg #[.nilIface,.int .i64 0]):=by kernel_rfl
@[go_sem] theorem ph:Ae prog 192=some 7∧Ak prog 192=some 2∧Am prog 192=some 24∧Al prog 192=some true∧AG prog 192=some 2∧Ai prog 192 0=some (0,1)∧tfo prog 192 0=some 0∧Ai prog 192 1=some (1,1)∧tfo prog 192 1=some 1∧AO prog 192=some [(0,1),(1,1)]:=by and_intros<;>kernel_rfl
@[go_sem] theorem kL:Ae prog 193=some 4∧Ak prog 193=some 1∧Am prog 193=some 8∧Al prog 193=some false∧AA prog 193=some 195:=by and_intros<;>kernel_rfl
@[go_sem] theorem og:AF prog 195=some (.agg #[.nilIface,.string ⟨#[]⟩]):=by kernel_rfl
@[go_sem] theorem oF:Ae prog 195=some 7∧Ak prog 195=some 2∧Am prog 195=some 32∧Al prog 195=some true∧AG prog 195=some 2∧Ai prog 195 0=some (0,1)∧tfo prog 195 0=some 0∧Ai prog 195 1=some (1,1)∧tfo prog 195 1=some 1∧AO prog 195=some [(0,1),(1,1)]:=by and_intros<;>kernel_rfl
@[go_sem] theorem kN:Ae prog 196=some 4∧Ak prog 196=some 1∧Am prog 196=some 8∧Al prog 196=some false∧AA prog 196=some 198:=by and_intros<;>kernel_rfl
@[go_sem] theorem kE:AF prog 198=some (.agg #[.slice none 0 0]):=by kernel_rfl
@[go_sem] theorem oU:Ae prog 198=some 7∧Ak prog 198=some 1∧Am prog 198=some 24∧Al prog 198=some true∧AG prog 198=some 1∧Ai prog 198 0=some (0,1)∧tfo prog 198 0=some 0∧AO prog 198=some [(0,1)]:=by and_intros<;>kernel_rfl
@[go_sem] theorem qX:Ae prog 200=some 4∧Ak prog 200=some 1∧Am prog 200=some 8∧Al prog 200=some false∧AA prog 200=some 256:=by and_intros<;>kernel_rfl
@[go_sem] theorem pS:Ae prog 202=some 7∧Ak prog 202=some 1∧Am prog 202=some 16∧Al prog 202=some true∧BI prog 202=some [(0,3)]∧AG prog 202=some 1∧Ai prog 202 0=some (0,1)∧tfo prog 202 0=some 0∧AO prog 202=some [(0,1)]:=by and_intros<;>kernel_rfl
@[go_sem] theorem pG:AF prog 204=some (.agg #[.int .i64 0,.int .u8 0,.int .u8 0,.int .i64 0,.int .i64 0,.int .i64 0,.int .i64 0,.int .i64 0,.int .i64 0,.int .i64 0,.int .i64 0,.int .i64 0]):=by kernel_rfl
@[go_sem] theorem nk:Ae prog 204=some 7∧Ak prog 204=some 12∧Am prog 204=some 88∧Al prog 204=some true∧AG prog 204=some 12∧Ai prog 204 0=some (0,1)∧tfo prog 204 0=some 0∧Ai prog 204 1=some (1,1)∧tfo prog 204 1=some 1∧Ai prog 204 2=some (2,1)∧tfo prog 204 2=some 2∧Ai prog 204 3=some (3,1)∧tfo prog 204 3=some 3∧Ai prog 204 4=some (4,8)∧tfo prog 204 4=some 4∧AO prog 204=some [(0,1),(1,1),(2,1),(3,1),(4,8)]:=by and_intros<;>kernel_rfl
@[go_sem] theorem pB:Ae prog 205=some 4∧Ak prog 205=some 1∧Am prog 205=some 8∧Al prog 205=some false∧AA prog 205=some 251:=by and_intros<;>kernel_rfl
@[go_sem] theorem oP:AF prog 207=some (.agg #[.pointer none,.string ⟨#[]⟩,.int .i64 0,.int .u8 0,.int .u8 0,.int .i64 0,.int .i64 0,.int .i64 0,.int .i64 0,.int .i64 0,.int .i64 0,.int .i64 0,.int .i64 0,.int .i64 0,.pointer none]):=by kernel_rfl
@[go_sem] theorem nn:Ae prog 207=some 7∧Ak prog 207=some 15∧Am prog 207=some 120∧Al prog 207=some true∧AG prog 207=some 15∧Ai prog 207 0=some (0,1)∧tfo prog 207 0=some 0∧Ai prog 207 1=some (1,1)∧tfo prog 207 1=some 1∧Ai prog 207 2=some (2,12)∧tfo prog 207 2=some 2∧Ai prog 207 3=some (14,1)∧tfo prog 207 3=some 14∧AO prog 207=some [(0,1),(1,1),(2,12),(14,1)]:=by and_intros<;>kernel_rfl
@[go_sem] theorem px:AF prog 222=some (.agg #[.int .i64 0,.int .i64 0,.int .i64 0]):=by kernel_rfl
@[go_sem] theorem oY:Ae prog 222=some 2∧Ak prog 222=some 3∧Am prog 222=some 24∧Al prog 222=some true∧Bk prog 222=some (3,1)∧AG prog 222=some 3∧AA prog 222=some 3∧Cq prog 222=some 3:=by and_intros<;>kernel_rfl
@[go_sem] theorem oO:Ae prog 240=some 4∧Ak prog 240=some 1∧Am prog 240=some 8∧Al prog 240=some false∧AA prog 240=some 204:=by and_intros<;>kernel_rfl
@[go_sem] theorem qI:Ae prog 243=some 4∧Ak prog 243=some 1∧Am prog 243=some 8∧Al prog 243=some false∧AA prog 243=some 202:=by and_intros<;>kernel_rfl
@[go_sem] theorem oJ:Ae prog 249=some 7∧Ak prog 249=some 3∧Am prog 249=some 40∧Al prog 249=some true∧AG prog 249=some 3∧Ai prog 249 0=some (0,1)∧tfo prog 249 0=some 0∧Ai prog 249 1=some (1,1)∧tfo prog 249 1=some 1∧Ai prog 249 2=some (2,1)∧tfo prog 249 2=some 2∧AO prog 249=some [(0,1),(1,1),(2,1)]:=by and_intros<;>kernel_rfl
@[go_sem] theorem ld:AF prog 251=some (.agg #[.int .i64 0,.int .i64 0,.slice none 0 0]):=by kernel_rfl
@[go_sem] theorem nS:Ae prog 251=some 7∧Ak prog 251=some 3∧Am prog 251=some 40∧Al prog 251=some true∧AG prog 251=some 3∧Ai prog 251 0=some (0,3)∧tfo prog 251 0=some 0∧AO prog 251=some [(0,3)]:=by and_intros<;>kernel_rfl
@[go_sem] theorem lh:Ae prog 253=some 7∧Ak prog 253=some 6∧Am prog 253=some 24∧Al prog 253=some true∧AG prog 253=some 6∧Ai prog 253 0=some (0,1)∧tfo prog 253 0=some 0∧Ai prog 253 1=some (1,1)∧tfo prog 253 1=some 1∧Ai prog 253 2=some (2,4)∧tfo prog 253 2=some 2∧AO prog 253=some [(0,1),(1,1),(2,4)]:=by and_intros<;>kernel_rfl
@[go_sem] theorem mV:Ae prog 254=some 2∧Ak prog 254=some 12∧Am prog 254=some 48∧Al prog 254=some true∧Bk prog 254=some (2,6)∧AG prog 254=some 12∧AA prog 254=some 253∧Cq prog 254=some 2:=by and_intros<;>kernel_rfl
@[go_sem] theorem lG:Ae prog 256=some 7∧Ak prog 256=some 233∧Am prog 256=some 424∧Al prog 256=some true∧AG prog 256=some 233∧Ai prog 256 0=some (0,1)∧tfo prog 256 0=some 0∧Ai prog 256 1=some (1,1)∧tfo prog 256 1=some 1∧Ai prog 256 2=some (2,6)∧tfo prog 256 2=some 2∧Ai prog 256 3=some (8,12)∧tfo prog 256 3=some 8∧Ai prog 256 4=some (20,1)∧tfo prog 256 4=some 20∧Ai prog 256 5=some (21,6)∧tfo prog 256 5=some 21∧Ai prog 256 6=some (27,1)∧tfo prog 256 6=some 27∧Ai prog 256 7=some (28,1)∧tfo prog 256 7=some 28∧Ai prog 256 8=some (29,200)∧tfo prog 256 8=some 29∧Ai prog 256 9=some (229,1)∧tfo prog 256 9=some 229∧Ai prog 256 10=some (230,1)∧tfo prog 256 10=some 230∧Ai prog 256 11=some (231,1)∧tfo prog 256 11=some 231∧Ai prog 256 12=some (232,1)∧tfo prog 256 12=some 232∧AO prog 256=some [(0,1),(1,1),(2,6),(8,12),(20,1),(21,6),(27,1),(28,1),(29,200),(229,1),(230,1),(231,1),(232,1)]:=by and_intros<;>kernel_rfl
@[go_sem] theorem lN:AM prog 260=some 1:=by kernel_rfl
@[go_sem] theorem HX:tmk prog 260=some (4,1,[.bool false],1):=by kernel_rfl
@[go_sem] theorem nW:AM prog 278=some 5:=by kernel_rfl
@[go_sem] theorem Vk:BO prog 278=some (281,5,40):=by kernel_rfl
@[go_sem] theorem la:Ae prog 278=some 1∧Ak prog 278=some 1∧Am prog 278=some 24∧Al prog 278=some false∧tbs prog 278=some (281,5,[.pointer none,.int .i64 0,.int .i64 0,.int .i64 0,.int .i64 0])∧AA prog 278=some 281:=by and_intros<;>kernel_rfl
@[go_sem] theorem nG:AF prog 281=some (.agg #[.pointer none,.int .i64 0,.int .i64 0,.int .i64 0,.int .i64 0]):=by kernel_rfl
@[go_sem] theorem nE:Ae prog 281=some 7∧Ak prog 281=some 5∧Am prog 281=some 40∧Al prog 281=some true∧AG prog 281=some 5∧Ai prog 281 0=some (0,1)∧tfo prog 281 0=some 0∧Ai prog 281 1=some (1,4)∧tfo prog 281 1=some 1∧AO prog 281=some [(0,1),(1,4)]:=by and_intros<;>kernel_rfl
@[go_sem] theorem nA:AF prog 296=some (.agg #[.int .i32 0,.int .i32 0,.int .i64 0]):=by kernel_rfl
@[go_sem] theorem Tl:Ae prog 296=some 7∧Ak prog 296=some 3∧Am prog 296=some 16∧Al prog 296=some true∧BI prog 296=some [(0,8),(1,8),(2,8)]∧AG prog 296=some 3∧Ai prog 296 0=some (0,1)∧tfo prog 296 0=some 0∧Ai prog 296 1=some (1,1)∧tfo prog 296 1=some 1∧Ai prog 296 2=some (2,1)∧tfo prog 296 2=some 2∧AO prog 296=some [(0,1),(1,1),(2,1)]:=by and_intros<;>kernel_rfl
@[go_sem] theorem cj:AF prog 297=some (.agg #[.int .i32 0,.int .i32 0,.int .i64 0,.int .i32 0,.int .i32 0,.int .i64 0,.int .i32 0,.int .i32 0,.int .i64 0,.int .i32 0,.int .i32 0,.int .i64 0,.int .i32 0,.int .i32 0,.int .i64 0,.int .i32 0,.int .i32 0,.int .i64 0,.int .i32 0,.int .i32 0,.int .i64 0,.int .i32 0,.int .i32 0,.int .i64 0,.int .i32 0,.int .i32 0,.int .i64 0,.int .i32 0,.int .i32 0,.int .i64 0,.int .i32 0,.int .i32 0,.int .i64 0,.int .i32 0,.int .i32 0,.int .i64 0,.int .i32 0,.int .i32 0,.int .i64 0,.int .i32 0,.int .i32 0,.int .i64 0,.int .i32 0,.int .i32 0,.int .i64 0,.int .i32 0,.int .i32 0,.int .i64 0]):=by kernel_rfl
@[go_sem] theorem Gu:Ae prog 297=some 2∧Ak prog 297=some 48∧Am prog 297=some 256∧Al prog 297=some true∧Bk prog 297=some (16,3)∧AG prog 297=some 48∧AA prog 297=some 296∧Cq prog 297=some 16:=by and_intros<;>kernel_rfl
@[go_sem] theorem mi:AF prog 322=some (.agg #[.int .u8 0,.int .u8 0,.int .u8 0,.int .u8 0,.int .u8 0,.int .u8 0,.int .u8 0,.int .u8 0]):=by kernel_rfl
@[go_sem] theorem pD:Ae prog 322=some 2∧Ak prog 322=some 8∧Am prog 322=some 8∧Al prog 322=some true∧Bk prog 322=some (8,1)∧AG prog 322=some 8∧AA prog 322=some 5∧Cq prog 322=some 8:=by and_intros<;>kernel_rfl
@[go_sem] theorem qh:HJ prog 50 0=some 3:=by kernel_rfl
@[go_sem] theorem nB:HJ prog 50 1=some 3:=by kernel_rfl
def NJ(a:Value)(K:rD):rE:=xA 36 λb=>xC 56 [.const a] [81] 4 λc=>xW c (xL 36 b λc=>K c)<|Ag<|xM a λc=>qF 140 c 0 λc=>qL 138 c λc=>xM a λd=>qF 140 d 1 λd=>qL 42 d λd=>xC 57 [.const c,.const d] [138,42] 137 λd=>RngX prog d 2 (λvs1 bg1 kn1 _ _=>xA 42 λd=>xS 42 d (BA vs1 1)<|bg1<|xC 58 [.const (BA vs1 0)] [138] 4 λc=>xW c (Ag<|qL 36 b λc=>xP (.nilCheck (.const (BA vs1 0))) 0 λe=>qF 143 e 0 λe=>qL 3 e λe=>qL 42 d λd=>xQ (.build 44 #[(0,.const e),(1,.const d)]) 44 λd=>xT (qZ 36 b c)<|xQ (.buildSlice 36 1 #[(0,.const d)]) 36 λd=>xT (qZ 36 b c)<|xV c d 36 36 36 λd=>xS 36 b d<|kn1)<|kn1) (λr1=>xL 36 b λd=>B0 (Cr r1 (.tuple #[]))<|K d) (λ_ _=>False) []
theorem Uq(a:Value):Lk 23 #[a] (NJ a):=lk [a] [] func23
theorem H3:Ad prog 23:=bd func23
def Rv(a b:Value)(K:rD):rE:=xC 89 [.const a,.const b] [3,3] 4 λc=>xN 4 c λc=>xW c (K (.pointer none))<|xQ (.build 143 #[(0,.const (.int .i64 1))]) 143 λc=>xQ (.box 143 (.const c)) 138 λc=>xQ (.build 42 #[(2,.const a),(3,.const b)]) 42 λd=>xQ (.build 140 #[(0,.const c),(1,.const d),(2,.const (.int .i64 1))]) 140 λd=>xQ (.box 140 (.const d)) 81 λd=>K d
theorem XC(a b:Value):Lk 45 #[a,b] (Rv a b):=lk [a,b] [] func45
theorem XQ:Ad prog 45:=bd func45
def Lg(a:Value)(K:rD):rE:=Join1 (λb=>xO .eql 81 a (.pointer none) λc=>xW c (b (.bool true))<|xH a λc=>xF 140 c 0 λc=>xL 138 c λc=>xO .eql 138 c (.pointer none) λc=>b c) λc=>K c
theorem YW(a:Value):Lk 56 #[a] (Lg a):=lk [a] [(3,[2])] func56
theorem J9:Ad prog 56:=bd func56
def NA(a b:Value)(K:rD):rE:=xB 138 a λc=>xB 42 b λd=>xQ (.makeFunc (.func 113) #[] #[.const c,.const d]) 136 λd=>K d
theorem VO(a b:Value):Lk 57 #[a,b] (NA a b):=lk [a,b] [] func57
theorem RV:Ad prog 57:=bd func57
def PY(a:Value)(K:rD):rE:=xH a λb=>xF 143 b 4 λb=>xL 138 b λb=>xO .eql 138 b (.pointer none) λb=>K b
theorem dJ(a:Value):Lk 58 #[a] (PY a):=lk [a] [] func58
theorem ES:Ad prog 58:=bd func58
def LC(a:Value)(K:rD):rE:=xA 110 λb=>xC 56 [.const a] [81] 4 λc=>xW c (xL 110 b λc=>K c)<|Ag<|xM a λc=>qF 140 c 0 λc=>qL 138 c λc=>xM a λd=>qF 140 d 1 λd=>qL 42 d λd=>xC 57 [.const c,.const d] [138,42] 137 λd=>RngX prog d 2 (λvs1 bg1 kn1 _ _=>xA 42 λd=>xS 42 d (BA vs1 1)<|bg1<|xC 58 [.const (BA vs1 0)] [138] 4 λc=>xN 4 c λc=>xW c (xL 42 d λc=>xC 150 [.const (BA vs1 0),.const c] [138,42] 231 λc=>xE c 0 42 λd=>xE c 1 42 λe=>xE c 2 42 λc=>xA 42 λf=>xA 42 λg=>xA 42 λh=>xS 42 f d<|xS 42 g e<|xS 42 h c<|xL 110 b λh=>xL 42 g λg=>xQ (.buildSlice 110 1 #[(0,.const g)]) 110 λg=>xV h g 110 110 110 λg=>xS 110 b g<|kn1)<|kn1) (λr1=>xL 110 b λg=>B0 (Cr r1 (.tuple #[]))<|K g) (λ_ _=>False) []
theorem eE(a:Value):Lk 80 #[a] (LC a):=lk [a] [] func80
theorem dG:Ad prog 80:=bd func80
def Pv(a b:Value)(K:rD):rE:=Join1 (λc=>xO .geq 3 a (.int .i64 1) λd=>xW d (xO .leq 3 a (.int .i64 200) λd=>xW d (xO .geq 3 b (.int .i64 1) λd=>xW d (xO .leq 3 b (.int .i64 60) λd=>c d)<|c (.bool false))<|c (.bool false))<|c (.bool false)) λd=>K d
theorem eh(a b:Value):Lk 89 #[a,b] (Pv a b):=lk [a,b] [(3,[4])] func89
theorem VC:Ad prog 89:=bd func89
def MA(a b:Value)(K:rD):rE:=xC 23 [.const a] [81] 36 λc=>xU c 36 λd=>Loop1 (.int .i64 0) λe f=>xO .lss 3 e d λd=>xW d (xI 36 c e λd=>xL 44 d λd=>xA 44 λg=>xS 44 g d<|xF 44 g 0 λg=>xL 3 g λg=>xO .eql 3 g b λg=>xW g (xO .add 3 e (.int .i64 1) λg=>xU c 36 λd=>xO .rem 3 g d λd=>xI 36 c d λd=>xF 44 d 0 λd=>xL 3 d λd=>K d)<|xO .add 3 e (.int .i64 1) λd=>f d)<|K (.int .i64 0)
theorem YY(a b:Value):Lk 100 #[a,b] (MA a b):=lk [a,b] [(8,[12])] func100
theorem kB:Ad prog 100:=bd func100
def IB(a b c:Value)(K:rD):rE:=xL 138 b λd=>xL 42 c λe=>xC 114 [.const d,.const e,.const a] [138,42,212] 4 λ_=>K (.tuple #[])
theorem NG(a b c:Value):Lk 113 #[a,b,c] (IB a b c):=lk [a,b,c] [] func113
theorem OQ:Ad prog 113:=bd func113
def Jl(a b c:Value)(K:rD):rE:=xB 42 b λd=>xC 58 [.const a] [138] 4 λe=>xW e (xL 42 d λe=>xQ (.call { callee:=.value (.const c),args:=#[.const a,.const e],argTypes:=#[138,42] }) 4 λe=>K e)<|xL 42 d λe=>xC 150 [.const a,.const e] [138,42] 231 λe=>xE e 0 42 λf=>xE e 1 42 λg=>xE e 2 42 λe=>xA 42 λh=>xA 42 λi=>xA 42 λj=>xS 42 h f<|xS 42 i g<|xS 42 j e<|Ag<|Join1 (λi=>xM a λe=>qF 143 e 4 λe=>qL 138 e λe=>qL 42 h λh=>xC 114 [.const e,.const h,.const c] [138,42,212] 4 λh=>xW h (qL 42 d λh=>xQ (.call { callee:=.value (.const c),args:=#[.const a,.const h],argTypes:=#[138,42] }) 4 λh=>xW h (xM a λh=>qF 143 h 5 λh=>qL 138 h λh=>qL 42 j λj=>xC 114 [.const h,.const j,.const c] [138,42,212] 4 λj=>i j)<|i (.bool false))<|i (.bool false)) λj=>K j
theorem Q8(a b c:Value):Lk 114 #[a,b,c] (Jl a b c):=lk [a,b,c] [(13,[6])] func114
theorem HW:Ad prog 114:=bd func114
def Nh(a b:Value)(K:rD):rE:=xB 42 b λc=>xA 42 λd=>xA 42 λe=>xA 42 λf=>Ag<|qL 42 c λg=>xM a λh=>qF 143 h 1 λh=>qL 4 h λh=>xC 173 [.const g,.const h] [42,4] 3 λh=>xC 193 [.const a,.const h] [138,3] 3 λh=>Ag<|qL 42 c λg=>qL 42 c λi=>qL 42 c λj=>xS 42 d g<|xT (qZ 42 c j)<|xT (qZ 42 c i)<|xS 42 e i<|xT (qZ 42 c j)<|xS 42 f j<|Join0 (λj=>xH a λi=>xF 143 i 1 λi=>xL 4 i λi=>xW i (xF 42 d 2 λi=>xS 3 i h<|xF 42 e 2 λi=>xS 3 i (.int .i64 1)<|xF 42 c 0 λi=>xL 3 i λi=>xO .add 3 i h λi=>xF 42 e 0 λg=>xS 3 g i<|Ag<|qF 42 c 0 λg=>qL 3 g λg=>qP .add 3 g h λg=>qP .add 3 g (.int .i64 1) λg=>qF 42 c 2 λi=>qL 3 i λl=>qP .sub 3 l h λm=>qP .sub 3 m (.int .i64 1) λm=>qF 42 f 0 λn=>xS 3 n g<|xT (qZ 3 i l)<|qF 42 f 2 λn=>xS 3 n m<|j)<|xF 42 d 3 λn=>xS 3 n h<|xF 42 e 3 λn=>xS 3 n (.int .i64 1)<|xF 42 c 1 λn=>xL 3 n λn=>xO .add 3 n h λn=>xF 42 e 1 λm=>xS 3 m n<|Ag<|qF 42 c 1 λm=>qL 3 m λm=>qP .add 3 m h λm=>qP .add 3 m (.int .i64 1) λm=>qF 42 c 3 λc=>qL 3 c λn=>qP .sub 3 n h λh=>qP .sub 3 h (.int .i64 1) λh=>qF 42 f 1 λl=>xS 3 l m<|xT (qZ 3 c n)<|qF 42 f 3 λl=>xS 3 l h<|j)<|Ag<|qL 42 d λl=>qL 42 e λh=>qL 42 f λj=>xS 42 d l<|xT (qZ 42 f j)<|xT (qZ 42 e h)<|xS 42 e h<|xT (qZ 42 f j)<|xS 42 f j<|xD 42 d λj=>xD 42 e λe=>xD 42 f λf=>K (.tuple #[j,e,f])
theorem XZ(a b:Value):Lk 150 #[a,b] (Nh a b):=lk [a,b] [(6,[])] func150
theorem J4:Ad prog 150:=bd func150
def Te(a b c:Value)(K:rD):rE:=xB 81 a λd=>xB 3 b λe=>xB 4 c λf=>xL 81 d λg=>xC 56 [.const g] [81] 4 λg=>xW g (xC 19 [.const (.int .i64 13)] [76] 32 λg=>K (.tuple #[(.int .i64 0),g]))<|xL 81 d λg=>xC 23 [.const g] [81] 36 λg=>xA 36 λh=>xS 36 h g<|xA 3 λg=>xS 3 g (.int .i64 0)<|xL 81 d λi=>xL 3 e λj=>xQ (.makeFunc (.func 204) #[] #[.const f,.const h,.const d,.const g,.const e]) 277 λf=>xC 203 [.const i,.const j,.const f] [81,3,277] 4 λf=>xN 4 f λf=>xW f (xC 19 [.const (.int .i64 12)] [76] 32 λf=>K (.tuple #[(.int .i64 0),f]))<|xL 36 h λf=>xU f 36 λf=>xO .geq 3 f (.int .i64 16) λf=>xW f (xC 19 [.const (.int .i64 15)] [76] 32 λf=>K (.tuple #[(.int .i64 0),f]))<|xL 3 g λf=>xO .eql 3 f (.int .i64 0) λf=>xW f (xC 19 [.const (.int .i64 19)] [76] 32 λf=>K (.tuple #[(.int .i64 0),f]))<|xL 81 d λf=>xL 3 g λd=>xH f λf=>xF 140 f 2 λf=>xS 3 f d<|xL 3 g λf=>K (.tuple #[f,.nilIface])
theorem VS(a b c:Value):Lk 159 #[a,b,c] (Te a b c):=lk [a,b,c] [] func159
theorem jT:Ad prog 159:=bd func159
def SL(a b:Value)(K:rD):rE:=xB 42 a λc=>xW b (xF 42 c 2 λd=>xL 3 d λd=>K d)<|xF 42 c 3 λd=>xL 3 d λd=>K d
theorem cP(a b:Value):Lk 173 #[a,b] (SL a b):=lk [a,b] [] func173
theorem LG:Ad prog 173:=bd func173
def Po(a b:Value)(K:rD):rE:=Ag<|qP .sub 3 b (.int .i64 1) λc=>xM a λd=>qF 143 d 2 λd=>qL 3 d λd=>qP .mul 3 c d λd=>xM a λc=>qF 143 c 3 λc=>qL 3 c λc=>qP .quo 3 d c λc=>xP (.call { callee:=.builtin .max,args:=#[.const c,.const (.int .i64 1)],argTypes:=#[3,3] }) 3 λc=>qP .sub 3 b (.int .i64 2) λd=>xP (.call { callee:=.builtin .min,args:=#[.const c,.const d],argTypes:=#[3,3] }) 3 λd=>K d
theorem Yi(a b:Value):Lk 193 #[a,b] (Po a b):=lk [a,b] [] func193
theorem YA:Ad prog 193:=bd func193
def LZ(a b c:Value)(K:rD):rE:=Ag<|xM a λd=>qF 140 d 0 λd=>qL 138 d λd=>xM a λe=>qF 140 e 1 λe=>qL 42 e λe=>xC 206 [.const d,.const e,.const b] [138,42,3] 278 λe=>xU e 278 λd=>xO .eql 3 d (.int .i64 0) λd=>xW d (K (.bool false))<|xU e 278 λd=>xO .sub 3 d (.int .i64 1) λd=>xI 278 e d λd=>xL 281 d λd=>xA 281 λe=>xS 281 e d<|xF 281 e 0 λd=>xL 138 d λd=>xF 281 e 1 λe=>xL 42 e λe=>xQ (.call { callee:=.value (.const c),args:=#[.const d,.const e],argTypes:=#[138,42] }) 0 λ_=>K (.bool true)
theorem aS(a b c:Value):Lk 203 #[a,b,c] (LZ a b c):=lk [a,b,c] [] func203
theorem W9:Ad prog 203:=bd func203
def P7(a b c d e f g:Value)(K:rD):rE:=xB 42 b λh=>xL 42 h λh=>xL 4 c λi=>xC 173 [.const h,.const i] [42,4] 3 λi=>Join1 (λh=>xO .lss 3 i (.int .i64 3) λj=>xW j (h (.bool true))<|xL 36 d λj=>xU j 36 λj=>xO .geq 3 j (.int .i64 16) λj=>h j) λj=>xW j (K (.tuple #[]))<|xL 81 e λj=>xH j λj=>xF 140 j 2 λj=>xL 3 j λj=>xO .add 3 j (.int .i64 1) λj=>xS 3 f j<|xL 4 c λj=>xO .quo 3 i (.int .i64 2) λh=>xO .sub 3 i (.int .i64 1) λi=>xL 3 g λl=>xQ (.build 143 #[(0,.const l)]) 143 λl=>xQ (.box 143 (.const l)) 138 λl=>xL 3 f λm=>xQ (.build 143 #[(0,.const m)]) 143 λm=>xQ (.box 143 (.const m)) 138 λm=>xQ (.build 143 #[(1,.const j),(2,.const h),(3,.const i),(4,.const l),(5,.const m)]) 143 λm=>xH a λl=>xS 143 l m<|K (.tuple #[])
theorem dC(a b c d e f g:Value):Lk 204 #[a,b,c,d,e,f,g] (P7 a b c d e f g):=lk [a,b,c,d,e,f,g] [(6,[19])] func204
theorem dq:Ad prog 204:=bd func204
def KQ(a b c:Value)(K:rD):rE:=xB 42 b λd=>xL 42 d λe=>xQ (.build 281 #[(0,.const a),(1,.const e)]) 281 λe=>xA 281 λf=>xS 281 f e<|xC 58 [.const a] [138] 4 λe=>xW e (xH a λe=>xF 143 e 0 λe=>xL 3 e λe=>xO .eql 3 e c λe=>xW e (xL 281 f λe=>xQ (.buildSlice 278 1 #[(0,.const e)]) 278 λe=>K e)<|K (.slice none 0 0))<|xL 42 d λe=>xC 150 [.const a,.const e] [138,42] 231 λe=>xE e 0 42 λd=>xE e 1 42 λg=>xE e 2 42 λe=>xA 42 λh=>xA 42 λi=>xA 42 λj=>xS 42 h d<|xS 42 i g<|xS 42 j e<|Ag<|xM a λi=>qF 143 i 4 λi=>qL 138 i λi=>qL 42 h λh=>xC 206 [.const i,.const h,.const c] [138,42,3] 278 λh=>Join1 (λi=>xO .eql 278 h (.slice none 0 0) λe=>xW e (Ag<|xM a λe=>qF 143 e 5 λe=>qL 138 e λe=>qL 42 j λj=>xC 206 [.const e,.const j,.const c] [138,42,3] 278 λj=>i j)<|i h) λj=>xO .eql 278 j (.slice none 0 0) λi=>xW i (K (.slice none 0 0))<|xL 281 f λi=>xQ (.buildSlice 278 1 #[(0,.const i)]) 278 λi=>xV i j 278 278 278 λi=>K i
theorem O5(a b c:Value):Lk 206 #[a,b,c] (KQ a b c):=lk [a,b,c] [(24,[11])] func206
theorem Jf:Ad prog 206:=bd func206
def PV(a b:Value)(K:rD):rE:=xB 173 a λc=>xL 173 c λd=>xO .eql 173 d (.pointer none) λd=>xW d (K (.slice none 0 0))<|xA 123 λd=>xA 171 λe=>xQ (.makeFunc (.func 92) #[] #[.const e,.const d]) 1 λf=>xA 1 λg=>xS 1 g f<|xQ (.makeFunc (.func 93) #[] #[.const g,.const d,.const c]) 176 λf=>xU b 9 λh=>Loop1 (.int .i64 0) λi j=>xO .lss 3 i h λh=>xW h (Join0 (λh=>xQ (.index 9 (.const b) (.const i)) 5 λl=>xL 173 c λm=>xH m λm=>xF 67 m 1 λm=>xL 4 m λm=>xW m (xL 173 c λm=>xH m λm=>xF 67 m 1 λm=>xS 4 m (.bool false)<|xO .eql 5 l (.int .u8 2) λm=>xW m (xL 171 e λm=>xQ (.buildSlice 171 1 #[(0,.const l)]) 171 λn=>xV m n 171 171 171 λn=>xS 171 e n<|h)<|xC 94 [.const (.string { data:=#[37,34,111,120,99,110,112,100,91,49,50,51,52,53,54,55,56,57,104,108,107,106] }),.const l] [9,5] 3 λn=>xO .geq 3 n (.int .i64 0) λm=>xW m (xC 95 [] [] 178 λm=>xQ (.index 178 (.const m) (.const n)) 175 λm=>xQ (.call { callee:=.value (.const f),args:=#[.const m],argTypes:=#[175] }) 0 λ_=>h)<|h)<|xO .eql 5 l (.int .u8 2) λm=>xW m (xL 1 g λm=>xQ (.call { callee:=.value (.const m),args:=#[],argTypes:=#[] }) 0 λ_=>xL 173 c λm=>xH m λm=>xF 67 m 1 λm=>xS 4 m (.bool true)<|h)<|xL 173 c λm=>xH m λm=>xF 67 m 0 λm=>xL 4 m λm=>xN 4 m λm=>xW m (xL 171 e λm=>xQ (.buildSlice 171 1 #[(0,.const l)]) 171 λc=>xV m c 171 171 171 λc=>xS 171 e c<|h)<|xC 94 [.const (.string { data:=#[107,106,117,100,103,71,113] }),.const l] [9,5] 3 λc=>xO .geq 3 c (.int .i64 0) λl=>xW l (xC 96 [] [] 180 λl=>xQ (.index 180 (.const l) (.const c)) 175 λl=>xQ (.call { callee:=.value (.const f),args:=#[.const l],argTypes:=#[175] }) 0 λ_=>h)<|h)<|xO .add 3 i (.int .i64 1) λl=>j l)<|xL 1 g λl=>xQ (.call { callee:=.value (.const l),args:=#[],argTypes:=#[] }) 0 λ_=>xL 123 d λl=>K l
theorem fC(a b:Value):Lk 47 #[a,b] (PV a b):=lk [a,b] [(22,[19]),(29,[])] func47
theorem dO:Ad prog 47:=bd func47
def OA(a:Value)(K:rD):rE:=Join1 (λb=>xO .neq 173 a (.pointer none) λc=>xW c (xH a λc=>xF 67 c 0 λc=>xL 4 c λc=>b c)<|b (.bool false)) λc=>K c
theorem fe(a:Value):Lk 88 #[a] (OA a):=lk [a] [(3,[2])] func88
theorem VZ:Ad prog 88:=bd func88
def L6(a b:Value)(K:rD):rE:=xL 171 a λc=>xU c 171 λc=>xO .gtr 3 c (.int .i64 0) λc=>xW c (xL 123 b λc=>xL 171 a λd=>xQ (.convert 171 9 (.const d)) 9 λd=>xQ (.build 126 #[(0,.const (.int .i64 1)),(2,.const d)]) 126 λd=>xQ (.buildSlice 123 1 #[(0,.const d)]) 123 λd=>xV c d 123 123 123 λd=>xS 123 b d<|xS 171 a (.slice none 0 0)<|K (.tuple #[]))<|K (.tuple #[])
theorem YK(a b:Value):Lk 92 #[a,b] (L6 a b):=lk [a,b] [] func92
theorem IT:Ad prog 92:=bd func92
def OH(a b c d:Value)(K:rD):rE:=xB 175 a λe=>xL 1 b λf=>xQ (.call { callee:=.value (.const f),args:=#[],argTypes:=#[] }) 0 λ_=>xL 123 c λf=>xF 175 e 0 λg=>xL 3 g λg=>xF 175 e 1 λh=>xL 3 h λh=>xQ (.build 126 #[(0,.const g),(1,.const h)]) 126 λh=>xQ (.buildSlice 123 1 #[(0,.const h)]) 123 λh=>xV f h 123 123 123 λh=>xS 123 c h<|xF 175 e 0 λh=>xL 3 h λh=>xO .eql 3 h (.int .i64 14) λe=>xW e (xL 173 d λe=>xH e λe=>xF 67 e 0 λe=>xS 4 e (.bool true)<|K (.tuple #[]))<|xO .eql 3 h (.int .i64 12) λe=>xW e (xL 173 d λe=>xH e λe=>xF 67 e 0 λe=>xS 4 e (.bool false)<|K (.tuple #[]))<|K (.tuple #[])
theorem Vn(a b c d:Value):Lk 93 #[a,b,c,d] (OH a b c d):=lk [a,b,c,d] [] func93
theorem Qa:Ad prog 93:=bd func93
def Mn(K:rD):rE:=xA 178 λa=>xQ (.build 175 #[(0,.const (.int .i64 2)),(1,.const (.int .i64 0))]) 175 λb=>xQ (.build 175 #[(0,.const (.int .i64 3)),(1,.const (.int .i64 0))]) 175 λc=>xQ (.build 175 #[(0,.const (.int .i64 4)),(1,.const (.int .i64 0))]) 175 λd=>xQ (.build 175 #[(0,.const (.int .i64 5)),(1,.const (.int .i64 0))]) 175 λe=>xQ (.build 175 #[(0,.const (.int .i64 6)),(1,.const (.int .i64 0))]) 175 λf=>xQ (.build 175 #[(0,.const (.int .i64 7)),(1,.const (.int .i64 0))]) 175 λg=>xQ (.build 175 #[(0,.const (.int .i64 8)),(1,.const (.int .i64 0))]) 175 λh=>xQ (.build 175 #[(0,.const (.int .i64 13)),(1,.const (.int .i64 0))]) 175 λi=>xQ (.build 175 #[(0,.const (.int .i64 14)),(1,.const (.int .i64 0))]) 175 λj=>xQ (.build 175 #[(0,.const (.int .i64 9)),(1,.const (.int .i64 1))]) 175 λl=>xQ (.build 175 #[(0,.const (.int .i64 9)),(1,.const (.int .i64 2))]) 175 λm=>xQ (.build 175 #[(0,.const (.int .i64 9)),(1,.const (.int .i64 3))]) 175 λn=>xQ (.build 175 #[(0,.const (.int .i64 9)),(1,.const (.int .i64 4))]) 175 λo=>xQ (.build 175 #[(0,.const (.int .i64 9)),(1,.const (.int .i64 5))]) 175 λp=>xQ (.build 175 #[(0,.const (.int .i64 9)),(1,.const (.int .i64 6))]) 175 λq=>xQ (.build 175 #[(0,.const (.int .i64 9)),(1,.const (.int .i64 7))]) 175 λr=>xQ (.build 175 #[(0,.const (.int .i64 9)),(1,.const (.int .i64 8))]) 175 λs=>xQ (.build 175 #[(0,.const (.int .i64 9)),(1,.const (.int .i64 9))]) 175 λt=>xQ (.build 175 #[(0,.const (.int .i64 10)),(1,.const (.int .i64 1))]) 175 λu=>xQ (.build 175 #[(0,.const (.int .i64 10)),(1,.const (.int .i64 2))]) 175 λv=>xQ (.build 175 #[(0,.const (.int .i64 10)),(1,.const (.int .i64 3))]) 175 λw=>xQ (.build 175 #[(0,.const (.int .i64 10)),(1,.const (.int .i64 4))]) 175 λx=>xQ (.build 178 #[(0,.const b),(1,.const c),(2,.const d),(3,.const e),(4,.const f),(5,.const g),(6,.const h),(7,.const i),(8,.const j),(9,.const l),(10,.const m),(11,.const n),(12,.const o),(13,.const p),(14,.const q),(15,.const r),(16,.const s),(17,.const t),(18,.const u),(19,.const v),(20,.const w),(21,.const x)]) 178 λx=>xS 178 a x<|xD 178 a λx=>K x
theorem jl:Lk 95 #[] (Mn):=lk [] [] func95
theorem V3:Ad prog 95:=bd func95
def L4(K:rD):rE:=xA 180 λa=>xQ (.build 175 #[(0,.const (.int .i64 11)),(1,.const (.int .i64 1))]) 175 λb=>xQ (.build 175 #[(0,.const (.int .i64 11)),(1,.const (.int .i64 (-1)))]) 175 λc=>xQ (.build 175 #[(0,.const (.int .i64 11)),(1,.const (.int .i64 10))]) 175 λd=>xQ (.build 175 #[(0,.const (.int .i64 11)),(1,.const (.int .i64 (-10)))]) 175 λe=>xQ (.build 175 #[(0,.const (.int .i64 11)),(1,.const (.int .i64 1000))]) 175 λf=>xQ (.build 175 #[(0,.const (.int .i64 11)),(1,.const (.int .i64 (-1000)))]) 175 λg=>xQ (.build 175 #[(0,.const (.int .i64 12)),(1,.const (.int .i64 0))]) 175 λh=>xQ (.build 180 #[(0,.const b),(1,.const c),(2,.const d),(3,.const e),(4,.const f),(5,.const g),(6,.const h)]) 180 λh=>xS 180 a h<|xD 180 a λh=>K h
theorem YM:Lk 96 #[] (L4):=lk [] [] func96
theorem aM:Ad prog 96:=bd func96
def Th(a:Value)(K:rD):rE:=xO .neq 173 a (.pointer none) λb=>xW b (xH a λb=>xF 67 b 0 λb=>xS 4 b (.bool false)<|K (.tuple #[]))<|K (.tuple #[])
theorem Ue(a:Value):Lk 160 #[a] (Th a):=lk [a] [] func160
theorem WL:Ad prog 160:=bd func160
def strings_IndexByte(a b:Value)(K:rD):rE:=xC 158 [.const a,.const b] [9,5] 3 λc=>K c
theorem MK:Ad prog 94:=bd func94
end Go.Proofs.YtnpkidnbhlepkaaGreat
namespace Lyc
open Go
section
variable {P:Program}
@[go_sem] theorem Et(t ty:TypeId)(parts:List (Nat × Operand))(K:rD)(w:World)(_ht:Ae P t=some 2):
  OpX P (.build t parts.toArray) ty K w=OrK ((AF P t).bind λz=>(Bk P t).bind λnm=>(Br parts).bind (CT (CA nm.2 nm.1 0) z.cells)) (λc=>K (.agg c) w) (OpX P (.build t parts.toArray) ty K w) ():=by
 refine AK (λc h=>?_) rfl;obtain⟨z,hz,h⟩:=rP.1 h;obtain⟨⟨n,m⟩,hnm,h⟩:=rP.1 h;obtain⟨vs,hv,hf⟩:=rP.1 h;refine Bc λρ hg=>?_;unfold Bk at hnm;cases hu:P.underlying t with
 | none=>rw[hu] at hnm;simp at hnm
 | some d =>
  rw[hu] at hnm;cases d<;>simp at hnm;rename_i len e;obtain⟨hs,rfl⟩:=hnm;have hfill:=HF (λj=>some (j*m,m)) (CA m len 0) (λj x hx=>by simpa using Jh _ _ _ _ _ hx) vs z.cells c hf;have hp:=Fx hg hv;simp only[execOp,Ap,Instr.build,Sem.run_bind,Eo hz,Result.andThen_ok,run_underlying hu,Bw hs,List.map_toArray,hp,hfill];rfl
def Rx(P:Program)(t:TypeId)(parts:List (Nat × Operand)):Option (Array Value):=
 match Ae P t with
 | some 2=>(AF P t).bind λz=>(Bk P t).bind λnm=>(Br parts).bind (CT (CA nm.2 nm.1 0) z.cells)
 | _=>(AF P t).bind λz=>(AO P t).bind λpl=>(Br parts).bind (CT pl z.cells)
theorem OpX.build{t a:TypeId}{b:List (Nat × Operand)}{K:Value→World→Prop}{w:World}{c:Array Value}(h:Rx P t b=some c)(d:K (.agg c) w):OpX P (.build t b.toArray) a K w:=by
 unfold Rx at h;split at h
 ·rename_i e;rw[Et t a b K w e,h];exact d
 ·rw[R4,h];exact d
theorem KD(c:Array Value)(e:TypeId)(vs:List Value)(h:vs.length=c.size):Ao (some (.cells c e (0,0))) 0 vs=some (.cells vs.toArray e):=by
 rw[EX,rG O];unfold spl;simp [h]
theorem OpX.fresh{t a b:TypeId}{v z:Value}{M:Value→Value→World→Prop}{w:World}(c:AF P t=some z)(d:Ak P t=some v.cells.size)(e:z.cells.size=v.cells.size)(f:AV v.cells.toList=true)(h:M (.pointer (some ⟨w.heap.size,0,none⟩)) undef (w.alloc (.cells v.cells t))):
  OpX P (.alloc t) a (λp w=>OpX P (.store t (.const p) (.const v)) b (M p) w) w:=by
 rw[IF,c,Dz,D5 _ _ _ _ _ _ _ d f,heap_alloc_new _ _ _ rfl,KD _ _ _ (by simp [e]),D6,Kd _ _ _ _ rfl];exact h
def DI(P:Program)(e:TypeId)(cs:Array Value)(off:Nat):Option Value:=
 (Al P e).bind λb=>bif b then(Ak P e).map λn=>.agg (cs.extract off (off+n)) else cs[off]?
theorem HV{e:TypeId}{cs:Array Value}{off:Nat}{v:Value}(h:DI P e cs off=some v)(w:World):(part e cs off).run P w=.ok v w:=by
 unfold DI at h;obtain⟨b,a,h⟩:=rP.1 h;unfold part;cases b with
 | true =>
  simp only[cond_true] at h;obtain⟨n,c,rfl⟩:=Option.map_eq_some_iff.1 h;simp [GR a,Bw c]
 | false =>
  simp only[cond_false] at h;simp [GR a,h]
def En(P:Program)(t:TypeId)(cs:Array Value)(i:Int):Option Value:=
 (AA P t).bind λe=>(Bk P t).bind λnm=>if 0≤i∧i<nm.1 then DI P e cs (i.toNat*nm.2) else none
theorem bD(t ty:TypeId)(cs:Array Value)(k:IntKind)(i:Int)(v:Value)(h:En P t cs i=some v):PureRun P (.index t (.const (.agg cs)) (.const (.int k i))) ty v:=by
 unfold En at h;obtain⟨e,he,h⟩:=rP.1 h;obtain⟨⟨n,m⟩,hnm,h⟩:=rP.1 h;dsimp only at h;split at h
 ·rename_i hi;unfold Bk at hnm;unfold AA at he;cases hu:P.underlying t with
  | none=>rw[hu] at hnm;simp at hnm
  | some d =>
   rw[hu] at hnm he;cases d<;>simp at hnm he;rename_i len e';subst he;obtain⟨hs,rfl⟩:=hnm;exact⟨λρ hg w=>by
    have hp:=HV h w;simp [execOp,Ap,hg.1,Instr.index,asIntOf,run_underlying hu,Bw hs,hi.1,hi.2,hp]⟩
 ·simp at h
@[go_sem] theorem S5(t a:TypeId)(cs:Array Value)(k:IntKind)(i:Int)(K:rD)(w:World):OpX P (.index t (.const (.agg cs)) (.const (.int k i))) a K w=OrK (En P t cs i) (λv=>K v w) (OpX P (.index t (.const (.agg cs)) (.const (.int k i))) a K w) ():=
 AK (λv h=>(bD t a cs k i v h).op K w) rfl
def Gb(P:Program)(t:TypeId)(cs:Array Value)(i:Nat):Option Value:=
 (HJ P t i).bind λe=>(Ai P t i).bind λp=>DI P e cs p.1
theorem Qv(t a:TypeId)(cs:Array Value)(i:Nat)(v:Value)(h:Gb P t cs i=some v):PureRun P (.field t (.const (.agg cs)) i) a v:=by
 unfold Gb at h;obtain⟨e,b,h⟩:=rP.1 h;obtain⟨p,c,h⟩:=rP.1 h;unfold HJ at b;unfold Ai at c;cases g:P.underlying t with
 | none=>rw[g] at c;simp at c
 | some d =>
  rw[g] at c b;cases d with
  | struct k =>
   dsimp only[Option.bind] at c b;cases l:k[i]? with
   | none=>rw[l] at c;simp at c
   | some f =>
    rw[l] at c b;simp only[Option.map_some,Option.some.injEq] at b;obtain⟨j,m,rfl⟩:=Option.map_eq_some_iff.1 c;subst b;exact⟨λρ n w=>by
     have o:=HV h w;simp [execOp,Ap,n.1,Instr.field,run_underlying g,l,asAgg,o]⟩
  | _=>simp at c
@[go_sem] theorem nJ(t a:TypeId)(cs:Array Value)(i:Nat)(K:rD)(w:World):OpX P (.field t (.const (.agg cs)) i) a K w=OrK (Gb P t cs i) (λv=>K v w) (OpX P (.field t (.const (.agg cs)) i) a K w) ():=
 AK (λv h=>(Qv t a cs i v h).op K w) rfl
@[go_sem] theorem ow(t a:TypeId)(cs:Array Value)(i:Nat)(K:Value→Prop):PurX P (.field t (.const (.agg cs)) i) a K ()=OrK (Gb P t cs i) K (PurX P (.field t (.const (.agg cs)) i) a K ()) ():=
 AK (λv h=>(Qv t a cs i v h).pur K) rfl
attribute [go_sem] Gb DI
@[go_sem] theorem oA{α:Type}(a b:Option α)(f:α→Prop)(d:Prop):OrK (bif false then a else b) f d ()=OrK b f d ():=rfl
def chL(s:ByteArray)(i:Int):Option Value:=if 0≤i then(s[i.toNat]?).map λb=>.int .u8 b.toNat else none
theorem Ys(t a:TypeId)(s:ByteArray)(k:IntKind)(i:Int)(v:Value)(c:Ae P t=some 3)(h:chL s i=some v):PureRun P (.index t (.const (.string s)) (.const (.int k i))) a v:=by
 unfold chL at h;split at h
 ·rename_i d;obtain⟨b,e,rfl⟩:=Option.map_eq_some_iff.1 h;exact⟨λρ f w=>by simp [execOp,Ap,f.1,Instr.index,asIntOf,run_underlying (FR c),d,e]⟩
 ·simp at h
@[go_sem] theorem kZ(t a:TypeId)(s:ByteArray)(k:IntKind)(i:Int)(K:rD)(w:World)(b:Ae P t=some 3):OpX P (.index t (.const (.string s)) (.const (.int k i))) a K w=OrK (chL s i) (λv=>K v w) (OpX P (.index t (.const (.string s)) (.const (.int k i))) a K w) ():=
 AK (λv h=>(Ys t a s k i v b h).op K w) rfl
theorem NW(t a:TypeId)(b o len cap n:Nat)(k k' c:IntKind)(i j q:Int)(h:AM P t=some n)(d:0≤i)(f:i≤j)(g:j≤q)(l:q≤cap):PureRun P (.slice t (.const (.slice (some ⟨b,o,none⟩) len cap)) (some (.const (.int k i))) (some (.const (.int k' j))) (some (.const (.int c q)))) a (.slice (some ⟨b,slo o q.toNat i.toNat n,none⟩) (j.toNat-i.toNat) (q.toNat-i.toNat)):=by
 obtain⟨e,m,p⟩:=Dx h;refine⟨λρ r w=>?_⟩;have s:0≤q:=O;have u:0≤j:=O;have v:j≤max q 0:=O;have x:i≤max j 0:=O;simp [execOp,Ap,r.1,Instr.sliceAt,Instr.slice,Instr.sliceBounds,Instr.sliceBound,asIntOf,run_underlying m,Bw p,d,l,s,u,HE];rw[rG v];simp [x,HE]
@[go_sem] theorem qq(t a:TypeId)(b o len cap:Nat)(k k' c:IntKind)(i j q:Int)(K:rD)(w:World)(d:0≤i)(e:i≤j)(f:j≤q)(g:q≤cap):OpX P (.slice t (.const (.slice (some ⟨b,o,none⟩) len cap)) (some (.const (.int k i))) (some (.const (.int k' j))) (some (.const (.int c q)))) a K w=OrK (AM P t) (λn=>K (.slice (some ⟨b,slo o q.toNat i.toNat n,none⟩) (j.toNat-i.toNat) (q.toNat-i.toNat)) w) (OpX P (.slice t (.const (.slice (some ⟨b,o,none⟩) len cap)) (some (.const (.int k i))) (some (.const (.int k' j))) (some (.const (.int c q)))) a K w) ():=
 AK (λn h=>(NW t a b o len cap n k k' c i j q h d e f g).op K w) rfl
@[go_sem] theorem pM(t a:TypeId)(b o len cap:Nat)(k k' c:IntKind)(i j q:Int)(K:Value→Prop)(d:0≤i)(e:i≤j)(f:j≤q)(g:q≤cap):PurX P (.slice t (.const (.slice (some ⟨b,o,none⟩) len cap)) (some (.const (.int k i))) (some (.const (.int k' j))) (some (.const (.int c q)))) a K ()=OrK (AM P t) (λn=>K (.slice (some ⟨b,slo o q.toNat i.toNat n,none⟩) (j.toNat-i.toNat) (q.toNat-i.toNat))) (PurX P (.slice t (.const (.slice (some ⟨b,o,none⟩) len cap)) (some (.const (.int k i))) (some (.const (.int k' j))) (some (.const (.int c q)))) a K ()) ():=
 AK (λn h=>(NW t a b o len cap n k k' c i j q h d e f g).pur K) rfl
def eqI:Option Value→Option Value→Option Bool
 | some (.int k a),some (.int k' b)=>if k=k' then some (decide (a=b)) else none
 | _,_=>none
def eqB:Option Value→Option Value→Option Bool
 | some (.bool a),some (.bool b)=>some (a == b)
 | _,_=>none
def eqS:Option Value→Option Value→Option Bool
 | some (.string a),some (.string b)=>some (a.toList == b.toList)
 | _,_=>none
def eq1(k:Nat)(u v:Option Value):Option Bool:=if k=8 then eqI u v else if k=9 then eqB u v else eqS u v
theorem jv{u v:Option Value}{b:Bool}(h:eqI u v=some b):∃k x y,u=some (.int k x)∧v=some (.int k y)∧b=decide (x=y):=by
 unfold eqI at h;split at h
 ·split at h
  ·rename_i a;subst a;simp at h;exact⟨_,_,_,rfl,rfl,h.symm⟩
  ·simp at h
 ·simp at h
theorem YQ{u v:Option Value}{b:Bool}(h:eqB u v=some b):∃x y,u=some (.bool x)∧v=some (.bool y)∧b=(x == y):=by
 unfold eqB at h;split at h
 ·simp at h;exact⟨_,_,rfl,rfl,h.symm⟩
 ·simp at h
theorem ZG{u v:Option Value}{b:Bool}(h:eqS u v=some b):∃x y,u=some (.string x)∧v=some (.string y)∧b=(x.toList == y.toList):=by
 unfold eqS at h;split at h
 ·simp at h;exact⟨_,_,rfl,rfl,h.symm⟩
 ·simp at h
def CW(xs a:Array Value):List (Nat × Nat)→Option Bool
 | []=>some true
 | p::l=>(eq1 p.2 xs[p.1]? a[p.1]?).bind λb=>(CW xs a l).map λr=>b && r
@[go_sem] theorem pd(xs a:Array Value):CW xs a []=some true:=rfl
@[go_sem] theorem eH(xs a:Array Value)(p:Nat × Nat)(l:List (Nat × Nat)):CW xs a (p::l)=(eq1 p.2 xs[p.1]? a[p.1]?).bind λb=>(CW xs a l).map λr=>b && r:=rfl
@[go_sem] theorem nQ(k:IntKind)(a b:Int):eq1 8 (some (.int k a)) (some (.int k b))=some (decide (a=b)):=by simp [eq1,eqI]
theorem Xl{t:TypeId}(h:Ae P t=some 8):∃k,P.underlying t=some (.int k):=by
 unfold Ae at h;cases a:P.underlying t with
 | none=>rw[a] at h;simp at h
 | some d=>rw[a] at h;cases d<;>simp at h;exact⟨_,rfl⟩
theorem RA(d:Nat)(xs a:Array Value)(w:World):∀(c:List Field) (l:List (Nat × Nat)) (r:Bool),FX P c=some l→CW xs a l=some r→(Op.eqFields (d+1) xs a c).run P w=.ok r w
 | [],l,r,h,e=>by
  simp [FX] at h;subst h;simp [CW] at e;subst e;simp [Op.eqFields]
 | f::c,l,r,h,e=>by
  unfold FX at h;split at h
  ·simp at h
  ·rename_i g;obtain⟨k,i,h⟩:=rP.1 h;obtain⟨b,j,h⟩:=rP.1 h;cases b with
   | true=>simp at h
   | false =>
    simp only[cond_false] at h;split at h
    ·rename_i m;obtain⟨n,o,rfl⟩:=Option.map_eq_some_iff.1 h;rw[eH] at e;obtain⟨b,p,e⟩:=rP.1 e;obtain⟨q,s,rfl⟩:=Option.map_eq_some_iff.1 e;have t:=RA d xs a w c n q o s;dsimp only at p;have z:∃u v,xs[f.offset]?=some u∧a[f.offset]?=some v∧(Op.equalIn (d+1) f.type u v).run P w=.ok b w:=by
      rcases m with rfl|rfl|rfl
      ·obtain⟨A,B⟩:=Xl i;obtain⟨k,x,y,C,D,rfl⟩:=jv p;refine⟨_,_,C,D,?_⟩;simp [Op.equalIn,run_underlying B];rfl
      ·have B:=QX i;obtain⟨x,y,C,D,rfl⟩:=YQ p;exact⟨_,_,C,D,by simp [Op.equalIn,run_underlying B]⟩
      ·have B:=FR i;obtain⟨x,y,C,D,rfl⟩:=ZG p;refine⟨_,_,C,D,?_⟩;simp [Op.equalIn,run_underlying B,beq_toListBytes]
     obtain⟨u,v,B,E,F⟩:=z;have G:(part f.type xs f.offset).run P w=.ok u w:=HV (by simp [DI,j,B]) w;have H:(part f.type a f.offset).run P w=.ok v w:=HV (by simp [DI,j,E]) w;simp only[Op.eqFields,g,ne_eq,not_false_eq_true,if_true,Sem.run_bind,G,H,Result.andThen_ok,F];cases b<;>simp [t]
    ·simp at h
theorem Ob{t:TypeId}{xs a:Array Value}{l:List (Nat × Nat)}{r:Bool}(h:BI P t=some l)(b:CW xs a l=some r):
  (∀c x y w,(eqGuard c t x y (.agg xs) (.agg a)).run P w=.ok () w)∧∀w,(Op.equal t (.agg xs) (.agg a)).run P w=.ok r w:=by
 unfold BI at h;cases e:P.underlying t with
 | none=>rw[e] at h;simp at h
 | some d =>
  rw[e] at h;cases d<;>first|(simp at h;done)|skip
  rename_i f;simp only[Option.bind_some] at h;split at h
  ·simp at h
  ·rename_i g;simp only[Bool.or_eq_true,not_or,Bool.not_eq_true] at g;constructor
   ·intro c x y w;unfold eqGuard;cases c<;>simp [g.2]
   ·intro w;have i:P.fieldsOf t=f:=by simp [Program.fieldsOf,e]
    have:=run_equalIn_struct (P:=P) w 9999 t xs a (by rw[i];exact e) g.1;unfold Op.equal Op.maxDepth;rw[this,i];exact RA 9998 xs a w f.toList l r h b
theorem ia{t:TypeId}{xs a:Array Value}{r:Bool}(h:(BI P t).bind (CW xs a)=some r):PureBin P .eql t (.agg xs) (.agg a) (.bool r):=by
 obtain⟨l,b,c⟩:=rP.1 h;obtain⟨d,e⟩:=Ob b c;refine⟨λx y w=>?_⟩;unfold Bi;simp [d,binOp,e]
theorem TM{t:TypeId}{xs a:Array Value}{r:Bool}(h:(BI P t).bind (CW xs a)=some r):PureBin P .neq t (.agg xs) (.agg a) (.bool (!r)):=by
 obtain⟨l,b,c⟩:=rP.1 h;obtain⟨d,e⟩:=Ob b c;refine⟨λx y w=>?_⟩;unfold Bi;simp [d,binOp,e]
@[go_sem] theorem lY(t:TypeId)(xs a:Array Value)(K:Value→Prop)(w:World):RdB P .eql t (.agg xs) (.agg a) K w=OrK ((BI P t).bind (CW xs a)) (λr=>K (.bool r)) (RdB P .eql t (.agg xs) (.agg a) K w) ():=AK (λr h=>(ia h).rd K w) rfl
@[go_sem] theorem po(t:TypeId)(xs a:Array Value)(K:Value→Prop)(w:World):RdB P .neq t (.agg xs) (.agg a) K w=OrK ((BI P t).bind (CW xs a)) (λr=>K (.bool (!r))) (RdB P .neq t (.agg xs) (.agg a) K w) ():=AK (λr h=>(TM h).rd K w) rfl
theorem Wp(t:TypeId)(a b:ByteArray)(h:(a.size:Int)+(b.size:Int)≤9223372036854775807):PureBin P .add t (.string a) (.string b) (.string (a++b)):=⟨λx y w=>by simp [Bi,eqGuard,binOp,Op.stringOp,h]⟩
@[go_sem] theorem lT(t:TypeId)(a b:ByteArray)(K:rD)(w:World)(h:(a.size:Int)+(b.size:Int)≤9223372036854775807):BinX P .add t (.string a) (.string b) K w=K (.string (a++b)) w:=(Wp t a b h).op K w
end
section
variable {P:Program}
@[go_sem] theorem lf(v:Value)(l:List Value):BA (v::l) 0=v:=rfl
@[go_sem] theorem qy(v:Value)(l:List Value)(n:Nat):BA (v::l) (n+1)=BA l n:=rfl
theorem VE(r:Nat)(K:World→Prop)(w:World):B0 (Cr r (.tuple #[])) K w=(w.heap[r]?=some (.deferred (some []))∧K (Ab w r (.deferred none))):=by
 show E5 [.int .i64 (r:Int)] K w=_;simp [E5]
theorem ED{r:Nat}{K:World→Prop}{w:World}(h:w.heap[r]?=some (.deferred (some [])))(a:K (Ab w r (.deferred none))):B0 (Cr r (.tuple #[])) K w:=by
 rw[VE];exact⟨h,a⟩
theorem Chg.low_drew{F:List Nat}{w w':World}(h:Chg F w.drew w'):Chg F w w':=⟨h.os,h.tape,h.output,h.size,h.same⟩
theorem OpX.gen{o:Op}{a:TypeId}{K:Value→World→Prop}{w:World}(h:∀w0,w0=w→OpX P o a K w0):OpX P o a K w:=h w rfl
theorem Ar(w:World)(x:Obj):Chg [] w (w.alloc x):=(sg _ _).alloc _
theorem By(w:World)(x y:Obj):Chg [] w ((w.alloc x).alloc y):=(Ar _ _).alloc _
theorem Fo(w:World)(x y z:Obj):Chg [] w (((w.alloc x).alloc y).alloc z):=(By _ _ _).alloc _
theorem Je(w:World)(x y z u:Obj):Chg [] w ((((w.alloc x).alloc y).alloc z).alloc u):=(Fo _ _ _ _).alloc _
theorem IC(w:World)(x y z u v:Obj):Chg [] w (((((w.alloc x).alloc y).alloc z).alloc u).alloc v):=(Je _ _ _ _ _).alloc _
theorem Wf(w:World)(x y z u v t:Obj):Chg [] w ((((((w.alloc x).alloc y).alloc z).alloc u).alloc v).alloc t):=(IC _ _ _ _ _ _).alloc _
theorem Dg:∀a:List Value,Dp (a.map Operand.const)=some a
 | []=>rfl
 | v::a=>by simp [Dp,Dg a]
theorem Bm.of{f:FuncId}{us cs vs:List Value}{K:Value→World→Prop}{w:World}(a:Ad P f)(h:Calls P f (us++vs++cs).toArray w (Ac K)):Bm P (.func (.func f) us.toArray cs.toArray) vs K w:=
 λ_ _=>OpX.callV a (Dg vs) h
theorem Bm.use{yv:Value}{vs:List Value}{K K':Value→World→Prop}{w:World}{ats:Array TypeId}{ty:TypeId}(h:Bm P yv vs K w)(hk:∀v w',K v w'→K' v w'):
  OpX P (.call { callee:=.value (.const yv),args:=(vs.map Operand.const).toArray,argTypes:=ats }) ty K' w:=by
 obtain⟨h⟩:=h ats ty;refine⟨λρ hg=>?_⟩;have:=h ρ hg
 revert this
 generalize (execOp ρ _).run P w=r;intro this;unfold BB at this ⊢;split at this
 ·exact hk _ _ this
 ·exact hk _ _ this
 ·exact se this hk
 ·obtain⟨h⟩:=this;exact⟨λc cs=>let ⟨v,w',h1,h2⟩:=h c cs;⟨v,w',hk _ _ h1,h2⟩⟩
 ·exact λc cs=>by
   obtain⟨v,w',h1,h2⟩:=this c cs;exact⟨v,w',hk _ _ h1,h2⟩
 ·obtain⟨h1,⟨h2⟩⟩:=this;exact⟨h1,⟨λfr cs es he=>let ⟨v,w',h3,h4⟩:=h2 fr cs es he;⟨v,w',hk _ _ h3,h4⟩⟩⟩
 ·exact this.elim
@[go_sem] theorem nR(t a:TypeId)(K:rD)(w:World):
  OpX P (.buildSlice t 0 #[]) a K w=OrK (tbs P t) (λq=>K (.slice (some ⟨w.heap.size,0,none⟩) 0 0) (w.alloc (.cells #[] q.1))) (OpX P (.buildSlice t 0 #[]) a K w) ():=by
 refine AK (λq h=>?_) rfl;obtain⟨e,m,b⟩:=q;obtain⟨c,i,z,d,f,g,j,k,l⟩:=Hi h;refine Bc λρ n=>?_;simp [execOp,Ap,Instr.buildSlice,run_underlying c,Go.sizeOf,typeInfo,d,newRow,Instr.fill];congr 2;apply Array.ext<;>simp
theorem Fl{t a c:TypeId}{m b o d f:Nat}{pre old new post:List Value}{e:TypeId}{g h i k:Nat}{K:Value→World→Prop}{w:World}(l:AM P t=some m)(n:w.heap[b]?=some (.cells (pre++old++post).toArray e))(p:pre.length=o)(q:new.length=old.length)(r:new.length=min i d*m)(s:AV new=true)(v:∀j u,new[j]?=some u→As w.heap[g]? (h+j)=some u)(x:K (.int .i64 (min i d:Nat)) (Ab w b (.cells (pre++new++post).toArray e))):
  OpX P (.call { callee:=.builtin .copy,args:=#[.const (.slice (some ⟨b,o,none⟩) d f),.const (.slice (some ⟨g,h,none⟩) i k)],argTypes:=#[t,a] }) c K w:=by
 rw[Iv (cs:=new) (x':=.cells (pre++new++post).toArray e) l r v s (by rw[n];exact Cw pre old new post e o p q)];exact x
end
structure Rc where
 x:Int
 y:Int
 w:Int
 h:Int
deriving DecidableEq
@[go_sem] def Rc.cells(r:Rc):List Value:=[.int .i64 r.x,.int .i64 r.y,.int .i64 r.w,.int .i64 r.h]
@[go_sem] def Rc.val(r:Rc):Value:=.agg #[.int .i64 r.x,.int .i64 r.y,.int .i64 r.w,.int .i64 r.h]
def Rc.len(r:Rc)(ac:Bool):Int:=if ac then r.w else r.h
structure Rc.ok (r:Rc):Prop where
 x0:0≤r.x
 y0:0≤r.y
 w0:1≤r.w
 h0:1≤r.h
 xw:r.x+r.w≤200
 yh:r.y+r.h≤60
structure Rc.inn (r R:Rc):Prop where
 a:R.x≤r.x
 b:R.y≤r.y
 c:r.x+r.w≤R.x+R.w
 d:r.y+r.h≤R.y+R.h
theorem Rc.inn.refl(r:Rc):r.inn r:=⟨O,O,O,O⟩
theorem Rc.inn.trans{a b c:Rc}(h:a.inn b)(k:b.inn c):a.inn c:=⟨by have:=h.a;have:=k.a;omega,by have:=h.b;have:=k.b;omega,by have:=h.c;have:=k.c;omega,by have:=h.d;have:=k.d;omega⟩
inductive Mt where
 | pane (b:Nat) (id:Int)
 | split (b:Nat) (ac:Bool) (p q:Int) (l r:Mt)
namespace Mt
def blk:Mt→Nat
 | pane b _=>b
 | split b _ _ _ _ _=>b
def blks:Mt→List Nat
 | pane b _=>[b]
 | split b _ _ _ l r=>b::(l.blks++r.blks)
def ids:Mt→List Int
 | pane _ id=>[id]
 | split _ _ _ _ l r=>l.ids++r.ids
def cells:Mt→List Value
 | pane _ id=>[.int .i64 id,.bool false,.int .i64 0,.int .i64 0,.pointer none,.pointer none]
 | split _ ac p q l r=>[.int .i64 0,.bool ac,.int .i64 p,.int .i64 q,.pointer (some ⟨l.blk,0,none⟩),.pointer (some ⟨r.blk,0,none⟩)]
end Mt
def Az(n p q:Int):Int:=min (max (((n-1)*p).tdiv q) 1) (n-2)
def Bh(R:Rc)(ac:Bool)(a:Int):Rc:=if ac then { R with w:=a } else { R with h:=a }
def BY(R:Rc)(ac:Bool)(a:Int):Rc:=if ac then { R with x:=R.x+a,w:=1 } else { R with y:=R.y+a,h:=1 }
def Bp(R:Rc)(ac:Bool)(a:Int):Rc:=if ac then { R with x:=R.x+a+1,w:=R.w-a-1 } else { R with y:=R.y+a+1,h:=R.h-a-1 }
theorem Fa{n p q:Int}(b:3≤n):1≤Az n p q∧Az n p q≤n-2:=by unfold Az;omega
section
variable {R:Rc} {ac:Bool} {a:Int}
theorem HO(h:R.ok)(a0:1≤a)(b:a≤R.len ac-2):(Bh R ac a).ok∧(Bh R ac a).inn R:=by
 obtain⟨c,d,e,f,g,i⟩:=h;cases ac<;>simp only[Rc.len,Bh,if_true,Bool.false_eq_true,if_false] at*<;> exact⟨⟨by dsimp only;omega,by dsimp only;omega,by dsimp only;omega,by dsimp only;omega,by dsimp only;omega,by dsimp only;omega⟩,⟨by dsimp only;omega,by dsimp only;omega,by dsimp only;omega,by dsimp only;omega⟩⟩
theorem WB(h:R.ok)(a0:1≤a)(b:a≤R.len ac-2):(BY R ac a).ok∧(BY R ac a).inn R:=by
 obtain⟨c,d,e,f,g,i⟩:=h;cases ac<;>simp only[Rc.len,BY,if_true,Bool.false_eq_true,if_false] at*<;> exact⟨⟨by dsimp only;omega,by dsimp only;omega,by dsimp only;omega,by dsimp only;omega,by dsimp only;omega,by dsimp only;omega⟩,⟨by dsimp only;omega,by dsimp only;omega,by dsimp only;omega,by dsimp only;omega⟩⟩
theorem Ic(h:R.ok)(a0:1≤a)(b:a≤R.len ac-2):(Bp R ac a).ok∧(Bp R ac a).inn R:=by
 obtain⟨c,d,e,f,g,i⟩:=h;cases ac<;>simp only[Rc.len,Bp,if_true,Bool.false_eq_true,if_false] at*<;> exact⟨⟨by dsimp only;omega,by dsimp only;omega,by dsimp only;omega,by dsimp only;omega,by dsimp only;omega,by dsimp only;omega⟩,⟨by dsimp only;omega,by dsimp only;omega,by dsimp only;omega,by dsimp only;omega⟩⟩
end
namespace Mt
def fits:Mt→Rc→Bool
 | pane _ _,_=>true
 | split _ ac p q l r,R=>decide (3≤R.len ac) && (l.fits (Bh R ac (Az (R.len ac) p q)) && r.fits (Bp R ac (Az (R.len ac) p q)))
def all:Mt→Rc→List (Mt × Rc)
 | pane b id,R=>[(pane b id,R)]
 | split b ac p q l r,R=>l.all (Bh R ac (Az (R.len ac) p q))++(split b ac p q l r,R)::r.all (Bp R ac (Az (R.len ac) p q))
def panes:Mt→Rc→List (Int × Rc)
 | pane _ id,R=>[(id,R)]
 | split _ ac p q l r,R=>l.panes (Bh R ac (Az (R.len ac) p q))++r.panes (Bp R ac (Az (R.len ac) p q))
def bords:Mt→Rc→List Rc
 | pane _ _,_=>[]
 | split _ ac p q l r,R=>l.bords (Bh R ac (Az (R.len ac) p q))++BY R ac (Az (R.len ac) p q)::r.bords (Bp R ac (Az (R.len ac) p q))
def ok:Mt→Prop
 | pane _ id=>1≤id
 | split _ _ p q l r=>1≤p∧p≤q∧2≤q∧q≤200∧l.ok∧r.ok
def onePane:Mt × Rc→Option (Int × Rc)
 | (pane _ id,R)=>some (id,R)
 | _=>none
def oneBord:Mt × Rc→Option Rc
 | (pane _ _,_)=>none
 | (split _ ac p q _ _,R)=>some (BY R ac (Az (R.len ac) p q))
theorem all_panes:∀(t:Mt) (R:Rc),(t.all R).filterMap onePane=t.panes R
 | pane _ _,_=>rfl
 | split b ac p q l r,R=>by simp only[all,panes,List.filterMap_append,List.filterMap_cons,show onePane (split b ac p q l r,R)=none from rfl,all_panes l,all_panes r]
theorem all_bords:∀(t:Mt) (R:Rc),(t.all R).filterMap oneBord=t.bords R
 | pane _ _,_=>rfl
 | split b ac p q l r,R=>by simp only[all,bords,List.filterMap_append,List.filterMap_cons,show oneBord (split b ac p q l r,R)=some (BY R ac (Az (R.len ac) p q)) from rfl,all_bords l,all_bords r]
theorem panes_ids:∀(t:Mt) (R:Rc),(t.panes R).map (·.1)=t.ids
 | pane _ _,_=>rfl
 | split b ac p q l r,R=>by simp [panes,ids,panes_ids l,panes_ids r]
theorem panes_len(t:Mt)(R:Rc):(t.panes R).length=t.ids.length:=by rw[←panes_ids t R,List.length_map]
theorem bords_len:∀(t:Mt) (R:Rc),(t.bords R).length+1=t.ids.length
 | pane _ _,_=>rfl
 | split b ac p q l r,R=>by
  have c:=bords_len l (Bh R ac (Az (R.len ac) p q));have d:=bords_len r (Bp R ac (Az (R.len ac) p q));simp only[bords,ids,rS,List.length_cons];omega
theorem all_len:∀(t:Mt) (R:Rc),(t.all R).length+1=2*t.ids.length
 | pane _ _,_=>rfl
 | split b ac p q l r,R=>by
  have c:=all_len l (Bh R ac (Az (R.len ac) p q));have d:=all_len r (Bp R ac (Az (R.len ac) p q));simp only[all,ids,rS,List.length_cons];omega
theorem ids_pos:∀t:Mt,1≤t.ids.length
 | pane _ _=>rH _
 | split _ _ _ _ l r=>by have:=ids_pos l;simp only[ids,rS];omega
theorem ok_ids:∀{t:Mt},t.ok→∀i∈t.ids,1≤i
 | pane _ _,h,i,b=>by simp [ids] at b;subst b;exact h
 | split _ _ _ _ l r,h,i,b=>by
  rcases List.mem_append.1 b with b|b
  ·exact ok_ids h.2.2.2.2.1 i b
  ·exact ok_ids h.2.2.2.2.2 i b
theorem fits_split{b:Nat}{ac:Bool}{p q:Int}{l r:Mt}{R:Rc}(h:(split b ac p q l r).fits R=true):
  3≤R.len ac∧l.fits (Bh R ac (Az (R.len ac) p q))=true∧r.fits (Bp R ac (Az (R.len ac) p q))=true:=by
 simp only[fits,Bool.and_eq_true,decide_eq_true_eq] at h;exact h
theorem all_ok:∀{t:Mt} {R:Rc},t.fits R=true→R.ok→∀x∈t.all R,x.2.ok∧x.2.inn R∧x.1.fits x.2=true
 | pane _ _,R,_,hR,x,d=>by simp [all] at d;subst d;exact⟨hR,Rc.inn.refl _,rfl⟩
 | split b ac p q l r,R,h,hR,x,d=>by
  obtain⟨e,f,g⟩:=fits_split h;obtain⟨i,j⟩:=Fa (p:=p) (q:=q) e;obtain⟨k,m⟩:=HO hR i j;obtain⟨n,o⟩:=Ic hR i j;simp only[all,List.mem_append,rM] at d;rcases d with d|rfl|d
  ·obtain⟨a,b,c⟩:=all_ok f k x d;exact⟨a,b.trans m,c⟩
  ·exact⟨hR,Rc.inn.refl _,h⟩
  ·obtain⟨a,b,c⟩:=all_ok g n x d;exact⟨a,b.trans o,c⟩
theorem panes_ok{t:Mt}{R:Rc}(h:t.fits R=true)(c:R.ok):∀x∈t.panes R,x.2.ok∧x.2.inn R:=by
 intro x d;rw[←all_panes] at d;obtain⟨y,e,f⟩:=List.mem_filterMap.1 d;obtain⟨a,b,-⟩:=all_ok h c y e;obtain⟨m,S⟩:=y;cases m<;>simp [onePane] at f;subst f;exact⟨a,b⟩
theorem bords_ok{t:Mt}{R:Rc}(h:t.fits R=true)(d:R.ok):∀x∈t.bords R,x.ok∧x.inn R:=by
 intro x e;rw[←all_bords] at e;obtain⟨y,f,g⟩:=List.mem_filterMap.1 e;obtain⟨a,b,c⟩:=all_ok h d y f;obtain⟨m,S⟩:=y;cases m with
 | pane _ _=>simp [oneBord] at g
 | split _ ac p q l r =>
  simp [oneBord] at g;subst g;obtain⟨i,-,-⟩:=fits_split c;obtain⟨j,k⟩:=Fa (p:=p) (q:=q) i;obtain⟨n,o⟩:=WB a j k;exact⟨n,o.trans b⟩
def FJ(l:List Rc):Int:=l.foldr (λr n=>r.w*r.h+n) 0
theorem pP(l b:List Rc):FJ (l++b)=FJ l+FJ b:=by
 induction l with
 | nil=>simp [FJ]
 | cons x l c=>simp only[List.cons_append,FJ,List.foldr_cons] at *;rw[c];omega
end Mt
end Lyc
namespace Lyc
open Go
namespace Mt
def isPane:Mt→Bool
 | pane _ _=>true
 | _=>false
def put:Mt→Nat→Mt→Mt
 | pane c id,b,new=>if c=b then new else pane c id
 | split c ac p q l r,b,new=>if c=b then new else split c ac p q (l.put b new) (r.put b new)
def way:Mt→Int→Rc→List (Mt × Rc)
 | pane b i,id,R=>if i=id then[(pane b i,R)] else[]
 | split b ac p q l r,id,R =>
  if(l.way id (Bh R ac (Az (R.len ac) p q))).isEmpty=false then(split b ac p q l r,R)::l.way id (Bh R ac (Az (R.len ac) p q))
  else if(r.way id (Bp R ac (Az (R.len ac) p q))).isEmpty=false then(split b ac p q l r,R)::r.way id (Bp R ac (Az (R.len ac) p q))
  else[]
theorem Qr:∀t:Mt,t.blk∈t.blks
 | pane _ _=>by simp [blk,blks]
 | split _ _ _ _ _ _=>by simp [blk,blks]
theorem put_blk{b:Nat}{new:Mt}(a:new.blk=b):∀t:Mt,(t.put b new).blk=t.blk
 | pane c id=>by unfold put;split<;>simp_all [blk]
 | split c d p q l r=>by unfold put;split<;>simp_all [blk]
theorem HT{b:Nat}{new:Mt}:∀{t:Mt},b∉t.blks→t.put b new=t
 | pane c id,h=>by simp [blks] at h;simp [put];omega
 | split c ac p q l r,h=>by
  simp only[blks,rM,List.mem_append,not_or] at h;unfold put;rw[rF O,HT h.2.1,HT h.2.2]
theorem L5{b:Nat}{new t:Mt}(h:t.blk=b):t.put b new=new:=by
 cases t<;>simp only[blk] at h<;>simp [put,h]
theorem all_blk:∀{t:Mt} {R:Rc},∀x∈t.all R,∀y∈x.1.blks,y∈t.blks
 | pane _ _,_,x,a,y,hy=>by simp [all] at a;subst a;exact hy
 | split b ac p q l r,R,x,a,y,hy=>by
  simp only[all,List.mem_append,rM] at a;rcases a with a|rfl|a
  ·have:=all_blk x a y hy;simp [blks,this]
  ·exact hy
  ·have:=all_blk x a y hy;simp [blks,this]
theorem put_mem{b:Nat}{new:Mt}:∀{t:Mt} {x:Nat},x∈(t.put b new).blks→x∈new.blks∨x∈t.blks
 | pane c id,x,h=>by
  unfold put at h;split at h
  ·exact .inl h
  ·exact .inr h
 | split c ac p q l r,x,h=>by
  unfold put at h;split at h
  ·exact .inl h
  ·simp only[blks,rM,List.mem_append] at h;rcases h with rfl|h|h
   ·exact .inr (by simp [blks])
   ·exact(put_mem h).imp id λh=>by simp [blks,h]
   ·exact(put_mem h).imp id λh=>by simp [blks,h]
theorem put_all{new:Mt}:∀{t:Mt} {R:Rc},t.blks.Nodup→∀{s:Mt} {S:Rc},(s,S)∈t.all R →
  (∃A B,t.panes R=A++s.panes S++B∧(t.put s.blk new).panes R=A++new.panes S++B)∧(∃A B,t.ids=A++s.ids++B∧(t.put s.blk new).ids=A++new.ids++B) ∧
  (t.fits R=true→new.fits S=true→(t.put s.blk new).fits R=true)∧(t.ok→s.ok)∧(t.ok→new.ok→(t.put s.blk new).ok) ∧
  (new.blks.Nodup→(∀x∈new.blks,x∈s.blks∨x∉t.blks)→(t.put s.blk new).blks.Nodup)
 | pane b id,R,hn,s,S,h=>by
  simp only[all,List.mem_singleton,Prod.mk.injEq] at h;obtain⟨rfl,rfl⟩:=h;rw[L5 rfl];exact⟨⟨[],[],Z,Z⟩,⟨[],[],Z,Z⟩,λ_ h=>h,λh=>h,λ_ h=>h,λh _=>h⟩
 | split b ac p q l r,R,hn,s,S,h=>by
  have hn0:=hn;simp only[blks,List.nodup_cons,List.mem_append,not_or,List.nodup_append] at hn;obtain⟨⟨b1,b2⟩,n1,n2,n3⟩:=hn;simp only[all,List.mem_append,rM,Prod.mk.injEq] at h;rcases h with h|⟨rfl,rfl⟩|h
  ·obtain⟨⟨A,B,h1,h2⟩,⟨A',B',h3,h4⟩,h5,h6,h7,h8⟩:=put_all (new:=new) n1 h;have hm:=all_blk _ h _ (Qr s);have hne:b≠s.blk:=λe=>b1 (e ▸ hm);have hr:r.put s.blk new=r:=HT λhm'=>n3 _ hm _ hm' rfl;unfold put;rw[rF hne,hr];refine⟨⟨A,B++r.panes (Bp R ac (Az (R.len ac) p q)),by simp [panes,h1],by simp [panes,h2]⟩,⟨A',B'++r.ids,by simp [ids,h3],by simp [ids,h4]⟩,λhf hnf=>?_,λhk=>h6 hk.2.2.2.2.1,λhk hnk=>⟨hk.1,hk.2.1,hk.2.2.1,hk.2.2.2.1,h7 hk.2.2.2.2.1 hnk,hk.2.2.2.2.2⟩,λhnn hx=>?_⟩
   ·obtain⟨f1,f2,f3⟩:=fits_split hf;simp only[fits,Bool.and_eq_true,decide_eq_true_eq];exact⟨f1,h5 f2 hnf,f3⟩
   ·have h8':=h8 hnn λx hx'=>(hx x hx').imp id λh hm=>h (by simp [blks,hm]);have key:∀x∈(l.put s.blk new).blks,x≠b∧x∉r.blks:=by
     intro x hx';rcases put_mem hx' with h9|h9
     ·rcases hx x h9 with h10|h10
      ·have:=all_blk _ h _ h10;exact⟨λe=>b1 (e ▸ this),λhm'=>n3 _ this _ hm' rfl⟩
      ·simp only[blks,rM,List.mem_append,not_or] at h10;exact⟨h10.1,h10.2.2⟩
     ·exact⟨λe=>b1 (e ▸ h9),λhm'=>n3 _ h9 _ hm' rfl⟩
    simp only[blks,List.nodup_cons,List.mem_append,not_or,List.nodup_append];exact⟨⟨λhm'=>(key _ hm').1 rfl,b2⟩,h8',n2,λx hx' y hy e=>(key x hx').2 (e ▸ hy)⟩
  ·rw[L5 rfl];exact⟨⟨[],[],Z,Z⟩,⟨[],[],Z,Z⟩,λ_ h=>h,λh=>h,λ_ h=>h,λh _=>h⟩
  ·obtain⟨⟨A,B,h1,h2⟩,⟨A',B',h3,h4⟩,h5,h6,h7,h8⟩:=put_all (new:=new) n2 h;have hm:=all_blk _ h _ (Qr s);have hne:b≠s.blk:=λe=>b2 (e ▸ hm);have hl:l.put s.blk new=l:=HT λhm'=>n3 _ hm' _ hm rfl;unfold put;rw[rF hne,hl];refine⟨⟨l.panes (Bh R ac (Az (R.len ac) p q))++A,B,by simp [panes,h1],by simp [panes,h2]⟩,⟨l.ids++A',B',by simp [ids,h3],by simp [ids,h4]⟩,λhf hnf=>?_,λhk=>h6 hk.2.2.2.2.2,λhk hnk=>⟨hk.1,hk.2.1,hk.2.2.1,hk.2.2.2.1,hk.2.2.2.2.1,h7 hk.2.2.2.2.2 hnk⟩,λhnn hx=>?_⟩
   ·obtain⟨f1,f2,f3⟩:=fits_split hf;simp only[fits,Bool.and_eq_true,decide_eq_true_eq];exact⟨f1,f2,h5 f3 hnf⟩
   ·have h8':=h8 hnn λx hx'=>(hx x hx').imp id λh hm=>h (by simp [blks,hm]);have key:∀x∈(r.put s.blk new).blks,x≠b∧x∉l.blks:=by
     intro x hx';rcases put_mem hx' with h9|h9
     ·rcases hx x h9 with h10|h10
      ·have:=all_blk _ h _ h10;exact⟨λe=>b2 (e ▸ this),λhm'=>n3 _ hm' _ this rfl⟩
      ·simp only[blks,rM,List.mem_append,not_or] at h10;exact⟨h10.1,h10.2.1⟩
     ·exact⟨λe=>b2 (e ▸ h9),λhm'=>n3 _ hm' _ h9 rfl⟩
    simp only[blks,List.nodup_cons,List.mem_append,not_or,List.nodup_append];exact⟨⟨b1,λhm'=>(key _ hm').1 rfl⟩,n1,h8',λx hx' y hy e=>(key y hy).2 (e ▸ hx')⟩
theorem way_split{id:Int}{b:Nat}{ac:Bool}{p q:Int}{l r:Mt}{R:Rc}:
  ((split b ac p q l r).way id R=(split b ac p q l r,R)::l.way id (Bh R ac (Az (R.len ac) p q))∧l.way id (Bh R ac (Az (R.len ac) p q))≠[]) ∨
  (l.way id (Bh R ac (Az (R.len ac) p q))=[]∧(split b ac p q l r).way id R=(split b ac p q l r,R)::r.way id (Bp R ac (Az (R.len ac) p q))∧r.way id (Bp R ac (Az (R.len ac) p q))≠[]) ∨
  (l.way id (Bh R ac (Az (R.len ac) p q))=[]∧r.way id (Bp R ac (Az (R.len ac) p q))=[]∧(split b ac p q l r).way id R=[]):=by
 generalize c:l.way id (Bh R ac (Az (R.len ac) p q))=L;generalize d:r.way id (Bp R ac (Az (R.len ac) p q))=V;unfold way;rw[c,d];cases L with
 | cons a L=>exact .inl ⟨Z,Z⟩
 | nil =>
  cases V with
  | cons a V=>exact .inr (.inl ⟨rfl,Z,Z⟩)
  | nil=>exact .inr (.inr ⟨rfl,rfl,Z⟩)
theorem way_nil{id:Int}:∀{t:Mt} {R:Rc},t.way id R=[]↔id∉t.ids
 | pane b i,R=>by unfold way;split<;>simp_all [ids];omega
 | split b ac p q l r,R=>by
  have a:=way_nil (id:=id) (t:=l) (R:=Bh R ac (Az (R.len ac) p q));have c:=way_nil (id:=id) (t:=r) (R:=Bp R ac (Az (R.len ac) p q));simp only[ids,List.mem_append,not_or,←a,←c];rcases way_split (id:=id) (b:=b) (ac:=ac) (p:=p) (q:=q) (l:=l) (r:=r) (R:=R) with ⟨d,e⟩|⟨d,e,f⟩|⟨d,e,f⟩
  ·rw[d];simp [e]
  ·rw[e];simp [f]
  ·simp [d,e,f]
theorem way_all{id:Int}:∀{t:Mt} {R:Rc},∀x∈t.way id R,x∈t.all R
 | pane b i,R,x,a=>by unfold way at a;split at a<;>simp_all [all]
 | split b ac p q l r,R,x,a=>by
  simp only[all,List.mem_append,rM];rcases way_split (id:=id) (b:=b) (ac:=ac) (p:=p) (q:=q) (l:=l) (r:=r) (R:=R) with ⟨c,d⟩|⟨c,d,e⟩|⟨c,d,e⟩
  ·rw[c] at a;rcases rM.1 a with rfl|a
   ·exact .inr (.inl rfl)
   ·exact .inl (way_all x a)
  ·rw[d] at a;rcases rM.1 a with rfl|a
   ·exact .inr (.inl rfl)
   ·exact .inr (.inr (way_all x a))
  ·rw[e] at a;simp at a
theorem way_end{id:Int}:∀{t:Mt} {R:Rc},t.way id R≠[]→∃(W:List (Mt × Rc)) (c:Nat) (S:Rc),t.way id R=W++[(pane c id,S)]∧(∀x∈W,∃b ac p q l r,x.1=split b ac p q l r) ∧
  (W=[]→t=pane c id∧S=R)∧(∀V x,W=V++[x]→∃b ac p q l r,x.1=split b ac p q l r∧(l=pane c id∨r=pane c id))
 | pane b i,R,h=>by
  unfold way at h ⊢;split at h
  ·rename_i e;subst e;exact⟨[],b,R,Z,Z,λ_=>⟨rfl,rfl⟩,λV x h=>by simp at h⟩
  ·simp at h
 | split b ac p q l r,R,h=>by
  rcases way_split (id:=id) (b:=b) (ac:=ac) (p:=p) (q:=q) (l:=l) (r:=r) (R:=R) with ⟨a,d⟩|⟨a,d,f⟩|⟨a,d,f⟩
  ·obtain⟨W,c,S,e,g,j,k⟩:=way_end d;refine⟨(split b ac p q l r,R)::W,c,S,by rw[a,e];rfl,λx m=>?_,λh=>by simp at h,λV x m=>?_⟩
   ·rcases rM.1 m with rfl|m
    ·exact⟨_,_,_,_,_,_,rfl⟩
    ·exact g x m
   ·cases V with
    | nil =>
     rw[List.nil_append,List.cons.injEq] at m;obtain⟨rfl,n⟩:=m;exact⟨_,_,_,_,_,_,rfl,.inl (j n).1⟩
    | cons y V =>
     rw[List.cons_append,List.cons.injEq] at m;exact k V x m.2
  ·obtain⟨W,c,S,e,g,j,k⟩:=way_end f;refine⟨(split b ac p q l r,R)::W,c,S,by rw[d,e];rfl,λx m=>?_,λh=>by simp at h,λV x m=>?_⟩
   ·rcases rM.1 m with rfl|m
    ·exact⟨_,_,_,_,_,_,rfl⟩
    ·exact g x m
   ·cases V with
    | nil =>
     rw[List.nil_append,List.cons.injEq] at m;obtain⟨rfl,n⟩:=m;exact⟨_,_,_,_,_,_,rfl,.inr (j n).1⟩
    | cons y V =>
     rw[List.cons_append,List.cons.injEq] at m;exact k V x m.2
  ·exact absurd f h
theorem way_len{id:Int}:∀{t:Mt} {R:Rc},(t.way id R).length≤t.ids.length
 | pane b i,R=>by unfold way;split<;>simp [ids]
 | split b ac p q l r,R=>by
  have a:=way_len (id:=id) (t:=l) (R:=Bh R ac (Az (R.len ac) p q));have c:=way_len (id:=id) (t:=r) (R:=Bp R ac (Az (R.len ac) p q));have d:=ids_pos l;have e:=ids_pos r;simp only[ids,rS];rcases way_split (id:=id) (b:=b) (ac:=ac) (p:=p) (q:=q) (l:=l) (r:=r) (R:=R) with ⟨f,g⟩|⟨f,g,h⟩|⟨f,g,h⟩
  ·rw[f,List.length_cons];omega
  ·rw[g,List.length_cons];omega
  ·rw[h];simp
end Mt
structure Ly where
 root:Mt
 R:Rc
 newest:Int
structure Ly.ok (L:Ly):Prop where
 ok:L.root.ok
 R:L.R.ok
 fits:L.root.fits L.R=true
 nd:L.root.ids.Nodup
 new:∀i∈L.root.ids,i≤L.newest
 few:L.root.ids.length≤16
end Lyc
namespace Lyc
open Go
structure Trn (o o':Nat→Prop) (w w':World):Prop where
 chg:∃F,Chg F w w'∧∀x∈F,o x
 grow:∀x,o' x→o x∨w.heap.size≤x
variable {o o' o'':Nat→Prop} {w w' w'':World}
theorem Trn.size(h:Trn o o' w w'):w.heap.size≤w'.heap.size:=let ⟨_,a,_⟩:=h.chg;a.size
theorem Trn.keep(h:Trn o o' w w'){b:Nat}{x:Obj}(hb:w.heap[b]?=some x)(hn:¬o b):w'.heap[b]?=some x:=
 let ⟨_,hc,hF⟩:=h.chg;hc.keep hb λhm=>hn (hF b hm)
theorem Trn.of{F:List Nat}(a:Chg F w w')(b:∀x∈F,o x)(c:∀x,o' x→o x∨w.heap.size≤x):Trn o o' w w':=⟨⟨F,a,b⟩,c⟩
theorem Trn.of0(a:Chg [] w w')(b:∀x,o' x→o x∨w.heap.size≤x):Trn o o' w w':=⟨⟨[],a,Z⟩,b⟩
theorem Trn.refl(o:Nat→Prop)(w:World):Trn o o w w:=.of0 (sg _ _) λ_ h=>.inl h
theorem Trn.low{F:List Nat}(a:Chg F w w')(b:∀x∈F,o x∨w.heap.size≤x)(c:∀x,o' x→o x∨w.heap.size≤x):Trn o o' w w':=by
 refine⟨⟨F.filter (λx=>decide (x<w.heap.size)),a.mono λx d=>?_,λx d=>?_⟩,c⟩
 ·by_cases h:x<w.heap.size
  ·exact .inl (List.mem_filter.2 ⟨d,by simpa using h⟩)
  ·exact .inr O
 ·obtain⟨e,f⟩:=List.mem_filter.1 d;have g:x<w.heap.size:=by simpa using f
  exact(b x e).elim (λh=>h) (λh=>O)
theorem Trn.trans(h:Trn o o' w w')(k:Trn o' o'' w' w''):Trn o o'' w w'':=by
 obtain⟨F,a,b⟩:=h.chg;obtain⟨G,c,d⟩:=k.chg;have e:=a.size;refine Trn.low (F:=F++G) ((a.mono (F':=F++G) λx f=>.inl (by simp [f])).trans c λx f=>.inl (by simp [f])) (λx f=>?_) λx f=>?_
 ·rcases List.mem_append.1 f with f|f
  ·exact .inl (b x f)
  ·exact h.grow x (d x f)
 ·exact(k.grow x f).elim (h.grow x) λh=>.inr O
theorem Trn.chg0(h:Trn o o' w w')(a:Chg [] w' w''):Trn o o' w w'':=h.trans (.of0 a λ_ h=>.inl h)
theorem Trn.base{w0:World}(h:Trn o o' w w')(a:Chg [] w0 w)(b:∀x,o x→w0.heap.size≤x):Chg [] w0 w':=by
 obtain⟨F,c,d⟩:=h.chg;exact a.trans c λx e=>.inr (b x (d x e))
theorem bH(a b:Nat)(x:Int)(c:x=a):x.tmod b=((a % b:Nat):Int):=by subst c;rfl
end Lyc
namespace Go.Proofs.YtnpkidnbhlepkaaGreat
open Lyc Go Go.Proofs.Tryz
def AB(w:World):Mt→Prop
 | .pane b id=>w.heap[b]?=some (.cells #[.int .i64 id,.bool false,.int .i64 0,.int .i64 0,.pointer none,.pointer none] 143)
 | .split b a p q l r=>w.heap[b]?=some (.cells #[.int .i64 0,.bool a,.int .i64 p,.int .i64 q,.pointer (some ⟨l.blk,0,none⟩),.pointer (some ⟨r.blk,0,none⟩)] 143)∧AB w l∧AB w r
theorem AB.chg{w w':World}{F:List Nat}(a:Chg F w w'):∀{t:Mt},AB w t→(∀x∈t.blks,x∉F)→AB w' t
 | .pane b id,h,hF=>a.keep h (hF b (by simp [Mt.blks]))
 | .split b ac p q l r,h,hF=>⟨a.keep h.1 (hF b (by simp [Mt.blks])),AB.chg a h.2.1 λx c=>hF x (by simp [Mt.blks,c]),AB.chg a h.2.2 λx c=>hF x (by simp [Mt.blks,c])⟩
theorem AB.chg0{w w':World}{t:Mt}(h:AB w t)(a:Chg [] w w'):AB w' t:=AB.chg a h Z
theorem AB.tag{w:World}:∀{t:Mt},AB w t→∀x∈t.blks,∃c a,w.heap[x]?=some (.cells c 143 a)
 | .pane b id,h,x,d=>by simp [Mt.blks] at d;subst d;exact⟨_,_,h⟩
 | .split b ac p q l r,h,x,d=>by
  simp only[Mt.blks,rM,List.mem_append] at d;rcases d with rfl|d|d
  ·exact⟨_,_,h.1⟩
  ·exact AB.tag h.2.1 x d
  ·exact AB.tag h.2.2 x d
theorem AB.lt{w:World}{t:Mt}(h:AB w t):∀x∈t.blks,x<w.heap.size:=λx a=>let ⟨_,_,e⟩:=h.tag x a;Aa e
theorem AB.sub{w:World}:∀{t:Mt} {R:Rc},AB w t→∀x∈t.all R,AB w x.1
 | .pane b id,R,h,x,a=>by simp [Mt.all] at a;subst a;exact h
 | .split b ac p q l r,R,h,x,a=>by
  simp only[Mt.all,List.mem_append,rM] at a;rcases a with a|rfl|a
  ·exact AB.sub h.2.1 x a
  ·exact h
  ·exact AB.sub h.2.2 x a
theorem AB.put{w w':World}{F:List Nat}(hc:Chg F w w'){b:Nat}{new:Mt}(hb:new.blk=b)(hn:AB w' new):∀{t:Mt},AB w t→(∀x∈t.blks,x∈F→x=b)→AB w' (t.put b new)
 | .pane c id,h,hF=>by
  unfold Mt.put;split
  ·exact hn
  ·rename_i hne;exact hc.keep h λhm=>hne (hF c (by simp [Mt.blks]) hm)
 | .split c ac p q l r,h,hF=>by
  unfold Mt.put;split
  ·exact hn
  ·rename_i hne;refine⟨?_,AB.put hc hb hn h.2.1 λx hx=>hF x (by simp [Mt.blks,hx]),AB.put hc hb hn h.2.2 λx hx=>hF x (by simp [Mt.blks,hx])⟩;rw[Mt.put_blk hb,Mt.put_blk hb];exact hc.keep h.1 λhm=>hne (hF c (by simp [Mt.blks]) hm)
theorem Eh{w:World}{t:Mt}(h:AB w t):Calls prog 58 #[.pointer (some ⟨t.blk,0,none⟩)] w (Ac λv a=>v=.bool t.isPane∧a=w):=by
 apply dJ;intro K c;unfold PY;cases t with
 | pane b id =>
  simp only[AB] at h;simp only[Mt.blk];refine sq h ?_;exact c _ _ ⟨rfl,rfl⟩
 | split b d p q l r =>
  have h:=h.1;simp only[Mt.blk];refine sq h ?_;exact c _ _ ⟨rfl,rfl⟩
theorem LB(w:World)(R:Rc)(ac:Bool):Calls prog 173 #[R.val,.bool ac] w (Ac λv a=>v=.int .i64 (R.len ac)∧Chg [] w a):=by
 apply cP;intro K b;unfold SL;cases ac
 ·simp -dsimp (disch:=first|omega|(simp only[go_sem,seval];try omega))only[go_sem,seval,Rc.val];exact b _ _ ⟨rfl,Ar _ _⟩
 ·simp -dsimp (disch:=first|omega|(simp only[go_sem,seval];try omega))only[go_sem,seval,Rc.val];exact b _ _ ⟨rfl,Ar _ _⟩
theorem TA{w:World}{b:Nat}{a c d e:Value}{p q n:Int}(h:w.heap[b]?=some (.cells #[a,c,.int .i64 p,.int .i64 q,d,e] 143))(f:1≤p)(g:p≤q)(i:2≤q)(j:q≤200)(k:0≤n)(l:n≤1000):
  Calls prog 193 #[.pointer (some ⟨b,0,none⟩),.int .i64 n] w (Ac λv m=>v=.int .i64 (Az n p q)∧Chg [] w m):=by
 have o:(n-1)*p≤1000*200:=Int.le_trans (Int.mul_le_mul_of_nonneg_right (by omega:n-1≤1000) O) (Int.mul_le_mul_of_nonneg_left O O);have r:-200≤(n-1)*p:=by
  have s:(-1)*p≤(n-1)*p:=Int.mul_le_mul_of_nonneg_right O O;omega
 have t:-1000000≤((n-1)*p).tdiv q∧((n-1)*p).tdiv q≤1000000:=by
  have:=Int.natAbs_tdiv_le_natAbs ((n-1)*p) q;omega
 have u:q≠0:=O;apply Yi;intro K x;unfold Po;refine sr h u ?_;exact x _ _ ⟨rfl,(sg _ _).drew⟩
theorem Jv{w:World}{b:Nat}{ac:Bool}{p q:Int}{c d e:Value}(h:w.heap[b]?=some (.cells #[c,.bool ac,.int .i64 p,.int .i64 q,d,e] 143))(f:1≤p)(g:p≤q)(i:2≤q)(j:q≤200){R:Rc}(k:R.ok)(l:3≤R.len ac):
  Calls prog 150 #[.pointer (some ⟨b,0,none⟩),R.val] w (Ac λv m=>v=.tuple #[(Bh R ac (Az (R.len ac) p q)).val,(BY R ac (Az (R.len ac) p q)).val,(Bp R ac (Az (R.len ac) p q)).val]∧Chg [] w m):=by
 obtain⟨n,o⟩:=Fa (p:=p) (q:=q) l;obtain⟨r,s,t,u,x,y⟩:=k;have z:=Aa h;apply XZ;intro K A;unfold Nh;simp -dsimp (disch:=first|omega|(simp only[go_sem,seval];try omega))only[go_sem,seval,h,Rc.val];refine OpX.gen λw0 B=>?_;have C:Chg [] w w0:=by rw[B];exact sy
 have D:w0.heap.size=w.heap.size+4:=by rw[B];simp -dsimp (disch:=first|omega|(simp only[go_sem,seval];try omega))only[go_sem,seval]
 have E:w0.heap[w.heap.size]?=some (.cells #[.int .i64 R.x,.int .i64 R.y,.int .i64 R.w,.int .i64 R.h] 42):=by rw[B];simp -dsimp (disch:=first|omega|(simp only[go_sem,seval];try omega))only[go_sem,seval]
 have F:w0.heap[w.heap.size+1]?=some (.cells #[.int .i64 0,.int .i64 0,.int .i64 0,.int .i64 0] 42):=by rw[B];simp -dsimp (disch:=first|omega|(simp only[go_sem,seval];try omega))only[go_sem,seval]
 have G:w0.heap[w.heap.size+2]?=some (.cells #[.int .i64 0,.int .i64 0,.int .i64 0,.int .i64 0] 42):=by rw[B];simp -dsimp (disch:=first|omega|(simp only[go_sem,seval];try omega))only[go_sem,seval]
 have H:w0.heap[w.heap.size+3]?=some (.cells #[.int .i64 0,.int .i64 0,.int .i64 0,.int .i64 0] 42):=by rw[B];simp -dsimp (disch:=first|omega|(simp only[go_sem,seval];try omega))only[go_sem,seval]
 clear B;refine td LG rfl (LB w0 R ac) ?_;rintro v I ⟨rfl,J⟩;refine sn ?_;refine td YA rfl (TA ((C.trans0 J).keep h Z) f g i j O (by cases ac<;>simp only[Rc.len,if_true,Bool.false_eq_true,if_false]<;>omega)) ?_;rintro v w2 ⟨rfl,L⟩;have M:=(C.trans0 J).trans0 L;have N:=M.keep h Z;have P:=Aa N;have Q:=(J.trans0 L).keep E Z;have S:=(J.trans0 L).keep F Z;have T:=(J.trans0 L).keep G Z;have U:=(J.trans0 L).keep H Z;have V:=Aa U;generalize Az (R.len ac) p q=a at *;simp -dsimp (disch:=first|omega|(simp only[go_sem,seval];try omega))only[go_sem,seval,Q,S,T,U,N];refine Join0.inl ?_;cases ac
 ·simp only[Rc.len,Bool.false_eq_true,if_false] at o l;simp -dsimp (disch:=first|omega|(simp only[go_sem,seval];try omega))only[go_sem,seval,Q,S,T,U,N];refine A _ _ ⟨rfl,?_⟩
  (repeat (first|with_reducible exact M|with_reducible exact sg _ _|(with_reducible refine sm ?_ _ _ (by first|(left;simp;done)|(right;omega)))|with_reducible apply sk|with_reducible apply sj))
 ·simp only[Rc.len,if_true] at o l;simp -dsimp (disch:=first|omega|(simp only[go_sem,seval];try omega))only[go_sem,seval,Q,S,T,U,N];refine A _ _ ⟨rfl,?_⟩
  (repeat (first|with_reducible exact M|with_reducible exact sg _ _|(with_reducible refine sm ?_ _ _ (by first|(left;simp;done)|(right;omega)))|with_reducible apply sk|with_reducible apply sj))
theorem LF{yv:Value}(I:Nat→World→Prop)(M:World→Nat→Prop)(hM:∀j w x,I j w→M w x→x<w.heap.size)(hI:∀j w w',I j w→Chg [] w w'→I j w'∧∀x,M w' x→M w x){t:Mt}:∀{w:World} {R:Rc} (k:Nat),t.ok→R.ok→t.fits R=true→(∀j w,I j w→AB w t)→I k w →
  (∀j x w,(t.all R)[j]?=some x→I (k+j) w→Bm prog yv [.pointer (some ⟨x.1.blk,0,none⟩),x.2.val] (λv w'=>v=.bool true∧I (k+j+1) w'∧Trn (M w) (M w') w w') w) →
  Calls prog 114 #[.pointer (some ⟨t.blk,0,none⟩),R.val,yv] w (Ac λv w'=>v=.bool true∧I (k+(t.all R).length) w'∧Trn (M w) (M w') w w'):=by
 induction t with
 | pane b id =>
  intro w R k hk hR hf hT h0 hy;have h:=hT _ _ h0;simp only[Mt.blk];apply Q8;intro K hK;unfold Jl;simp -dsimp (disch:=first|omega|(simp only[go_sem,seval];try omega))only[go_sem,seval,Rc.val];have hz0:(w.alloc (.cells #[.int .i64 R.x,.int .i64 R.y,.int .i64 R.w,.int .i64 R.h] 42)).heap.size=w.heap.size+1:=by simp -dsimp (disch:=first|omega|(simp only[go_sem,seval];try omega))only[go_sem,seval]
  have a3:(w.alloc (.cells #[.int .i64 R.x,.int .i64 R.y,.int .i64 R.w,.int .i64 R.h] 42)).heap[w.heap.size]?=some (.cells #[.int .i64 R.x,.int .i64 R.y,.int .i64 R.w,.int .i64 R.h] 42):=by simp -dsimp (disch:=first|omega|(simp only[go_sem,seval];try omega))only[go_sem,seval]
  have hc1:=Ar w (.cells #[.int .i64 R.x,.int .i64 R.y,.int .i64 R.w,.int .i64 R.h] 42);generalize w.alloc _=w1 at hc1 hz0 a3 ⊢;have hp:=Eh (h.chg0 hc1);simp only[Mt.blk,Mt.isPane] at hp;refine td ES rfl (hp) ?_;rintro v w2 ⟨rfl,rfl⟩;refine sq a3 ?_;obtain⟨i1,m1⟩:=hI _ _ _ h0 hc1;have:=hy 0 _ w2 rfl i1;refine(this.use (vs:=[.pointer (some ⟨b,0,none⟩),R.val])) ?_;rintro v w3 ⟨rfl,h3,h4⟩;exact hK _ _ ⟨rfl,h3,(Trn.of0 hc1 λx hx=>.inl (m1 x hx)).trans h4⟩
 | split b ac p q l r ihl ihr =>
  intro w R k hk hR hf hT h0 hy;obtain⟨k1,k2,k3,k4,k5,k6⟩:=hk;obtain⟨h3',hfl,hfr⟩:=Mt.fits_split hf;obtain⟨s0,s1⟩:=Fa (p:=p) (q:=q) h3';obtain⟨f1,-⟩:=HO hR s0 s1;obtain⟨e1,-⟩:=Ic hR s0 s1;have g:=hT _ _ h0;obtain⟨g0,g1,g2⟩:=hT _ _ h0;have hl:=Aa g0;simp only[Mt.blk];apply Q8;intro K hK;unfold Jl;simp -dsimp (disch:=first|omega|(simp only[go_sem,seval];try omega))only[go_sem,seval,Rc.val];refine OpX.gen λw0 hw0=>?_;have hc0:Chg [] w w0:=by rw[hw0];exact sy
  have hz0:w0.heap.size=w.heap.size+1:=by rw[hw0];simp -dsimp (disch:=first|omega|(simp only[go_sem,seval];try omega))only[go_sem,seval]
  have a3:w0.heap[w.heap.size]?=some (.cells #[.int .i64 R.x,.int .i64 R.y,.int .i64 R.w,.int .i64 R.h] 42):=by rw[hw0];simp -dsimp (disch:=first|omega|(simp only[go_sem,seval];try omega))only[go_sem,seval]
  clear hw0;have hp:=Eh (g.chg0 hc0);simp only[Mt.blk,Mt.isPane] at hp;refine td ES rfl (hp) ?_;rintro v w1 ⟨rfl,rfl⟩;have h1:=hc0.keep g0 Z;refine sq a3 ?_;refine td J4 rfl (Jv h1 k1 k2 k3 k4 hR h3') ?_;rintro v w3 ⟨rfl,hc3⟩;have hc13:=hc0.trans0 hc3;have h3w:=hc13.keep g0 Z;have hl3:=Aa h3w;have a33:=hc3.keep a3 Z;simp -dsimp (disch:=first|omega|(simp only[go_sem,seval];try omega))only[go_sem,seval,Rc.val];refine sh (λv w'=>v=.bool true∧I (k+((Mt.split b ac p q l r).all R).length) w'∧Trn (M w) (M w') w w') ?_ (λv w' h=>hK _ _ h);generalize hF:Bh R ac (Az (R.len ac) p q)=F at *;generalize hS:Bp R ac (Az (R.len ac) p q)=S at *;have ea:(Mt.split b ac p q l r).all R=l.all F++(Mt.split b ac p q l r,R)::r.all S:=by rw[Mt.all,hF,hS]
  have en:((Mt.split b ac p q l r).all R).length=(l.all F).length+(r.all S).length+1:=by rw[ea];simp;omega
  refine sr h3w a33 ?_;refine OpX.gen λw4 hw4=>?_;have hc4:Chg [] w3 w4:=by rw[hw4];exact sy
  have hz4:w4.heap.size=w3.heap.size+3:=by rw[hw4];simp -dsimp (disch:=first|omega|(simp only[go_sem,seval];try omega))only[go_sem,seval]
  have a7:w4.heap[w3.heap.size+2]?=some (.cells #[.int .i64 S.x,.int .i64 S.y,.int .i64 S.w,.int .i64 S.h] 42):=by rw[hw4];simp -dsimp (disch:=first|omega|(simp only[go_sem,seval];try omega))only[go_sem,seval]
  clear hw4;have hc04:=hc13.trans0 hc4;have a34:=hc4.keep a33 Z;have hz3:=hc3.size;obtain⟨i4,m4⟩:=hI _ _ _ h0 hc04;have lt4:∀x,M w4 x→x<w.heap.size:=λx hx=>hM _ _ _ h0 (m4 x hx);have T4:Trn (M w) (M w4) w w4:=Trn.of0 hc04 λx hx=>.inl (m4 x hx);refine td HW rfl (ihl k k5 f1 hfl (λj w h=>(hT j w h).2.1) i4 (λj x w hx h=>hy j x w (by rw[ea,rL (by rcases Nat.lt_or_ge j (l.all F).length with h|h;exact h;rw[List.getElem?_eq_none h] at hx;cases hx)];exact hx) h)) ?_;rintro v w5 ⟨rfl,i5,t5⟩;have T5:=T4.trans t5;have hz5:=t5.size;have a35:=t5.keep a34 (λhm=>by have:=lt4 _ hm;omega);have a75:=t5.keep a7 (λhm=>by have:=lt4 _ hm;omega);refine sq a35 ?_;have y:=hy (l.all F).length (Mt.split b ac p q l r,R) w5 (by rw[ea];simp) i5;refine(y.use (vs:=[.pointer (some ⟨b,0,none⟩),R.val])) ?_;rintro v w6 ⟨rfl,i6,t6⟩;have T6:=T5.trans t6;have h6:=(hT _ _ i6).1;have a76:=t6.keep a75 (λhm=>(t5.grow _ hm).elim (λh=>by have:=lt4 _ h;omega) (λh=>O));have hz6:=t6.size;refine sr h6 a76 ?_;have key:∀j x w,(r.all S)[j]?=some x→I (k+(l.all F).length+1+j) w→Bm prog yv [.pointer (some ⟨x.1.blk,0,none⟩),x.2.val] (λv w'=>v=.bool true∧I (k+(l.all F).length+1+j+1) w'∧Trn (M w) (M w') w w') w:=by
   intro j x w hx h;have:=hy ((l.all F).length+1+j) x w (by rw[ea,rK O,show(l.all F).length+1+j-(l.all F).length=j+1 by omega];exact hx) (by rw[show k+((l.all F).length+1+j)=k+(l.all F).length+1+j by omega];exact h);rw[show k+((l.all F).length+1+j)+1=k+(l.all F).length+1+j+1 by omega] at this;exact this
  refine td HW rfl (ihr (k+(l.all F).length+1) k6 e1 hfr (λj w h=>(hT j w h).2.2) i6 key) ?_;rintro v w7 ⟨rfl,i7,t7⟩;refine⟨rfl,?_,T6.trans t7⟩;rw[en];have e9:k+((l.all F).length+(r.all S).length+1)=k+(l.all F).length+1+(r.all S).length:=O;rw[e9];exact i7
structure LAt (w:World) (b:Nat) (L:Ly):Prop where
 hb:w.heap[b]?=some (.cells #[.pointer (some ⟨L.root.blk,0,none⟩),.int .i64 L.R.x,.int .i64 L.R.y,.int .i64 L.R.w,.int .i64 L.R.h,.int .i64 L.newest] 140)
 tree:AB w L.root
 nd:L.root.blks.Nodup
section
variable {w w':World} {b:Nat} {L:Ly}
theorem LAt.chg{F:List Nat}(h:LAt w b L)(a:Chg F w w')(c:b∉F)(d:∀x∈L.root.blks,x∉F):LAt w' b L:=⟨a.keep h.hb c,h.tree.chg a d,h.nd⟩
theorem LAt.chg0(h:LAt w b L)(a:Chg [] w w'):LAt w' b L:=h.chg a Z Z
theorem JO(h:LAt w b L):Calls prog 56 #[.pointer (some ⟨b,0,none⟩)] w (Ac λv w'=>v=.bool false∧w'=w):=by
 have a:=h.hb;apply YW;intro K c;unfold Lg;refine Join1.inl ?_;refine sq a ?_;exact c _ _ ⟨rfl,rfl⟩
theorem P5 (w:World) (t:Nat) (R:Rc):Calls prog 57 #[.pointer (some ⟨t,0,none⟩),R.val] w (Ac λv w'=>v=.func (.func 113) #[] #[.pointer (some ⟨w.heap.size,0,none⟩),.pointer (some ⟨w.heap.size+1,0,none⟩)] ∧
  w'.heap[w.heap.size]?=some (.cells #[.pointer (some ⟨t,0,none⟩)] 138)∧w'.heap[w.heap.size+1]?=some (.cells #[.int .i64 R.x,.int .i64 R.y,.int .i64 R.w,.int .i64 R.h] 42)∧Chg [] w w'∧w'.heap.size=w.heap.size+2):=by
 apply VO
 intro K hK
 unfold NA
 simp -dsimp (disch:=first|omega|(simp only[go_sem,seval];try omega))only[go_sem,seval,Rc.val]
 refine hK _ _ ⟨rfl,?_,?_,by(repeat (first|exact Chg.refl _ _|apply Chg.drew|apply Chg.alloc|(refine Chg.set ?_ _ _ (by first|(left;simp;done)|(right;omega))))),?_⟩
 ·simp -dsimp (disch:=first|omega|(simp only[go_sem,seval];try omega))only[go_sem,seval]
 ·simp -dsimp (disch:=first|omega|(simp only[go_sem,seval];try omega))only[go_sem,seval]
 ·simp -dsimp (disch:=first|omega|(simp only[go_sem,seval];try omega))only[go_sem,seval]
def BV(p:Int × Rc):List Value:=.int .i64 p.1::p.2.cells
theorem DL(p:Int × Rc):(BV p).length=5:=rfl
theorem Z4(p:Int × Rc):AV (BV p)=true:=rfl
theorem Rc.len4(r:Rc):r.cells.length=4:=rfl
theorem Rc.okc(r:Rc):AV r.cells=true:=rfl
theorem GO(h:LAt w b L)(ok:L.ok):Calls prog 23 #[.pointer (some ⟨b,0,none⟩)] w (Ac λv w'=>Ox w.heap.size w' 44 5 BV v (L.root.panes L.R)∧Chg [] w w'):=by
 have hal:=Mt.all_len L.root L.R;have hfew:=ok.few;apply Uq;intro K hK;unfold NJ;have hKo:=hK;refine sn ?_;have hc0:=Ar w (.cells #[.slice none 0 0] 36);have hb0:=Lyc.heap_alloc_new w (.cells #[.slice none 0 0] 36) _ rfl;have hz0:(w.alloc (.cells #[.slice none 0 0] 36)).heap.size=w.heap.size+1:=by simp -dsimp (disch:=first|omega|(simp only[go_sem,seval];try omega))only[go_sem,seval]
 generalize w.alloc (.cells #[.slice none 0 0] 36)=w0 at hc0 hb0 hz0 ⊢;have h0:=h.chg0 hc0;refine td J9 rfl (JO h0) ?_;rintro v w1 ⟨rfl,rfl⟩;have hh:=h0.hb;refine sq hh ?_;refine td RV rfl (P5 w1.drew L.root.blk L.R) ?_;rintro v w2 ⟨rfl,p0,p1,hc2,hz2⟩;have hc2:Chg [] w1 w2:=hc2.low_drew;have hz2:w2.heap.size=w1.heap.size+2:=hz2;refine⟨λLp yv hyv=>⟨_,[],_,rfl,OQ,?_⟩⟩;have hl:((w2.alloc (.deferred (some []))).alloc (Lp .ready)).heap[w2.heap.size+1]?=some (Lp .ready):=by simp -dsimp (disch:=first|omega|(simp only[go_sem,seval];try omega))only[go_sem,seval]
 have hr:((w2.alloc (.deferred (some []))).alloc (Lp .ready)).heap[w2.heap.size]?=some (.deferred (some [])):=by simp -dsimp (disch:=first|omega|(simp only[go_sem,seval];try omega))only[go_sem,seval]
 have hc3:=By w2 (.deferred (some [])) (Lp .ready);have hz3:((w2.alloc (.deferred (some []))).alloc (Lp .ready)).heap.size=w2.heap.size+2:=by simp -dsimp (disch:=first|omega|(simp only[go_sem,seval];try omega))only[go_sem,seval]
 generalize (w2.alloc (.deferred (some []))).alloc (Lp .ready)=w3 at hl hr hc3 hz3 ⊢;have hc13:=hc2.trans0 hc3;have hc03:=hc0.trans0 hc13;have hb3:=hc13.keep hb0 Z;have q0:=hc3.keep (show w2.heap[w1.heap.size]?=_ from p0) Z;have q1:=hc3.keep (show w2.heap[w1.heap.size+1]?=_ from p1) Z;have hlb:=Aa hb0;have hz1:w1.heap.size=w.heap.size+1:=hz0
 let I:Nat→World→Prop:=λj w'=>w3.heap.size≤w'.heap.size∧w'.heap[w2.heap.size+1]?=some (Lp .ready)∧w'.heap[w2.heap.size]?=some (.deferred (some []))∧AB w' L.root∧∃v,w'.heap[w.heap.size]?=some (.cells #[v] 36)∧Ox w3.heap.size w' 44 5 BV v (((L.root.all L.R).take j).filterMap Mt.onePane)
 let M:World→Nat→Prop:=λw' x=>x=w.heap.size∨x=w2.heap.size+1∨∃v,w'.heap[w.heap.size]?=some (.cells #[v] 36)∧v.ownBlock=some x
 have hM:∀j w' x,I j w'→M w' x→x<w'.heap.size:=by
  rintro j w' x ⟨i0,i1,i2,i3,v,i4,i5⟩ (rfl|rfl|⟨v',e,ho⟩)
  ·exact Aa i4
  ·exact Aa i1
  ·rw[i4] at e;simp only[Option.some.injEq,Obj.cells.injEq,Array.mk.injEq,List.cons.injEq,and_true] at e;obtain⟨rfl,-⟩:=e;obtain⟨-,-,-,-,-,hown,-⟩:=i5.form;exact(hown x ho.symm).2
 have hI:∀j w' w'',I j w'→Chg [] w' w''→I j w''∧∀x,M w'' x→M w' x:=by
  rintro j w' w'' ⟨i0,i1,i2,i3,v,i4,i5⟩ hc;refine⟨⟨Nat.le_trans i0 hc.size,hc.keep i1 Z,hc.keep i2 Z,i3.chg0 hc,v,hc.keep i4 Z,i5.chg0 hc⟩,?_⟩;rintro x (rfl|rfl|⟨v',e,ho⟩)
  ·exact .inl rfl
  ·exact .inr (.inl rfl)
  ·rw[hc.keep i4 Z] at e;simp only[Option.some.injEq,Obj.cells.injEq,Array.mk.injEq,List.cons.injEq,and_true] at e;obtain⟨rfl,-⟩:=e;exact .inr (.inr ⟨v,i4,ho⟩)
 have h3:I 0 w3:=⟨rH _,hl,hr,h0.tree.chg0 hc13,_,hb3,Ox.nil _ _ _ _ _⟩;have hstep:∀j x w',(L.root.all L.R)[j]?=some x→I (0+j) w'→Bm prog yv [.pointer (some ⟨x.1.blk,0,none⟩),x.2.val] (λv w''=>v=.bool true∧I (0+j+1) w''∧Trn (M w') (M w'') w' w'') w':=by
  rintro j ⟨m,S⟩ w' hx ⟨i0,i1,i2,i3,v,i4,i5⟩;rw[Nat.zero_add] at *;refine hyv _ _ _ rfl i1 ?_;have l1:=Aa i1;have l4:=Aa i4;have hT:=i3.sub _ (List.mem_of_getElem? hx);dsimp only at hT;simp -dsimp (disch:=first|omega|(simp only[go_sem,seval];try omega))only[go_sem,seval,Rc.val];refine⟨i1,?_⟩;refine OpX.gen λw5 hw5=>?_;have hc5:Chg [w2.heap.size+1] w' w5:=by rw[hw5];exact sy
  have hz5:w5.heap.size=w'.heap.size+1:=by rw[hw5];simp -dsimp (disch:=first|omega|(simp only[go_sem,seval];try omega))only[go_sem,seval]
  have a5:w5.heap[w'.heap.size]?=some (.cells #[.int .i64 S.x,.int .i64 S.y,.int .i64 S.w,.int .i64 S.h] 42):=by rw[hw5];simp -dsimp (disch:=first|omega|(simp only[go_sem,seval];try omega))only[go_sem,seval]
  have b5:w5.heap[w2.heap.size+1]?=some (Lp .busy):=by rw[hw5];simp -dsimp (disch:=first|omega|(simp only[go_sem,seval];try omega))only[go_sem,seval]
  clear hw5;have hbl:∀x∈L.root.blks,x≠w2.heap.size+1∧x≠w.heap.size:=λx hx=>by
   have h9:=h.tree.lt x hx;have:=hc13.size;omega
  have hmb:∀x∈m.blks,x∈L.root.blks:=Mt.all_blk _ (List.mem_of_getElem? hx);have j2:=hc5.keep i2 Z;have j3:=AB.chg hc5 i3 (λx hx=>by simpa using (hbl x hx).1);have j4:=hc5.keep i4 (by simp;omega);have j5:=i5.low hc5 (by simp;omega);have hT5:=AB.chg hc5 hT (λx hx=>by simpa using (hbl x (hmb x hx)).1);refine td ES rfl (Eh hT5) ?_;rintro v' w6 ⟨rfl,rfl⟩;have ht:(L.root.all L.R).take (j+1)=(L.root.all L.R).take j++[(m,S)]:=by
   rw[List.take_add_one,hx];rfl
  cases m with
  | split mb mac mp mq ml mr =>
   simp -dsimp (disch:=first|omega|(simp only[go_sem,seval];try omega))only[go_sem,seval,Mt.isPane];refine⟨b5,?_⟩;have hc6:Chg [w2.heap.size+1] w6 (Ab w6 (w2.heap.size+1) (Lp .ready)):=(sg _ _).set _ _ Z;have hc56:=hc5.trans hc6 (λx hx=>.inl hx);have e9:((L.root.all L.R).take (j+1)).filterMap Mt.onePane=((L.root.all L.R).take j).filterMap Mt.onePane:=by rw[ht,List.filterMap_append];simp [Mt.onePane]
   have k4:=hc6.keep j4 (by simp;omega);refine⟨⟨Nat.le_trans i0 hc56.size,Aw _ _ _ _ rfl (Aa b5),hc6.keep j2 Z,AB.chg hc6 j3 (λx hx=>by simpa using (hbl x hx).1),v,k4,?_⟩,Trn.of hc56 (λx hx=>by simp at hx;exact .inr (.inl hx)) λx hx=>?_⟩
   ·rw[e9];exact j5.low hc6 (by simp;omega)
   ·rcases hx with hx|hx|⟨v',e,ho⟩
    ·exact .inl (.inl hx)
    ·exact .inl (.inr (.inl hx))
    ·rw[k4] at e;simp only[Option.some.injEq,Obj.cells.injEq,Array.mk.injEq,List.cons.injEq,and_true] at e;exact .inl (.inr (.inr ⟨v,i4,e ▸ ho⟩))
  | pane mb mid =>
   simp only[AB,Mt.blk] at hT5;obtain⟨a,cap,rfl,hcp,hsx,hown,-⟩:=j5.form;have e9:((L.root.all L.R).take (j+1)).filterMap Mt.onePane=((L.root.all L.R).take j).filterMap Mt.onePane++[(mid,S)]:=by rw[ht,List.filterMap_append];simp [Mt.onePane]
   have hln:(((L.root.all L.R).take j).filterMap Mt.onePane).length≤100:=by
    have h1:=List.length_filterMap_le Mt.onePane ((L.root.all L.R).take j);have h2:((L.root.all L.R).take j).length≤(L.root.all L.R).length:=by rw[List.length_take];omega
    omega
   simp -dsimp (disch:=first|omega|(simp only[go_sem,seval];try omega))only[go_sem,seval,Mt.isPane,Mt.blk,j4,hT5,a5];have hw6:=hc5.size;refine OpX.gen λw7 hw7=>?_;have hc7:Chg [] w6 w7:=by rw[hw7];exact sy
   have hsa:Sx w7 (some 44) BV (some ⟨w6.heap.size,0,none⟩) [(mid,S)]:=Sx.built (c:=BV (mid,S)) (by rw[hw7];simp only[BV,Rc.cells];simp -dsimp (disch:=first|omega|(simp only[go_sem,seval];try omega))only[go_sem,seval]) rfl;clear hw7;have ho7:=j5.chg0 hc7;have j47:=hc7.keep j4 Z;have b57:=hc7.keep b5 Z;have j37:=j3.chg0 hc7;have j27:=hc7.keep j2 Z;have hw7:=hc7.size;refine Bd YP DL Z4 ho7 hsa rfl (by rw[List.length_singleton];omega) O O ?_;intro v' w8 ho8 hc8 hown8;have hge:=ho7.own_ge;have j48:=hc8.keep j47 (λhm=>by have:=hge _ hm;omega);have b58:=hc8.keep b57 (λhm=>by have:=hge _ hm;omega);have j28:=hc8.keep j27 (λhm=>by have:=hge _ hm;omega);have j38:=AB.chg hc8 j37 (λx hx hm=>by have h1:=hge _ hm;have h2:=h.tree.lt x hx;have:=hc03.size;omega);have hl8:=Aa j48;have hlb8:=Aa b58;obtain⟨a8,cap8,rfl,-,-,hown8',-⟩:=ho8.form;refine sr j48 b58 ?_;have hc9:Chg [w.heap.size,w2.heap.size+1] w8 (Ab (Ab w8 w.heap.size (.cells #[.slice a8 ((((L.root.all L.R).take j).filterMap Mt.onePane)++[(mid,S)]).length cap8] 36)) (w2.heap.size+1) (Lp .ready)):=((sg _ _).set _ _ Z).set _ _ Z;have hc59:Chg ([w.heap.size,w2.heap.size+1]++(Value.slice a (((L.root.all L.R).take j).filterMap Mt.onePane).length cap).ownBlock.toList) w' (Ab (Ab w8 w.heap.size (.cells #[.slice a8 ((((L.root.all L.R).take j).filterMap Mt.onePane)++[(mid,S)]).length cap8] 36)) (w2.heap.size+1) (Lp .ready)) :=
    (((hc5.mono (F':=[w.heap.size,w2.heap.size+1]++(Value.slice a (((L.root.all L.R).take j).filterMap Mt.onePane).length cap).ownBlock.toList) Z).trans0 hc7).trans hc8 (λx hx=>.inl (List.mem_append_right _ hx))).trans hc9 (λx hx=>.inl (List.mem_append_left _ hx))
   have k4:(Ab (Ab w8 w.heap.size (.cells #[.slice a8 ((((L.root.all L.R).take j).filterMap Mt.onePane)++[(mid,S)]).length cap8] 36)) (w2.heap.size+1) (Lp .ready)).heap[w.heap.size]?=some (.cells #[.slice a8 ((((L.root.all L.R).take j).filterMap Mt.onePane)++[(mid,S)]).length cap8] 36):=by
    rw[A5 _ _ _ _ O];exact Aw _ _ _ _ rfl hl8
   refine⟨⟨Nat.le_trans i0 hc59.size,Aw _ _ _ _ rfl (by rw[EP];exact hlb8),hc9.keep j28 (by simp;omega),AB.chg hc9 j38 (λx hx=>by simpa using ⟨(hbl x hx).2,(hbl x hx).1⟩),_,k4,?_⟩,Trn.of hc59 (λx hx=>?_) λx hx=>?_⟩
   ·rw[e9];exact ho8.low hc9 (by simp;omega)
   ·simp only[List.cons_append,List.nil_append,rM,Option.mem_toList] at hx;rcases hx with hx|hx|hx
    ·exact .inl hx
    ·exact .inr (.inl hx)
    ·exact .inr (.inr ⟨_,i4,hx⟩)
   ·rcases hx with hx|hx|⟨v',e,ho⟩
    ·exact .inl (.inl hx)
    ·exact .inl (.inr (.inl hx))
    ·rw[k4] at e;simp only[Option.some.injEq,Obj.cells.injEq,Array.mk.injEq,List.cons.injEq,and_true] at e;obtain⟨rfl,-⟩:=e;rcases hown8 with h9|h9
     ·exact .inl (.inr (.inr ⟨_,i4,h9 ▸ ho⟩))
     ·rw[h9] at ho;cases ho;exact .inr O
 apply NG;intro K hK;unfold IB;refine sr q0 q1 ?_;refine td HW rfl (LF I M hM hI 0 ok.ok ok.R ok.fits (λj w h=>h.2.2.2.1) h3 hstep) ?_;rintro v w4 ⟨rfl,i4,t4⟩;rw[Nat.zero_add] at i4;obtain⟨i0,i1,i2,i3,v,i4,i5⟩:=i4;rw[List.take_length,Mt.all_panes] at i5;refine hK _ _ (.inl ⟨i1,?_⟩);have l1:=Aa i1;have hc5:Chg [w2.heap.size+1] w4 (Ab w4 (w2.heap.size+1) (Lp (.over .normal))):=(sg _ _).set _ _ Z;have k4:=hc5.keep i4 (by simp;omega);have k2:=hc5.keep i2 Z;have k5:=i5.low hc5 (by simp;omega);have t5:=t4;generalize Ab w4 _ _=w5 at hc5 k4 k2 k5 ⊢;refine sq k4 ?_;refine ED k2 ?_;have hc6:Chg [w2.heap.size] w5 (Ab w5 w2.heap.size (.deferred none)):=(sg _ _).set _ _ Z;refine hKo _ _ ⟨(k5.low hc6 (by simp;omega)).base_le O,?_⟩;have hc34:Chg [] w w4:=t4.base hc03 (λx hx=>?_)
 ·exact(hc34.trans hc5 (by simp;omega)).trans hc6 (by simp;omega)
 ·rcases hx with rfl|rfl|⟨v',e,ho⟩
  ·omega
  ·omega
  ·rw[hb3] at e;simp only[Option.some.injEq,Obj.cells.injEq,Array.mk.injEq,List.cons.injEq,and_true] at e;obtain⟨rfl,-⟩:=e;simp [Value.ownBlock] at ho
theorem Y4(h:LAt w b L)(ok:L.ok):Calls prog 80 #[.pointer (some ⟨b,0,none⟩)] w (Ac λv w'=>Ox w.heap.size w' 42 4 Rc.cells v (L.root.bords L.R)∧Chg [] w w'):=by
 have hal:=Mt.all_len L.root L.R;have hfew:=ok.few;apply eE;intro K hK;unfold LC;have hKo:=hK;refine sn ?_;have hc0:=Ar w (.cells #[.slice none 0 0] 110);have hb0:=Lyc.heap_alloc_new w (.cells #[.slice none 0 0] 110) _ rfl;have hz0:(w.alloc (.cells #[.slice none 0 0] 110)).heap.size=w.heap.size+1:=by simp -dsimp (disch:=first|omega|(simp only[go_sem,seval];try omega))only[go_sem,seval]
 generalize w.alloc (.cells #[.slice none 0 0] 110)=w0 at hc0 hb0 hz0 ⊢;have h0:=h.chg0 hc0;refine td J9 rfl (JO h0) ?_;rintro v w1 ⟨rfl,rfl⟩;have hh:=h0.hb;refine sq hh ?_;refine td RV rfl (P5 w1.drew L.root.blk L.R) ?_;rintro v w2 ⟨rfl,p0,p1,hc2,hz2⟩;have hc2:Chg [] w1 w2:=hc2.low_drew;have hz2:w2.heap.size=w1.heap.size+2:=hz2;refine⟨λLp yv hyv=>⟨_,[],_,rfl,OQ,?_⟩⟩;have hl:((w2.alloc (.deferred (some []))).alloc (Lp .ready)).heap[w2.heap.size+1]?=some (Lp .ready):=by simp -dsimp (disch:=first|omega|(simp only[go_sem,seval];try omega))only[go_sem,seval]
 have hr:((w2.alloc (.deferred (some []))).alloc (Lp .ready)).heap[w2.heap.size]?=some (.deferred (some [])):=by simp -dsimp (disch:=first|omega|(simp only[go_sem,seval];try omega))only[go_sem,seval]
 have hc3:=By w2 (.deferred (some [])) (Lp .ready);have hz3:((w2.alloc (.deferred (some []))).alloc (Lp .ready)).heap.size=w2.heap.size+2:=by simp -dsimp (disch:=first|omega|(simp only[go_sem,seval];try omega))only[go_sem,seval]
 generalize (w2.alloc (.deferred (some []))).alloc (Lp .ready)=w3 at hl hr hc3 hz3 ⊢;have hc13:=hc2.trans0 hc3;have hc03:=hc0.trans0 hc13;have hb3:=hc13.keep hb0 Z;have q0:=hc3.keep (show w2.heap[w1.heap.size]?=_ from p0) Z;have q1:=hc3.keep (show w2.heap[w1.heap.size+1]?=_ from p1) Z;have hlb:=Aa hb0;have hz1:w1.heap.size=w.heap.size+1:=hz0
 let I:Nat→World→Prop:=λj w'=>w3.heap.size≤w'.heap.size∧w'.heap[w2.heap.size+1]?=some (Lp .ready)∧w'.heap[w2.heap.size]?=some (.deferred (some []))∧AB w' L.root∧∃v,w'.heap[w.heap.size]?=some (.cells #[v] 110)∧Ox w3.heap.size w' 42 4 Rc.cells v (((L.root.all L.R).take j).filterMap Mt.oneBord)
 let M:World→Nat→Prop:=λw' x=>x=w.heap.size∨x=w2.heap.size+1∨∃v,w'.heap[w.heap.size]?=some (.cells #[v] 110)∧v.ownBlock=some x
 have hM:∀j w' x,I j w'→M w' x→x<w'.heap.size:=by
  rintro j w' x ⟨i0,i1,i2,i3,v,i4,i5⟩ (rfl|rfl|⟨v',e,ho⟩)
  ·exact Aa i4
  ·exact Aa i1
  ·rw[i4] at e;simp only[Option.some.injEq,Obj.cells.injEq,Array.mk.injEq,List.cons.injEq,and_true] at e;obtain⟨rfl,-⟩:=e;obtain⟨-,-,-,-,-,hown,-⟩:=i5.form;exact(hown x ho.symm).2
 have hI:∀j w' w'',I j w'→Chg [] w' w''→I j w''∧∀x,M w'' x→M w' x:=by
  rintro j w' w'' ⟨i0,i1,i2,i3,v,i4,i5⟩ hc;refine⟨⟨Nat.le_trans i0 hc.size,hc.keep i1 Z,hc.keep i2 Z,i3.chg0 hc,v,hc.keep i4 Z,i5.chg0 hc⟩,?_⟩;rintro x (rfl|rfl|⟨v',e,ho⟩)
  ·exact .inl rfl
  ·exact .inr (.inl rfl)
  ·rw[hc.keep i4 Z] at e;simp only[Option.some.injEq,Obj.cells.injEq,Array.mk.injEq,List.cons.injEq,and_true] at e;obtain⟨rfl,-⟩:=e;exact .inr (.inr ⟨v,i4,ho⟩)
 have h3:I 0 w3:=⟨rH _,hl,hr,h0.tree.chg0 hc13,_,hb3,Ox.nil _ _ _ _ _⟩;have hstep:∀j x w',(L.root.all L.R)[j]?=some x→I (0+j) w'→Bm prog yv [.pointer (some ⟨x.1.blk,0,none⟩),x.2.val] (λv w''=>v=.bool true∧I (0+j+1) w''∧Trn (M w') (M w'') w' w'') w':=by
  rintro j ⟨m,S⟩ w' hx ⟨i0,i1,i2,i3,v,i4,i5⟩;rw[Nat.zero_add] at *;refine hyv _ _ _ rfl i1 ?_;have l1:=Aa i1;have l4:=Aa i4;have hT:=i3.sub _ (List.mem_of_getElem? hx);dsimp only at hT;simp -dsimp (disch:=first|omega|(simp only[go_sem,seval];try omega))only[go_sem,seval,Rc.val];refine⟨i1,?_⟩;refine OpX.gen λw5 hw5=>?_;have hc5:Chg [w2.heap.size+1] w' w5:=by rw[hw5];exact sy
  have hz5:w5.heap.size=w'.heap.size+1:=by rw[hw5];simp -dsimp (disch:=first|omega|(simp only[go_sem,seval];try omega))only[go_sem,seval]
  have a5:w5.heap[w'.heap.size]?=some (.cells #[.int .i64 S.x,.int .i64 S.y,.int .i64 S.w,.int .i64 S.h] 42):=by rw[hw5];simp -dsimp (disch:=first|omega|(simp only[go_sem,seval];try omega))only[go_sem,seval]
  have b5:w5.heap[w2.heap.size+1]?=some (Lp .busy):=by rw[hw5];simp -dsimp (disch:=first|omega|(simp only[go_sem,seval];try omega))only[go_sem,seval]
  clear hw5;have hbl:∀x∈L.root.blks,x≠w2.heap.size+1∧x≠w.heap.size:=λx hx=>by
   have h9:=h.tree.lt x hx;have:=hc13.size;omega
  have hmb:∀x∈m.blks,x∈L.root.blks:=Mt.all_blk _ (List.mem_of_getElem? hx);have j2:=hc5.keep i2 Z;have j3:=AB.chg hc5 i3 (λx hx=>by simpa using (hbl x hx).1);have j4:=hc5.keep i4 (by simp;omega);have j5:=i5.low hc5 (by simp;omega);have hT5:=AB.chg hc5 hT (λx hx=>by simpa using (hbl x (hmb x hx)).1);refine td ES rfl (Eh hT5) ?_;rintro v' w6 ⟨rfl,rfl⟩;have ht:(L.root.all L.R).take (j+1)=(L.root.all L.R).take j++[(m,S)]:=by
   rw[List.take_add_one,hx];rfl
  cases m with
  | split mb mac mp mq ml mr =>
   obtain⟨hT5,-,-⟩:=hT5;obtain⟨a,cap,rfl,hcp,hsx,hown,-⟩:=j5.form;have e9:((L.root.all L.R).take (j+1)).filterMap Mt.oneBord=((L.root.all L.R).take j).filterMap Mt.oneBord++[BY S mac (Az (S.len mac) mp mq)]:=by rw[ht,List.filterMap_append];simp [Mt.oneBord]
   have hln:(((L.root.all L.R).take j).filterMap Mt.oneBord).length≤100:=by
    have h1:=List.length_filterMap_le Mt.oneBord ((L.root.all L.R).take j);have h2:((L.root.all L.R).take j).length≤(L.root.all L.R).length:=by rw[List.length_take];omega
    omega
   obtain⟨S1,-,S2⟩:=Mt.all_ok ok.fits ok.R _ (List.mem_of_getElem? hx);obtain⟨S3,-,-⟩:=Mt.fits_split S2;obtain⟨o1,o2,o3,o4,-,-⟩:=(Mt.put_all (new:=.pane 0 0) h.nd (List.mem_of_getElem? hx)).2.2.2.1 ok.ok;simp -dsimp (disch:=first|omega|(simp only[go_sem,seval];try omega))only[go_sem,seval,Mt.isPane,Mt.blk,a5];refine td J4 rfl (Jv hT5 o1 o2 o3 o4 S1 S3) ?_;rintro v6 w65 ⟨rfl,hc65⟩
   replace j4:=hc65.keep j4 Z
   replace b5:=hc65.keep b5 Z
   replace j2:=hc65.keep j2 Z
   replace j3:=j3.chg0 hc65
   replace j5:=j5.chg0 hc65
   replace hc5:=hc5.trans0 hc65
   have hz65:=hc65.size
   replace hz5:w'.heap.size+1≤w65.heap.size:=O
   clear hT5 a5;clear hc65;generalize w65=w6 at *;simp -dsimp (disch:=first|omega|(simp only[go_sem,seval];try omega))only[go_sem,seval,Rc.val,j4];have hw6:=hc5.size;refine OpX.gen λw7 hw7=>?_;have hc7:Chg [] w6 w7:=by rw[hw7];exact sy
   have hsa:Sx w7 (some 42) Rc.cells (some ⟨w6.heap.size+3,0,none⟩) [BY S mac (Az (S.len mac) mp mq)]:=Sx.built (c:=Rc.cells (BY S mac (Az (S.len mac) mp mq))) (by rw[hw7];simp only[Rc.cells,Rc.cells];simp -dsimp (disch:=first|omega|(simp only[go_sem,seval];try omega))only[go_sem,seval]) rfl;clear hw7;have ho7:=j5.chg0 hc7;have j47:=hc7.keep j4 Z;have b57:=hc7.keep b5 Z;have j37:=j3.chg0 hc7;have j27:=hc7.keep j2 Z;have hw7:=hc7.size;refine Bd YG Rc.len4 Rc.okc ho7 hsa rfl (by rw[List.length_singleton];omega) O O ?_;intro v' w8 ho8 hc8 hown8;have hge:=ho7.own_ge;have j48:=hc8.keep j47 (λhm=>by have:=hge _ hm;omega);have b58:=hc8.keep b57 (λhm=>by have:=hge _ hm;omega);have j28:=hc8.keep j27 (λhm=>by have:=hge _ hm;omega);have j38:=AB.chg hc8 j37 (λx hx hm=>by have h1:=hge _ hm;have h2:=h.tree.lt x hx;have:=hc03.size;omega);have hl8:=Aa j48;have hlb8:=Aa b58;obtain⟨a8,cap8,rfl,-,-,hown8',-⟩:=ho8.form;refine sr j48 b58 ?_;have hc9:Chg [w.heap.size,w2.heap.size+1] w8 (Ab (Ab w8 w.heap.size (.cells #[.slice a8 ((((L.root.all L.R).take j).filterMap Mt.oneBord)++[BY S mac (Az (S.len mac) mp mq)]).length cap8] 110)) (w2.heap.size+1) (Lp .ready)):=((sg _ _).set _ _ Z).set _ _ Z;have hc59:Chg ([w.heap.size,w2.heap.size+1]++(Value.slice a (((L.root.all L.R).take j).filterMap Mt.oneBord).length cap).ownBlock.toList) w' (Ab (Ab w8 w.heap.size (.cells #[.slice a8 ((((L.root.all L.R).take j).filterMap Mt.oneBord)++[BY S mac (Az (S.len mac) mp mq)]).length cap8] 110)) (w2.heap.size+1) (Lp .ready)) :=
    (((hc5.mono (F':=[w.heap.size,w2.heap.size+1]++(Value.slice a (((L.root.all L.R).take j).filterMap Mt.oneBord).length cap).ownBlock.toList) Z).trans0 hc7).trans hc8 (λx hx=>.inl (List.mem_append_right _ hx))).trans hc9 (λx hx=>.inl (List.mem_append_left _ hx))
   have k4:(Ab (Ab w8 w.heap.size (.cells #[.slice a8 ((((L.root.all L.R).take j).filterMap Mt.oneBord)++[BY S mac (Az (S.len mac) mp mq)]).length cap8] 110)) (w2.heap.size+1) (Lp .ready)).heap[w.heap.size]?=some (.cells #[.slice a8 ((((L.root.all L.R).take j).filterMap Mt.oneBord)++[BY S mac (Az (S.len mac) mp mq)]).length cap8] 110):=by
    rw[A5 _ _ _ _ O];exact Aw _ _ _ _ rfl hl8
   refine⟨⟨Nat.le_trans i0 hc59.size,Aw _ _ _ _ rfl (by rw[EP];exact hlb8),hc9.keep j28 (by simp;omega),AB.chg hc9 j38 (λx hx=>by simpa using ⟨(hbl x hx).2,(hbl x hx).1⟩),_,k4,?_⟩,Trn.of hc59 (λx hx=>?_) λx hx=>?_⟩
   ·rw[e9];exact ho8.low hc9 (by simp;omega)
   ·simp only[List.cons_append,List.nil_append,rM,Option.mem_toList] at hx;rcases hx with hx|hx|hx
    ·exact .inl hx
    ·exact .inr (.inl hx)
    ·exact .inr (.inr ⟨_,i4,hx⟩)
   ·rcases hx with hx|hx|⟨v',e,ho⟩
    ·exact .inl (.inl hx)
    ·exact .inl (.inr (.inl hx))
    ·rw[k4] at e;simp only[Option.some.injEq,Obj.cells.injEq,Array.mk.injEq,List.cons.injEq,and_true] at e;obtain⟨rfl,-⟩:=e;rcases hown8 with h9|h9
     ·exact .inl (.inr (.inr ⟨_,i4,h9 ▸ ho⟩))
     ·rw[h9] at ho;cases ho;exact .inr O
  | pane mb mid =>
   simp -dsimp (disch:=first|omega|(simp only[go_sem,seval];try omega))only[go_sem,seval,Mt.isPane];refine⟨b5,?_⟩;have hc6:Chg [w2.heap.size+1] w6 (Ab w6 (w2.heap.size+1) (Lp .ready)):=(sg _ _).set _ _ Z;have hc56:=hc5.trans hc6 (λx hx=>.inl hx);have e9:((L.root.all L.R).take (j+1)).filterMap Mt.oneBord=((L.root.all L.R).take j).filterMap Mt.oneBord:=by rw[ht,List.filterMap_append];simp [Mt.oneBord]
   have k4:=hc6.keep j4 (by simp;omega);refine⟨⟨Nat.le_trans i0 hc56.size,Aw _ _ _ _ rfl (Aa b5),hc6.keep j2 Z,AB.chg hc6 j3 (λx hx=>by simpa using (hbl x hx).1),v,k4,?_⟩,Trn.of hc56 (λx hx=>by simp at hx;exact .inr (.inl hx)) λx hx=>?_⟩
   ·rw[e9];exact j5.low hc6 (by simp;omega)
   ·rcases hx with hx|hx|⟨v',e,ho⟩
    ·exact .inl (.inl hx)
    ·exact .inl (.inr (.inl hx))
    ·rw[k4] at e;simp only[Option.some.injEq,Obj.cells.injEq,Array.mk.injEq,List.cons.injEq,and_true] at e;exact .inl (.inr (.inr ⟨v,i4,e ▸ ho⟩))
 apply NG;intro K hK;unfold IB;refine sr q0 q1 ?_;refine td HW rfl (LF I M hM hI 0 ok.ok ok.R ok.fits (λj w h=>h.2.2.2.1) h3 hstep) ?_;rintro v w4 ⟨rfl,i4,t4⟩;rw[Nat.zero_add] at i4;obtain⟨i0,i1,i2,i3,v,i4,i5⟩:=i4;rw[List.take_length,Mt.all_bords] at i5;refine hK _ _ (.inl ⟨i1,?_⟩);have l1:=Aa i1;have hc5:Chg [w2.heap.size+1] w4 (Ab w4 (w2.heap.size+1) (Lp (.over .normal))):=(sg _ _).set _ _ Z;have k4:=hc5.keep i4 (by simp;omega);have k2:=hc5.keep i2 Z;have k5:=i5.low hc5 (by simp;omega);have t5:=t4;generalize Ab w4 _ _=w5 at hc5 k4 k2 k5 ⊢;refine sq k4 ?_;refine ED k2 ?_;have hc6:Chg [w2.heap.size] w5 (Ab w5 w2.heap.size (.deferred none)):=(sg _ _).set _ _ Z;refine hKo _ _ ⟨(k5.low hc6 (by simp;omega)).base_le O,?_⟩;have hc34:Chg [] w w4:=t4.base hc03 (λx hx=>?_)
 ·exact(hc34.trans hc5 (by simp;omega)).trans hc6 (by simp;omega)
 ·rcases hx with rfl|rfl|⟨v',e,ho⟩
  ·omega
  ·omega
  ·rw[hb3] at e;simp only[Option.some.injEq,Obj.cells.injEq,Array.mk.injEq,List.cons.injEq,and_true] at e;obtain⟨rfl,-⟩:=e;simp [Value.ownBlock] at ho
end
def Ek(l:List Int)(id:Int):Int:=match l.findIdx? (· == id) with
 | none=>0
 | some i=>l.getD ((i+1) % l.length) 0
section
variable {w w':World} {b:Nat} {L:Ly}
theorem VQ(h:LAt w b L)(ok:L.ok)(id:Int):Calls prog 100 #[.pointer (some ⟨b,0,none⟩),.int .i64 id] w (Ac λv w'=>v=.int .i64 (Ek L.root.ids id)∧Chg [] w w'):=by
 have hpl:=Mt.panes_len L.root L.R;have hpi:=Mt.panes_ids L.root L.R;have hfew:=ok.few;have hpos:=Mt.ids_pos L.root;apply YY;intro K hK;unfold MA;refine td H3 rfl (GO h ok) ?_;rintro v w1 ⟨ho,hc1⟩;obtain⟨a,cap,rfl,-,hs,-,-⟩:=ho.form;refine sn ?_;refine Loop1.st (λq:Nat=>.int .i64 (q:Int)) (λq w'=>q≤(L.root.panes L.R).length∧Chg [] w1 w'∧∀j,j<q→L.root.ids[j]?≠some id) (λq=>(L.root.panes L.R).length-q) 0 rfl ⟨Z,sg _ _,Z⟩ ?_;rintro next i wi hn ⟨hi,hc,hne⟩
 refine sn ?_;refine sd (λg=>?_) (λg=>?_)
 ·have hi':i<(L.root.panes L.R).length:=O;obtain⟨b',o,rfl,hbl,hcell⟩:=(hs.chg0 hc).get DL (rI hi');have hidi:L.root.ids[i]?=some (L.root.panes L.R)[i].1:=by rw[←hpi,List.getElem?_map,rI hi'];rfl
  generalize (L.root.panes L.R)[i]=x at *;simp only[BV,Rc.cells] at hcell;refine sq hcell ?_;have hca:=Ar wi (.cells #[.int .i64 x.1,.int .i64 x.2.x,.int .i64 x.2.y,.int .i64 x.2.w,.int .i64 x.2.h] 44);generalize wi.alloc _=wj at hca ⊢;have hcj:=hc.trans0 hca;refine sd (λg2=>?_) (λg2=>?_)
  ·have hk:(i+1) % (L.root.panes L.R).length<(L.root.panes L.R).length:=Nat.mod_lt _ O;obtain⟨b2,o2,e2,hbl2,hcell2⟩:=(hs.chg0 hcj).get DL (rI hk);have hidk:L.root.ids[(i+1) % (L.root.panes L.R).length]?=some (L.root.panes L.R)[(i+1) % (L.root.panes L.R).length].1:=by rw[←hpi,List.getElem?_map,rI hk];rfl
   generalize (L.root.panes L.R)[(i+1) % (L.root.panes L.R).length]=y at *;simp only[Option.some.injEq,Addr.mk.injEq,and_true] at e2;obtain⟨rfl,rfl⟩:=e2;have hc0:=CQ hcell2 0 O;rw[Nat.add_zero] at hc0;have hy:(BV y).toArray[0]?=some (.int .i64 y.1):=rfl;rw[hy] at hc0;have em:=bH (i+1) (L.root.panes L.R).length ((i:Int)+1) O;refine sr em hc0 ?_;refine hK _ _ ⟨?_,hc1.trans0 hcj⟩;have hfi:L.root.ids.findIdx? (· == id)=some i:=by
    rw[List.findIdx?_eq_some_iff_getElem];obtain⟨hlt,hv⟩:=rO.1 hidi;refine⟨hlt,by simp [hv,g2],λj hj=>?_⟩;have:=hne j hj;rw[rI O] at this;simpa using this
   unfold Ek;rw[hfi];dsimp only;rw[rN,←hpl,hidk];rfl
  ·have e1:(i:Int)+1=((i+1:Nat):Int):=O;refine sq e1 ?_;refine hn (i+1) _ ⟨O,hcj,λj hj=>?_⟩ O;rcases Nat.lt_or_ge j i with h1|h1
   ·exact hne j h1
   ·have:j=i:=O;subst this;rw[hidi];simpa using g2
 ·have hil:i=(L.root.panes L.R).length:=O;refine hK _ _ ⟨?_,hc1.trans0 hc⟩;have hfi:L.root.ids.findIdx? (· == id)=none:=by
   rw[List.findIdx?_eq_none_iff];intro x hx;obtain⟨j,hj,e⟩:=List.mem_iff_getElem.1 hx;have:=hne j O;rw[rI hj,e] at this;simpa using this
  unfold Ek;rw[hfi]
def Df(x:Mt × Rc):List Value:=.pointer (some ⟨x.1.blk,0,none⟩)::x.2.cells
theorem Hq(x:Mt × Rc):(Df x).length=5:=rfl
theorem WW(x:Mt × Rc):AV (Df x)=true:=rfl
theorem Yq{t:Mt}:∀{w:World} {R:Rc} (id:Int),AB w t→t.ok→R.ok→t.fits R=true→t.ids.length≤100→Calls prog 206 #[.pointer (some ⟨t.blk,0,none⟩),R.val,.int .i64 id] w (Ac λv w'=>Ox w.heap.size w' 281 5 Df v (t.way id R)∧(t.way id R=[]→v=.slice none 0 0)∧Chg [] w w'):=by
 induction t with
 | pane b i =>
  intro w R id h hk hR hf hl;have hp:=Eh h;simp only[Mt.blk,Mt.isPane] at hp ⊢;apply O5;intro K hK;unfold KQ;simp -dsimp (disch:=first|omega|(simp only[go_sem,seval];try omega))only[go_sem,seval,Rc.val];refine OpX.gen λw0 hw0=>?_;have hc0:Chg [] w w0:=by rw[hw0];exact sy
  have hz0:w0.heap.size=w.heap.size+2:=by rw[hw0];simp -dsimp (disch:=first|omega|(simp only[go_sem,seval];try omega))only[go_sem,seval]
  have a7:w0.heap[w.heap.size+1]?=some (.cells #[.pointer (some ⟨b,0,none⟩),.int .i64 R.x,.int .i64 R.y,.int .i64 R.w,.int .i64 R.h] 281):=by rw[hw0];simp -dsimp (disch:=first|omega|(simp only[go_sem,seval];try omega))only[go_sem,seval]
  clear hw0;have h0:=h.chg0 hc0;have hp:=Eh h0;simp only[Mt.blk,Mt.isPane,AB] at hp h0;refine td ES rfl (hp) ?_;rintro v w1 ⟨rfl,rfl⟩;refine sq h0 ?_;refine sd (λg=>?_) (λg=>?_)
  ·have e:(Mt.pane b i).way id R=[(.pane b i,R)]:=by simp [Mt.way,g]
   refine sq a7 ?_;refine hK _ _ ⟨?_,λh=>by rw[e] at h;simp at h,by(repeat (first|with_reducible exact hc0|with_reducible exact sg _ _|(with_reducible refine sm ?_ _ _ (by first|(left;simp;done)|(right;omega)))|with_reducible apply sk|with_reducible apply sj))⟩;rw[e];exact Ox.built (c:=Df (.pane b i,R)) (by simp only[Df,Rc.cells,Mt.blk];simp -dsimp (disch:=first|omega|(simp only[go_sem,seval];try omega))only[go_sem,seval]) Hq O rfl rfl O rfl
  ·have e:(Mt.pane b i).way id R=[]:=by simp [Mt.way,g]
   refine hK _ _ ⟨?_,λ_=>rfl,hc0⟩;rw[e];exact Ox.nil _ _ _ _ _
 | split b ac p q l r ihl ihr =>
  intro w R id h hk hR hf hl;obtain⟨k1,k2,k3,k4,k5,k6⟩:=hk;obtain⟨h3',hfl,hfr⟩:=Mt.fits_split hf;obtain⟨s0,s1⟩:=Fa (p:=p) (q:=q) h3';obtain⟨f1,-⟩:=HO hR s0 s1;obtain⟨e1,-⟩:=Ic hR s0 s1;obtain⟨g0,g1,g2⟩:=h;have hl0:=Aa g0;simp only[Mt.ids,rS] at hl;simp only[Mt.blk];apply O5;intro K hK;unfold KQ;simp -dsimp (disch:=first|omega|(simp only[go_sem,seval];try omega))only[go_sem,seval,Rc.val];refine OpX.gen λw0 hw0=>?_;have hc0:Chg [] w w0:=by rw[hw0];exact sy
  have hz0:w0.heap.size=w.heap.size+2:=by rw[hw0];simp -dsimp (disch:=first|omega|(simp only[go_sem,seval];try omega))only[go_sem,seval]
  have a4:w0.heap[w.heap.size]?=some (.cells #[.int .i64 R.x,.int .i64 R.y,.int .i64 R.w,.int .i64 R.h] 42):=by rw[hw0];simp -dsimp (disch:=first|omega|(simp only[go_sem,seval];try omega))only[go_sem,seval]
  have a7:w0.heap[w.heap.size+1]?=some (.cells #[.pointer (some ⟨b,0,none⟩),.int .i64 R.x,.int .i64 R.y,.int .i64 R.w,.int .i64 R.h] 281):=by rw[hw0];simp -dsimp (disch:=first|omega|(simp only[go_sem,seval];try omega))only[go_sem,seval]
  clear hw0;have hp:=Eh (t:=.split b ac p q l r) ⟨hc0.keep g0 Z,g1.chg0 hc0,g2.chg0 hc0⟩;simp only[Mt.blk,Mt.isPane] at hp;refine td ES rfl (hp) ?_;rintro v w1 ⟨rfl,rfl⟩;have h1:=hc0.keep g0 Z;refine sq a4 ?_;refine td J4 rfl (Jv h1 k1 k2 k3 k4 hR h3') ?_;rintro v w3 ⟨rfl,hc3⟩;have hc13:=hc0.trans0 hc3;have h3w:=hc13.keep g0 Z;have hl3:=Aa h3w;have a73:=hc3.keep a7 Z;have hws:=Mt.way_split (id:=id) (b:=b) (ac:=ac) (p:=p) (q:=q) (l:=l) (r:=r) (R:=R);generalize hF:Bh R ac (Az (R.len ac) p q)=F at *;generalize hS:Bp R ac (Az (R.len ac) p q)=S at *;simp -dsimp (disch:=first|omega|(simp only[go_sem,seval];try omega))only[go_sem,seval,Rc.val,h3w];refine OpX.gen λw4 hw4=>?_;have hc4:Chg [] w3 w4:=by rw[hw4];exact sy
  have hz4:w4.heap.size=w3.heap.size+3:=by rw[hw4];simp -dsimp (disch:=first|omega|(simp only[go_sem,seval];try omega))only[go_sem,seval]
  have a10:w4.heap[w3.heap.size+2]?=some (.cells #[.int .i64 S.x,.int .i64 S.y,.int .i64 S.w,.int .i64 S.h] 42):=by rw[hw4];simp -dsimp (disch:=first|omega|(simp only[go_sem,seval];try omega))only[go_sem,seval]
  clear hw4;have hc04:=hc13.trans0 hc4;have a74:=hc4.keep a73 Z;refine td Jf rfl (ihl id (g1.chg0 hc04) k5 f1 hfl O) ?_;rintro v w5 ⟨ho5,hn5,hc5⟩;have hc05:=hc04.trans0 hc5;have a75:=hc5.keep a74 Z;have a105:=hc5.keep a10 Z;have h5:=hc05.keep g0 Z;refine sh (λv' w'=>∃V,Ox w.heap.size w' 281 5 Df v' V∧(V=[]→v'=.slice none 0 0)∧Chg [] w w'∧w'.heap[w.heap.size+1]?=some (.cells #[.pointer (some ⟨b,0,none⟩),.int .i64 R.x,.int .i64 R.y,.int .i64 R.w,.int .i64 R.h] 281) ∧
   V.length≤100∧(Mt.split b ac p q l r).way id R=(if V.isEmpty then[] else(Mt.split b ac p q l r,R)::V)) ?_ ?_
  ·have hwl:=Mt.way_len (id:=id) (t:=l) (R:=F);have hwr:=Mt.way_len (id:=id) (t:=r) (R:=S);obtain⟨a,cap,rfl,-,hsx,-,hne⟩:=ho5.form;by_cases hL:l.way id F=[]
   ·have:=hn5 hL;rw[Value.slice.injEq] at this;obtain⟨rfl,h9,rfl⟩:=this;rw[h9];refine sr h5 a105 ?_;refine td Jf rfl (ihr id (g2.chg0 hc05.drew) k6 e1 hfr O) ?_;rintro v w6 ⟨ho6,hn6,hc6⟩;refine⟨_,ho6.base_le hc05.size,hn6,hc05.trans0 hc6.low_drew,hc6.low_drew.keep a75 Z,O,?_⟩;rcases hws with ⟨e,e2⟩|⟨e,e2,e3⟩|⟨e,e2,e3⟩
    ·exact absurd hL e2
    ·rw[e2,rF (by simpa using e3)]
    ·rw[e3,e2];rfl
   ·obtain⟨gb,rfl,-,-⟩:=hne hL;refine sn ?_;refine⟨_,ho5.base_le hc04.size,λh=>absurd h hL,hc05,a75,O,?_⟩;rcases hws with ⟨e,e2⟩|⟨e,e2,e3⟩|⟨e,e2,e3⟩
    ·rw[e,rF (by simpa using e2)]
    ·exact absurd e hL
    ·exact absurd e hL
  ·rintro v w6 ⟨V,ho6,hn6,hc6,a76,hVl,hway⟩;obtain⟨a,cap,rfl,-,hsx,-,hne⟩:=ho6.form;by_cases hV:V=[]
   ·subst hV;have:=hn6 rfl;rw[Value.slice.injEq] at this;obtain⟨rfl,-,rfl⟩:=this;refine sn ?_;refine hK _ _ ⟨?_,λ_=>rfl,hc6⟩;rw[hway];exact Ox.nil _ _ _ _ _
   ·obtain⟨gb,rfl,-,-⟩:=hne hV;refine sq a76 ?_;refine OpX.gen λw7 hw7=>?_;have hc7:Chg [] w6 w7:=by rw[hw7];exact sy
    have ho7:Ox w.heap.size w7 281 5 Df (.slice (some ⟨w6.heap.size,0,none⟩) 1 1) [(Mt.split b ac p q l r,R)]:=Ox.built (c:=Df (.split b ac p q l r,R)) (by rw[hw7];simp only[Df,Rc.cells,Mt.blk];simp -dsimp (disch:=first|omega|(simp only[go_sem,seval];try omega))only[go_sem,seval]) Hq hc6.size rfl rfl O rfl;clear hw7;refine Bd Vk Hq WW ho7 (hsx.chg0 hc7) rfl (by rw[List.length_singleton];omega) O (Nat.le_trans hc6.size hc7.size) ?_;intro v' w8 ho8 hc8 hown8;refine hK _ _ ⟨?_,λh=>?_,(hc6.trans0 hc7).trans hc8 (λx hx=>.inr (ho7.own_ge x hx))⟩
    ·rw[hway,rF (by simpa using hV)];exact ho8
    ·rw[hway,rF (by simpa using hV)] at h;simp at h
end
set_option maxRecDepth 100000
def Sj(a b:Value)(K:rD):rE:=xO .eql 132 a (.pointer none) λc=>xW c (K (.tuple #[]))<|xU b 170 λc=>Loop1 (.int .i64 0) λd e=>xO .lss 3 d c λc=>xW c (xI 170 b d λc=>xL 9 c λc=>Loop1 c λc f=>xU c 9 λg=>xO .gtr 3 g (.int .i64 0) λg=>xW g (xU c 9 λg=>xQ (.call { callee:=.builtin .min,args:=#[.const g,.const (.int .i64 4096)],argTypes:=#[3,3] }) 3 λg=>Ag<|xM a λh=>qF 207 h 0 λh=>qL 200 h λi=>xM a λj=>qF 207 j 2 λj=>xM a λl=>qF 207 l 1 λl=>xP (.slice 9 (.const c) none (some (.const g)) none) 9 λm=>xC 108 [.const l,.const m] [202,9] 97 λm=>xT (qZ 200 h i)<|xC 107 [.const j,.const m] [204,97] 95 λm=>xT (qZ 200 h i)<|xC 106 [.const i,.const m] [200,95] 0 λ_=>xQ (.slice 9 (.const c) (some (.const g)) none none) 9 λm=>f m)<|xO .add 3 d (.int .i64 1) λm=>e m)<|Ag<|xM a λm=>qF 207 m 3 λm=>qL 205 m λe=>xM a λf=>qF 207 f 0 λf=>qL 200 f λf=>xC 110 [.const f] [200] 105 λf=>xT (qZ 205 m e)<|xC 109 [.const e,.const f] [205,105] 0 λ_=>K (.tuple #[])
theorem ZV(a b:Value):Lk 53 #[a,b] (Sj a b):=lk [a,b] [(10,[11]),(22,[5])] func53
theorem Wb:Ad prog 53:=bd func53
def Nv(a b:Value)(K:rD):rE:=xA 50 λc=>xO .eql 132 a (.pointer none) λd=>xW d (xQ (.build 50 #[]) 50 λd=>xS 50 c d<|xD 50 c λd=>K d)<|Ag<|xM a λd=>qF 207 d 3 λd=>qL 205 d λe=>xC 149 [.const a] [132] 50 λf=>xT (qZ 205 d e)<|xC 148 [.const e,.const f,.const b] [205,50,3] 50 λf=>xS 50 c f<|xD 50 c λf=>K f
theorem YX(a b:Value):Lk 79 #[a,b] (Nv a b):=lk [a,b] [] func79
theorem jC:Ad prog 79:=bd func79
def Mz(a b c:Value)(K:rD):rE:=xO .eql 132 a (.pointer none) λd=>xW d (K (.bool false))<|xH a λd=>xF 207 d 0 λd=>xL 200 d λd=>xC 155 [.const d,.const b,.const c] [200,3,3] 4 λd=>K d
theorem U2(a b c:Value):Lk 90 #[a,b,c] (Mz a b c):=lk [a,b,c] [] func90
theorem TK:Ad prog 90:=bd func90
def Sf(a:Value)(K:rD):rE:=xO .eql 132 a (.pointer none) λb=>xW b (K (.int .i64 0))<|xH a λb=>xF 207 b 3 λb=>xL 205 b λb=>xC 172 [.const b] [205] 3 λb=>K b
theorem iZ(a:Value):Lk 111 #[a] (Sf a):=lk [a] [] func111
theorem ie:Ad prog 111:=bd func111
def Sz(a:Value)(K:rD):rE:=xA 50 λb=>xO .eql 132 a (.pointer none) λc=>xW c (xQ (.build 50 #[]) 50 λc=>xS 50 b c<|xD 50 b λc=>K c)<|xH a λc=>xF 207 c 0 λc=>xL 200 c λc=>xC 192 [.const c] [200] 50 λc=>xS 50 b c<|xD 50 b λc=>K c
theorem cD(a:Value):Lk 149 #[a] (Sz a):=lk [a] [] func149
theorem km:Ad prog 149:=bd func149
def SM(a b c:Value)(K:rD):rE:=xC 156 [.const a,.const b] [3,3] 200 λd=>xO .eql 200 d (.pointer none) λe=>xW e (K (.pointer none))<|xC 157 [.const c] [3] 205 λe=>xQ (.build 207 #[(0,.const d),(3,.const e)]) 207 λe=>xQ (.box 207 (.const e)) 132 λe=>K e
theorem cy(a b c:Value):Lk 91 #[a,b,c] (SM a b c):=lk [a,b,c] [] func91
theorem U4:Ad prog 91:=bd func91
def L3(a b:Value)(K:rD):rE:=xU b 97 λc=>Loop2 (.slice none 0 0) (.int .i64 0) λd e f=>xO .lss 3 e c λc=>xW c (Join1 (λc=>xI 97 b e λg=>xL 21 g λg=>xC 168 [.const a,.const g] [240,21] 241 λg=>xE g 0 89 λh=>xE g 1 4 λg=>xA 89 λi=>xS 89 i h<|xW g (xL 89 i λi=>xQ (.buildSlice 95 1 #[(0,.const i)]) 95 λi=>xV d i 95 95 95 λi=>c i)<|c d) λi=>xO .add 3 e (.int .i64 1) λe=>f i e)<|K d
theorem jQ(a b:Value):Lk 107 #[a,b] (L3 a b):=lk [a,b] [(8,[5,12]),(15,[5])] func107
theorem ZQ:Ad prog 107:=bd func107
def MQ(a b:Value)(K:rD):rE:=xA 89 λc=>xO .eql 240 a (.pointer none) λd=>xW d (xQ (.build 89 #[]) 89 λd=>xS 89 c d<|xD 89 c λd=>K (.tuple #[d,(.bool false)]))<|xO .eql 21 b (.int .i32 27) λd=>xW d (xQ (.build 204 #[(0,.const (.int .i64 1))]) 204 λd=>xH a λe=>xS 204 e d<|xQ (.build 89 #[]) 89 λe=>xS 89 c e<|xD 89 c λe=>K (.tuple #[e,(.bool false)]))<|Join1 (λe=>xO .eql 21 b (.int .i32 24) λd=>xW d (e (.bool true))<|xO .eql 21 b (.int .i32 26) λd=>e d) λd=>xW d (xC 218 [.const a] [240] 0 λ_=>xQ (.build 89 #[]) 89 λd=>xS 89 c d<|xD 89 c λd=>K (.tuple #[d,(.bool false)]))<|Join1 (λd=>xO .lss 21 b (.int .i32 0) λe=>xW e (d (.bool true))<|xO .geq 21 b (.int .i32 127) λe=>xW e (xO .leq 21 b (.int .i32 159) λe=>xW e (d (.bool true))<|xO .gtr 21 b (.int .i32 1114111) λe=>d e)<|xO .gtr 21 b (.int .i32 1114111) λe=>d e) λe=>xW e (xQ (.build 89 #[]) 89 λe=>xS 89 c e<|xD 89 c λe=>K (.tuple #[e,(.bool false)]))<|Join1 (λe=>xO .lss 21 b (.int .i32 32) λd=>xW d (xH a λd=>xF 204 d 0 λd=>xL 3 d λd=>xO .eql 3 d (.int .i64 4) λd=>e d)<|e (.bool false)) λd=>xW d (Join0 (λd=>xO .eql 21 b (.int .i32 7) λe=>xW e (xC 218 [.const a] [240] 0 λ_=>d)<|d)<|xQ (.build 89 #[]) 89 λe=>xS 89 c e<|xD 89 c λe=>K (.tuple #[e,(.bool false)]))<|xO .lss 21 b (.int .i32 32) λe=>xW e (xQ (.build 89 #[(0,.const (.int .i64 2)),(1,.const b)]) 89 λe=>xS 89 c e<|xD 89 c λe=>K (.tuple #[e,(.bool true)]))<|Join0 (λe=>xH a λd=>xF 204 d 0 λd=>xL 3 d λd=>xO .eql 3 d (.int .i64 0) λf=>xW f (xQ (.build 89 #[(0,.const (.int .i64 1)),(1,.const b)]) 89 λf=>xS 89 c f<|xD 89 c λf=>K (.tuple #[f,(.bool true)]))<|xO .eql 3 d (.int .i64 1) λf=>xW f (xC 219 [.const a,.const b] [240,21] 241 λf=>xE f 0 89 λg=>xE f 1 4 λf=>xS 89 c g<|xD 89 c λg=>K (.tuple #[g,f]))<|xO .eql 3 d (.int .i64 2) λg=>xW g (xC 220 [.const a,.const b] [240,21] 241 λg=>xE g 0 89 λf=>xE g 1 4 λg=>xS 89 c f<|xD 89 c λf=>K (.tuple #[f,g]))<|xO .eql 3 d (.int .i64 3) λf=>xW f (Join1 (λf=>xO .geq 21 b (.int .i32 64) λg=>xW g (xO .leq 21 b (.int .i32 126) λg=>f g)<|f (.bool false)) λg=>xW g (xC 218 [.const a] [240] 0 λ_=>e)<|e)<|e)<|xQ (.build 89 #[]) 89 λg=>xS 89 c g<|xD 89 c λg=>K (.tuple #[g,(.bool false)])
theorem jZ(a b:Value):Lk 168 #[a,b] (MQ a b):=lk [a,b] [(21,[16]),(29,[26]),(35,[42]),(37,[]),(53,[]),(79,[91])] func168
theorem jK:Ad prog 168:=bd func168
def Q3(a:Value)(K:rD):rE:=xO .neq 240 a (.pointer none) λb=>xW b (xQ (.build 204 #[]) 204 λb=>xH a λc=>xS 204 c b<|K (.tuple #[]))<|K (.tuple #[])
theorem Xf(a:Value):Lk 218 #[a] (Q3 a):=lk [a] [] func218
theorem Fm:Ad prog 218:=bd func218
def O2(a b:Value)(K:rD):rE:=xA 89 λc=>xH a λd=>xF 204 d 2 λd=>xL 5 d λd=>Join0 (λe=>Join1 (λf=>xO .leq 21 b (.int .i32 47) λg=>xW g (xO .eql 5 d (.int .u8 0) λg=>f g)<|f (.bool false)) λg=>xW g (xQ (.convert 21 5 (.const b)) 5 λg=>xH a λf=>xF 204 f 2 λf=>xS 5 f g<|e)<|xO .leq 21 b (.int .i32 47) λf=>xW f (xH a λf=>xF 204 f 2 λf=>xS 5 f (.int .u8 255)<|e)<|Join1 (λf=>xO .eql 21 b (.int .i32 91) λg=>xW g (xO .eql 5 d (.int .u8 0) λg=>f g)<|f (.bool false)) λg=>xW g (xQ (.build 204 #[(0,.const (.int .i64 2))]) 204 λg=>xH a λf=>xS 204 f g<|e)<|Join1 (λf=>xO .eql 21 b (.int .i32 80) λg=>xW g (xO .eql 5 d (.int .u8 0) λg=>f g)<|xO .eql 21 b (.int .i32 88) λg=>xW g (xO .eql 5 d (.int .u8 0) λg=>f g)<|xO .geq 21 b (.int .i32 93) λg=>xW g (xO .leq 21 b (.int .i32 95) λg=>xW g (xO .eql 5 d (.int .u8 0) λg=>f g)<|f (.bool false))<|f (.bool false)) λg=>xW g (xQ (.build 204 #[(0,.const (.int .i64 4))]) 204 λg=>xH a λf=>xS 204 f g<|e)<|Join1 (λf=>xO .leq 21 b (.int .i32 126) λg=>xW g (xO .neq 5 d (.int .u8 255) λg=>f g)<|f (.bool false)) λg=>xW g (xC 218 [.const a] [240] 0 λ_=>xQ (.build 89 #[(0,.const (.int .i64 3)),(1,.const b),(3,.const d)]) 89 λg=>xS 89 c g<|xD 89 c λg=>K (.tuple #[g,(.bool true)]))<|xC 218 [.const a] [240] 0 λ_=>e)<|xQ (.build 89 #[]) 89 λg=>xS 89 c g<|xD 89 c λg=>K (.tuple #[g,(.bool false)])
theorem Ud(a b:Value):Lk 219 #[a,b] (O2 a b):=lk [a,b] [(4,[]),(7,[13]),(15,[31]),(19,[41]),(23,[63])] func219
theorem eB:Ad prog 219:=bd func219
def Sb(a b:Value)(K:rD):rE:=xA 89 λc=>Join0 (λd=>Join1 (λe=>xO .geq 21 b (.int .i32 48) λf=>xW f (xO .leq 21 b (.int .i32 57) λf=>xW f (xH a λf=>xF 204 f 2 λf=>xL 5 f λf=>xO .eql 5 f (.int .u8 0) λf=>e f)<|e (.bool false))<|e (.bool false)) λf=>xW f (xH a λf=>xF 204 f 3 λf=>xL 3 f λf=>xQ (.call { callee:=.builtin .max,args:=#[.const f,.const (.int .i64 1)],argTypes:=#[3,3] }) 3 λf=>xH a λe=>xF 204 e 3 λe=>xS 3 e f<|xH a λe=>xF 204 e 3 λe=>xL 3 e λe=>xO .leq 3 e (.int .i64 8) λe=>xW e (Ag<|xM a λe=>qF 204 e 3 λe=>qL 3 e λe=>qP .sub 3 e (.int .i64 1) λe=>xM a λf=>qF 204 f 3 λf=>qL 3 f λf=>qP .sub 3 f (.int .i64 1) λf=>xM a λg=>qF 204 g 4 λg=>xP (.indexAddr 87 (.const g) (.const f)) 0 λg=>qL 3 g λg=>qP .mul 3 g (.int .i64 10) λg=>qP .sub 21 b (.int .i32 48) λf=>xP (.convert 21 3 (.const f)) 3 λf=>qP .add 3 g f λf=>xP (.call { callee:=.builtin .min,args:=#[.const f,.const (.int .i64 9999)],argTypes:=#[3,3] }) 3 λf=>xM a λg=>qF 204 g 4 λg=>xP (.indexAddr 87 (.const g) (.const e)) 0 λg=>xS 3 g f<|d)<|d)<|Join1 (λg=>xO .eql 21 b (.int .i32 58) λf=>xW f (xH a λf=>xF 204 f 2 λf=>xL 5 f λf=>xO .eql 5 f (.int .u8 0) λf=>g f)<|xO .eql 21 b (.int .i32 59) λf=>xW f (xH a λf=>xF 204 f 2 λf=>xL 5 f λf=>xO .eql 5 f (.int .u8 0) λf=>g f)<|g (.bool false)) λf=>xW f (xH a λf=>xF 204 f 3 λf=>xL 3 f λf=>xQ (.call { callee:=.builtin .max,args:=#[.const f,.const (.int .i64 1)],argTypes:=#[3,3] }) 3 λf=>xO .add 3 f (.int .i64 1) λf=>xQ (.call { callee:=.builtin .min,args:=#[.const f,.const (.int .i64 9)],argTypes:=#[3,3] }) 3 λf=>xH a λg=>xF 204 g 3 λg=>xS 3 g f<|d)<|Join1 (λg=>xO .geq 21 b (.int .i32 60) λf=>xW f (xO .leq 21 b (.int .i32 63) λf=>xW f (xH a λf=>xF 204 f 1 λf=>xL 5 f λf=>xO .eql 5 f (.int .u8 0) λf=>xW f (xH a λf=>xF 204 f 2 λf=>xL 5 f λf=>xO .eql 5 f (.int .u8 0) λf=>xW f (xH a λf=>xF 204 f 3 λf=>xL 3 f λf=>xO .eql 3 f (.int .i64 0) λf=>g f)<|g (.bool false))<|g (.bool false))<|g (.bool false))<|g (.bool false)) λf=>xW f (xQ (.convert 21 5 (.const b)) 5 λf=>xH a λg=>xF 204 g 1 λg=>xS 5 g f<|d)<|Join1 (λg=>xO .leq 21 b (.int .i32 47) λf=>xW f (xH a λf=>xF 204 f 2 λf=>xL 5 f λf=>xO .eql 5 f (.int .u8 0) λf=>g f)<|g (.bool false)) λf=>xW f (xQ (.convert 21 5 (.const b)) 5 λf=>xH a λg=>xF 204 g 2 λg=>xS 5 g f<|d)<|Join1 (λg=>xO .geq 21 b (.int .i32 64) λf=>xW f (xO .leq 21 b (.int .i32 126) λf=>g f)<|g (.bool false)) λf=>xW f (Ag<|Join1 (λf=>xM a λg=>qF 204 g 1 λg=>qL 5 g λe=>xM a λh=>qF 204 h 2 λh=>qL 5 h λi=>xM a λj=>qF 204 j 3 λj=>qL 3 j λl=>xP (.call { callee:=.builtin .min,args:=#[.const l,.const (.int .i64 8)],argTypes:=#[3,3] }) 3 λm=>xM a λn=>qF 204 n 4 λn=>qL 87 n λo=>xT (xQ (.build 89 #[(0,.const (.int .i64 4)),(1,.const b),(2,.const e),(3,.const i),(4,.const m),(5,.const o)]) 89 λp=>xA 89 λq=>xS 89 q p<|f q)<|xA 89 λq=>xT (qZ 87 n o)<|xT (qZ 3 j l)<|xT (qZ 5 h i)<|xT (qZ 5 g e)<|xQ (.build 89 #[(0,.const (.int .i64 4)),(1,.const b),(2,.const e),(3,.const i),(4,.const m),(5,.const o)]) 89 λo=>xS 89 q o<|f q) λo=>xC 218 [.const a] [240] 0 λ_=>xL 89 o λo=>xS 89 c o<|xD 89 c λo=>K (.tuple #[o,(.bool true)]))<|xQ (.build 204 #[(0,.const (.int .i64 3))]) 204 λo=>xH a λq=>xS 204 q o<|d)<|xQ (.build 89 #[]) 89 λq=>xS 89 c q<|xD 89 c λq=>K (.tuple #[q,(.bool false)])
theorem bW(a b:Value):Lk 220 #[a,b] (Sb a b):=lk [a,b] [(2,[]),(5,[10]),(15,[62]),(19,[86]),(23,[119]),(27,[134]),(30,[6])] func220
theorem X4:Ad prog 220:=bd func220
def Qu(a:Value)(K:rD):rE:=xC 222 [.const a] [9] 9 λb=>K b
theorem ZK(a:Value):Lk 170 #[a] (Qu a):=lk [a] [] func170
theorem cE:Ad prog 170:=bd func170
theorem bQ:Ad prog 222:=bd func222
end Go.Proofs.YtnpkidnbhlepkaaGreat
namespace Lyc
open Go
@[go_sem] theorem lR(p:Prop)[Decidable p]:(!decide p)=decide (¬p):=by by_cases h:p<;>simp [h]
attribute [go_sem] Decidable.not_not
structure Cel where
 r:Int
 fg:BitVec 8
 bg:BitVec 8
 a:BitVec 8
deriving DecidableEq
@[go_sem] def Cel.cells(c:Cel):List Value:=[.int .i32 c.r,.int .u8 c.fg.toNat,.int .u8 c.bg.toNat,.int .u8 c.a.toNat]
@[go_sem] def Cel.val(c:Cel):Value:=.agg #[.int .i32 c.r,.int .u8 c.fg.toNat,.int .u8 c.bg.toNat,.int .u8 c.a.toNat]
theorem Cel.len(c:Cel):c.cells.length=4:=rfl
theorem Cel.ok(c:Cel):AV c.cells=true:=rfl
def BE:List (Int × Int × Int):=[(0x7f,0x9f,0),(0x300,0x36f,0),(0x200b,0x200f,0),(0xd800,0xdfff,0),(0xfe00,0xfe0f,0),(0x1100,0x115f,2),(0x2e80,0x303e,2),(0x3041,0xa4cf,2),(0xac00,0xd7a3,2),(0xf900,0xfaff,2),(0xfe30,0xfe6f,2),(0xff01,0xff60,2),(0xffe0,0xffe6,2),(0x1f300,0x1f64f,2),(0x1f900,0x1f9ff,2),(0x20000,0x3fffd,2)]
def Ch:List (Int × Int × Int)→Int→Int
 | [],_=>1
 | s::l,r=>if s.1≤r∧r≤s.2.1 then s.2.2 else Ch l r
def AN(r:Int):Int:=if r<32∨1114111<r then 0 else if r<127 then 1 else Ch BE r
def Cel.wide(c:Cel):Bool:=decide (¬c.a &&& 64#8=0#8)
def Cel.tail(c:Cel):Bool:=decide (¬c.a &&& 128#8=0#8)
def Cel.plain(c:Cel):Bool:=decide (c.a &&& 192#8=0#8)
def Cel.check(c:Cel):Bool:=if c.tail then !c.wide && decide (c.r=0) else if c.wide then decide (AN c.r=2) else decide (AN c.r=1)
def Cel.tailOf(c:Cel):Cel:=⟨0,c.fg,c.bg,(c.a &&& ~~~64#8) ||| 128#8⟩
def Cel.single(c:Cel):Bool:=c.plain && c.check
def Bs(c d:Cel):Bool:=c.wide && c.check && decide (d=c.tailOf)
def AD(l:List Cel)(x:Nat):Bool:=match l[x]?,l[x+1]? with|some c,some d=>Bs c d|_,_=>false
def Cel.blank:Cel:=⟨32,0,0,0⟩
def Cel.fix(c:Cel):Cel:=if c.single then c else⟨32,c.fg,c.bg,0⟩
def A8(r:Int)(p:Cel):List Cel:=
 if AN r=1 then[⟨r,p.fg,p.bg,p.a &&& 63#8⟩] else if AN r=2 then[⟨r,p.fg,p.bg,(p.a &&& 63#8) ||| 64#8⟩,⟨0,p.fg,p.bg,(p.a &&& 63#8) ||| 128#8⟩] else[]
def right:List Cel→Bool
 | []=>true
 | [c]=>c.single
 | c::d::l=>if Bs c d then right l else c.single && right (d::l)
def Au:List Cel→List Cel
 | []=>[]
 | [c]=>[c.fix]
 | c::d::l=>if Bs c d then c::d::Au l else c.fix::Au (d::l)
theorem Cj:∀l:List Cel,(Au l).length=l.length
 | []=>rfl
 | [c]=>rfl
 | c::d::l=>by
  unfold Au;split
  ·simp [Cj l]
  ·simp [Cj (d::l)]
theorem PG(x y:BitVec 8):IntKind.u8.wrap (((x &&& y).toNat:Nat):Int)=((x &&& y).toNat:Int):=Eu _ O (by have:=(x &&& y).isLt;omega)
theorem Ih(x:BitVec 8)(k:Int):Ba .and .u8 (x.toNat:Int) k=((x &&& BitVec.ofInt 8 k).toNat:Int):=by
 show IntKind.u8.wrap ((BitVec.ofInt 8 (x.toNat:Int) &&& BitVec.ofInt 8 k).toNat:Int)=_;rw[show BitVec.ofInt 8 (x.toNat:Int)=x by simp];exact PG _ _
theorem Jt(x:BitVec 8)(k:Int):Ba .or .u8 (x.toNat:Int) k=((x ||| BitVec.ofInt 8 k).toNat:Int):=by
 show IntKind.u8.wrap ((BitVec.ofInt 8 (x.toNat:Int) ||| BitVec.ofInt 8 k).toNat:Int)=_;rw[show BitVec.ofInt 8 (x.toNat:Int)=x by simp];exact Eu _ O (by have:=(x ||| BitVec.ofInt 8 k).isLt;omega)
theorem Hc(x:BitVec 8)(k:Int):Ba .andNot .u8 (x.toNat:Int) k=((x &&& ~~~BitVec.ofInt 8 k).toNat:Int):=by
 show IntKind.u8.wrap ((BitVec.ofInt 8 (x.toNat:Int) &&& ~~~BitVec.ofInt 8 k).toNat:Int)=_;rw[show BitVec.ofInt 8 (x.toNat:Int)=x by simp];exact PG _ _
theorem bv0(x:BitVec 8):((x.toNat:Int)=0)=(x=0#8):=by
 apply propext;constructor
 ·intro h;apply BitVec.eq_of_toNat_eq;simp;omega
 ·rintro rfl;rfl
@[go_sem] theorem oI(x:BitVec 8):(Ba .and .u8 (x.toNat:Int) 64=0)=(x &&& 64#8=0#8):=by rw[Ih,bv0];rfl
@[go_sem] theorem mE(x:BitVec 8):(Ba .and .u8 (x.toNat:Int) 128=0)=(x &&& 128#8=0#8):=by rw[Ih,bv0];rfl
@[go_sem] theorem qD(x:BitVec 8):(Ba .and .u8 (x.toNat:Int) 192=0)=(x &&& 192#8=0#8):=by rw[Ih,bv0];rfl
@[go_sem] theorem pz(x:BitVec 8):Ba .andNot .u8 (x.toNat:Int) 64=((x &&& ~~~64#8).toNat:Int):=Hc x 64
@[go_sem] theorem lA(x:BitVec 8):Ba .andNot .u8 (x.toNat:Int) 192=((x &&& ~~~192#8).toNat:Int):=Hc x 192
@[go_sem] theorem nN(x:BitVec 8):Ba .or .u8 (x.toNat:Int) 128=((x ||| 128#8).toNat:Int):=Jt x 128
@[go_sem] theorem py(x:BitVec 8):Ba .or .u8 (x.toNat:Int) 64=((x ||| 64#8).toNat:Int):=Jt x 64
theorem fN(x y:BitVec 8):((x.toNat:Int)=y.toNat)=(x=y):=propext ⟨λh=>BitVec.eq_of_toNat_eq O,λh=>by rw[h]⟩
theorem QU(c d:Cel):decide (c=d)=(decide (c.r=d.r) && (decide ((c.fg.toNat:Int)=d.fg.toNat) && (decide ((c.bg.toNat:Int)=d.bg.toNat) && (decide ((c.a.toNat:Int)=d.a.toNat) && true)))):=by
 obtain⟨r,f,b,a⟩:=c;obtain⟨e,g,h,i⟩:=d;simp only[Cel.mk.injEq,fN,Bool.decide_and,Bool.and_true]
@[go_sem] theorem pX(c d:Cel):(decide (c.r=d.r) && (decide ((c.fg.toNat:Int)=d.fg.toNat) && (decide ((c.bg.toNat:Int)=d.bg.toNat) && decide ((c.a.toNat:Int)=d.a.toNat))))=decide (c=d):=by rw[QU];simp only[Bool.and_true]
abbrev SxC(w:World)(e:Option TypeId)(a:Option Addr)(l:List Cel):Prop:=Sx w e Cel.cells a l
theorem SxC.cel{w:World}{e:Option TypeId}{a:Option Addr}{l:List Cel}(h:Sx w e Cel.cells a l){i:Nat}{c:Cel}(d:l[i]?=some c):
  ∃b o,a=some ⟨b,o,none⟩∧b<w.heap.size∧AT w.heap[b]? (o+i*4) 4=some #[.int .i32 c.r,.int .u8 c.fg.toNat,.int .u8 c.bg.toNat,.int .u8 c.a.toNat] ∧
   As w.heap[b]? (o+i*4)=some (.int .i32 c.r)∧As w.heap[b]? (o+i*4+1)=some (.int .u8 c.fg.toNat)∧As w.heap[b]? (o+i*4+2)=some (.int .u8 c.bg.toNat)∧As w.heap[b]? (o+i*4+3)=some (.int .u8 c.a.toNat):=by
 obtain⟨b,o,f,g,j⟩:=h.get (m:=4) Cel.len d;exact⟨b,o,f,g,j,CQ j 0 O,CQ j 1 O,CQ j 2 O,CQ j 3 O⟩
theorem YV{l:List Cel}{k:Nat}(a:k<l.length):Au (l.drop k)=if AD l k then(l.drop k).take 2++Au (l.drop (k+2)) else(l[k].fix::Au (l.drop (k+1))):=by
 have b:l.drop k=l[k]::l.drop (k+1):=List.drop_eq_getElem_cons a;unfold AD;rw[rI a];by_cases c:k+1<l.length
 ·have d:l.drop (k+1)=l[k+1]::l.drop (k+2):=List.drop_eq_getElem_cons c;rw[rI c,b,d];simp only[Au];split<;>rfl
 ·rw[List.getElem?_eq_none O,b,List.drop_eq_nil_of_le O];simp [Au]
theorem bh{l:List Cel}{k:Nat}(a:k<l.length):right (l.drop k)=if AD l k then right (l.drop (k+2)) else(l[k].single && right (l.drop (k+1))):=by
 have b:l.drop k=l[k]::l.drop (k+1):=List.drop_eq_getElem_cons a;unfold AD;rw[rI a];by_cases c:k+1<l.length
 ·have d:l.drop (k+1)=l[k+1]::l.drop (k+2):=List.drop_eq_getElem_cons c;rw[rI c,b,d];simp only[right]
 ·rw[List.getElem?_eq_none O,b,List.drop_eq_nil_of_le O];simp [right]
theorem H8{l:List Cel}{k:Nat}(h:AD l k=true):k+1<l.length:=by
 unfold AD at h;by_cases a:k+1<l.length
 ·exact a
 ·rw[List.getElem?_eq_none (l:=l) (i:=k+1) O] at h;cases l[k]?<;>simp at h
def BF(w h:Int):Bool:=decide (1≤w∧w≤200∧1≤h∧h≤60)
def AJ(a n size:Int):Int × Int:=
 if n≤0∨size≤a∨(a<0∧a+n≤0) then(0,0) else if a<0 then(0,min (a+n) size) else(a,a+min n (size-a))
def Cel.usual(c:Cel):Bool:=c.check && c.plain
structure Gr where
 w:Nat
 h:Nat
 cs:List Cel
 deriving DecidableEq
def Gr.val(g:Gr)(a:Option Addr)(cap:Nat):Value:=.agg #[.int .i64 g.w,.int .i64 g.h,.slice a g.cs.length cap]
def Gr.row(g:Gr)(y:Nat):List Cel:=(g.cs.drop (y*g.w)).take g.w
structure Gr.ok (g:Gr):Prop where
 w0:0<g.w
 w1:g.w≤200
 h0:0<g.h
 h1:g.h≤60
 len:g.cs.length=g.w*g.h
theorem Gr.ok.le{g:Gr}(h:g.ok):g.cs.length≤12000:=by
 rw[h.len];have:=Nat.mul_le_mul h.w1 h.h1;omega
theorem Gr.ok.row_lt{g:Gr}(h:g.ok){y:Nat}(a:y<g.h):y*g.w+g.w≤g.cs.length:=by
 rw[h.len,Nat.mul_comm g.w g.h];have:=Nat.mul_le_mul_right g.w (show y+1≤g.h by omega);rw[Nat.add_mul] at this;omega
theorem Gr.ok.row_len{g:Gr}(h:g.ok){y:Nat}(a:y<g.h):(g.row y).length=g.w:=by
 have:=h.row_lt a;simp [Gr.row];omega
def Gr.right(g:Gr):Bool:=(List.range g.h).all λy=>Lyc.right (g.row y)
theorem Gr.right_of{g:Gr}(h:∀y,y<g.h→Lyc.right (g.row y)=true):g.right=true:=by
 unfold Gr.right;rw[List.all_eq_true];intro y a;exact h y (List.mem_range.1 a)
theorem Gr.right_not{g:Gr}{y:Nat}(a:y<g.h)(h:Lyc.right (g.row y)=false):g.right=false:=by
 unfold Gr.right;rw[List.all_eq_false];exact⟨y,List.mem_range.2 a,by simp [h]⟩
theorem Gr.right.at{g:Gr}(h:g.right=true){y:Nat}(a:y<g.h):Lyc.right (g.row y)=true:=by
 unfold Gr.right at h;rw[List.all_eq_true] at h;exact h y (List.mem_range.2 a)
theorem Gr.ok.fits{g:Gr}(h:g.ok):BF g.w g.h=true:=by
 have:=h.w0;have:=h.w1;have:=h.h0;have:=h.h1;unfold BF;apply decide_eq_true;omega
theorem Gr.ok.ne{g:Gr}(h:g.ok):g.cs≠[]:=by
 intro a;have:=h.len;rw[a] at this;have b:=h.w0;have c:=h.h0;have:=Nat.mul_pos b c;simp at *;omega
variable {α:Type}
def A7(R:Nat→List α):Nat→List α
 | 0=>[]
 | h+1=>A7 R h++R h
theorem Ep{R:Nat→List α}{w:Nat}:∀{h:Nat},(∀y,y<h→(R y).length=w)→(A7 R h).length=h*w
 | 0,_=>by simp [A7]
 | h+1,hR=>by simp [A7,Ep (h:=h) (λy a=>hR y O),hR h O,Nat.add_mul]
theorem BS{R S:Nat→List α}:∀{h:Nat},(∀y,y<h→R y=S y)→A7 R h=A7 S h
 | 0,_=>rfl
 | h+1,hR=>by simp [A7,BS (h:=h) (λy a=>hR y O),hR h O]
theorem I2(R:Nat→List α)(y:Nat):∀d:Nat,∃a,∀S:Nat→List α,(∀k,k≠y→S k=R k)→A7 S (y+1+d)=A7 R y++S y++a
 | 0=>⟨[],λS b=>by simp [A7,BS (h:=y) (λk c=>b k O)]⟩
 | d+1=>by
  obtain⟨a,h⟩:=I2 R y d;refine⟨a++R (y+1+d),λS b=>?_⟩;rw[←Nat.add_assoc];simp only[A7];rw[h S b,b (y+1+d) O];simp
theorem fb{R:Nat→List α}{w h:Nat}(a:∀y,y<h→(R y).length=w){y:Nat}(b:y<h):((A7 R h).drop (y*w)).take w=R y:=by
 obtain⟨d,rfl⟩:∃d,h=y+1+d:=⟨h-(y+1),O⟩;obtain⟨c,e⟩:=I2 R y d;rw[e R (λ_ _=>rfl)];have f:=Ep (R:=R) (w:=w) (h:=y) (λk g=>a k O);rw[rJ,List.drop_append,f];have i:=a y O;simp [List.drop_eq_nil_of_le,f,i]
theorem Q6{w:Nat}:∀{h:Nat} (l:List α),l.length=h*w→A7 (λy=>(l.drop (y*w)).take w) h=l
 | 0,l,hl=>by simp at hl;subst hl;rfl
 | h+1,l,hl=>by
  rw[Nat.add_mul] at hl;have a:=Q6 (w:=w) (h:=h) (l.take (h*w)) (by simp;omega);have b:A7 (λy=>(l.drop (y*w)).take w) h=A7 (λy=>((l.take (h*w)).drop (y*w)).take w) h:=by
   refine BS λy c=>?_;have:=Nat.mul_le_mul_right w (show y+1≤h by omega);rw[Nat.add_mul] at this;rw[List.drop_take,List.take_take,Nat.min_eq_left O]
  show A7 _ h++(l.drop (h*w)).take w=l;rw[b,a,List.take_of_length_le (l:=l.drop (h*w)) (by simp;omega),List.take_append_drop]
theorem Gr.ok.rows{g:Gr}(h:g.ok):A7 g.row g.h=g.cs:=by
 have:=Q6 (w:=g.w) (h:=g.h) g.cs (by rw[h.len,Nat.mul_comm]);exact this
def Gr.of(w h:Nat)(R:Nat→List Cel):Gr:=⟨w,h,A7 R h⟩
theorem Gr.of_ok{w h:Nat}{R:Nat→List Cel}(w0:0<w)(w1:w≤200)(a:0<h)(b:h≤60)(c:∀y,y<h→(R y).length=w):(Gr.of w h R).ok:=
 ⟨w0,w1,a,b,by simp [Gr.of,Ep c,Nat.mul_comm]⟩
theorem Gr.of_row{w h:Nat}{R:Nat→List Cel}(a:∀y,y<h→(R y).length=w){y:Nat}(b:y<h):(Gr.of w h R).row y=R y:=fb a b
def Gr.chg(g:Gr)(top fin:Int)(f:Nat→List Cel):Gr:=Gr.of g.w g.h λy=>if top≤y∧(y:Int)<fin then Au (f y) else g.row y
theorem Gr.chg_rows{g:Gr}(h:g.ok){top fin:Int}{f:Nat→List Cel}(a:∀y,y<g.h→top≤(y:Int)→(y:Int)<fin→(f y).length=g.w)(y:Nat)(b:y<g.h):(if top≤y∧(y:Int)<fin then Au (f y) else g.row y).length=g.w:=by
 split
 ·rename_i c;rw[Cj,a y b c.1 c.2]
 ·exact h.row_len b
theorem Gr.chg_ok{g:Gr}(h:g.ok){top fin:Int}{f:Nat→List Cel}(a:∀y,y<g.h→top≤(y:Int)→(y:Int)<fin→(f y).length=g.w):(g.chg top fin f).ok:=
 Gr.of_ok h.w0 h.w1 h.h0 h.h1 (Gr.chg_rows h a)
theorem Gr.chg_len{g:Gr}(h:g.ok){top fin:Int}{f:Nat→List Cel}(a:∀y,y<g.h→top≤(y:Int)→(y:Int)<fin→(f y).length=g.w):(g.chg top fin f).cs.length=g.cs.length:=by
 rw[(Gr.chg_ok h a).len,h.len];rfl
theorem Gr.chg_row{g:Gr}(h:g.ok){top fin:Int}{f:Nat→List Cel}(a:∀y,y<g.h→top≤(y:Int)→(y:Int)<fin→(f y).length=g.w){y:Nat}(b:y<g.h):(g.chg top fin f).row y=if top≤y∧(y:Int)<fin then Au (f y) else g.row y:=
 Gr.of_row (Gr.chg_rows h a) b
def Av(n:Nat)(c:Nat→α):List α:=(List.range n).map c
theorem AP(n:Nat)(c:Nat→α):(Av n c).length=n:=by simp [Av]
theorem Dw{n:Nat}{c:Nat→α}{i:Nat}(h:i<n):(Av n c)[i]?=some (c i):=by simp [Av,h]
theorem AX{n:Nat}{c d:Nat→α}(h:∀i,i<n→c i=d i):Av n c=Av n d:=List.map_congr_left λi a=>h i (List.mem_range.1 a)
theorem NL{n:Nat}{c d:Nat→α}{i:Nat}{v:α}(a:i<n)(b:d i=v)(h:∀k,k<n→k≠i→d k=c k):(Av n c).set i v=Av n d:=by
 apply List.ext_getElem?;intro k;by_cases e:k<n
 ·rw[Dw e,List.getElem?_set];by_cases f:i=k
  ·subst f;rw[rG rfl,rG (by rw[AP];exact a),b]
  ·rw[rF f,Dw e,h k e (Ne.symm f)]
 ·rw[List.getElem?_eq_none (by rw[List.length_set,AP];omega),List.getElem?_eq_none (by rw[AP];omega)]
theorem FV{l:List α}{n:Nat}(h:l.length=n){c:Nat→α}(a:∀i,i<n→l[i]?=some (c i)):l=Av n c:=by
 apply List.ext_getElem?;intro k;by_cases b:k<n
 ·rw[Dw b,a k b]
 ·rw[List.getElem?_eq_none O,List.getElem?_eq_none (by rw[AP];omega)]
def Cel.none:Cel:=⟨0,0,0,0⟩
def Gr.at(g:Gr)(x y:Nat):Cel:=g.cs.getD (y*g.w+x) Cel.none
theorem Gr.ok.at_some{g:Gr}(h:g.ok){x y:Nat}(a:x<g.w)(b:y<g.h):g.cs[y*g.w+x]?=some (g.at x y):=by
 have:=h.row_lt b;unfold Gr.at;rw[rN,rI O];rfl
theorem Gr.ok.row_get{g:Gr}(h:g.ok){x y:Nat}(a:x<g.w)(b:y<g.h):(g.row y)[x]?=some (g.at x y):=by
 unfold Gr.row;rw[List.getElem?_take_of_lt a,List.getElem?_drop,h.at_some a b]
theorem Gr.ok.row_line{g:Gr}(h:g.ok){y:Nat}(a:y<g.h):g.row y=Av g.w λx=>g.at x y:=
 FV (h.row_len a) λ_ b=>h.row_get b a
theorem Ef{x n size:Int}(h:0≤size):0≤(AJ x n size).1∧(AJ x n size).1≤(AJ x n size).2∧(AJ x n size).2≤size:=by
 unfold AJ;split
 ·simp;omega
 ·split<;>simp<;>omega
theorem BX{x n size:Int}{i:Int}(a:0≤i)(b:i<size):((AJ x n size).1≤i∧i<(AJ x n size).2)↔(x≤i∧i<x+n):=by
 unfold AJ;split
 ·simp;omega
 ·split<;>simp<;>omega
def Gr.fill(g:Gr)(X Y W H:Int)(c:Cel):Gr:=
 g.chg (AJ Y H g.h).1 (AJ Y H g.h).2 λy=>Av g.w λx=>if(AJ X W g.w).1≤(x:Int)∧(x:Int)<(AJ X W g.w).2 then c else g.at x y
def Gr.plain(w h:Nat)(c:Cel):Gr:=⟨w,h,List.replicate (w*h) c⟩
theorem Gr.plain_ok{w h:Nat}(w0:0<w)(w1:w≤200)(a:0<h)(b:h≤60)(c:Cel):(Gr.plain w h c).ok:=⟨w0,w1,a,b,by simp [Gr.plain]⟩
theorem Gr.plain_at{w h:Nat}(w0:0<w)(w1:w≤200)(a:0<h)(b:h≤60)(c:Cel){x y:Nat}(d:x<w)(e:y<h):(Gr.plain w h c).at x y=c:=by
 have f:=(Gr.plain_ok w0 w1 a b c).at_some (x:=x) (y:=y) d e;have g:(List.replicate (w*h) c)[y*w+x]?=some ((Gr.plain w h c).at x y):=f;rw[List.getElem?_replicate] at g;split at g
 ·exact(Option.some.inj g).symm
 ·exact absurd g Z
def Gr.put(g:Gr)(X Y:Int)(l:List Cel):Gr:=
 g.chg (AJ Y 1 g.h).1 (AJ Y 1 g.h).2 λy=>Av g.w λx=>if(AJ X l.length g.w).1≤(x:Int)∧(x:Int)<(AJ X l.length g.w).2 then l.getD ((x:Int)-X).toNat Cel.none else g.at x y
def Gr.scrollF(g:Gr)(top fin n:Int)(c:Cel)(y:Nat):List Cel:=if(y:Int)+n<top∨fin≤(y:Int)+n then Av g.w λ_=>c else g.row ((y:Int)+n).toNat
def Gr.scroll(g:Gr)(top fin n:Int)(c:Cel):Gr:=
 g.chg (min (max top 0) g.h) (min (max fin 0) g.h) (g.scrollF (min (max top 0) g.h) (min (max fin 0) g.h) (min (max n (-g.h)) g.h) c)
def Gr.shiftF(g:Gr)(X n:Int)(c:Cel)(y:Nat):List Cel:=
 Av g.w λx=>if X≤(x:Int) then(if X≤(x:Int)-n∧(x:Int)-n<g.w then g.at ((x:Int)-n).toNat y else c) else g.at x y
def Gr.shift(g:Gr)(X Y n:Int)(c:Cel):Gr:=
 g.chg (AJ Y 1 g.h).1 (AJ Y 1 g.h).2 (g.shiftF (max X 0) (min (max n (-g.w)) g.w) c)
def Gr.blit(g f:Gr)(X Y:Int):Gr:=
 g.chg (AJ Y f.h g.h).1 (AJ Y f.h g.h).2 λy=>Av g.w λx=>if(AJ X f.w g.w).1≤(x:Int)∧(x:Int)<(AJ X f.w g.w).2 then(if 0≤(y:Int)-Y∧(y:Int)-Y<f.h∧0≤(x:Int)-X∧(x:Int)-X<f.w then f.at ((x:Int)-X).toNat ((y:Int)-Y).toNat else Cel.none) else g.at x y
def Gr.resize(g:Gr)(w h:Nat)(c:Cel):Gr:=
 (Gr.plain w h c).chg 0 (min (h:Int) g.h) λy=>Av w λx=>if x<g.w then g.at x y else(Gr.plain w h c).at x y
theorem Gr.ok.scrollF_len{g:Gr}(a:g.ok){T E N:Int}{c:Cel}(b:0≤T)(d:E≤g.h)(y:Nat):(g.scrollF T E N c y).length=g.w:=by
 unfold Gr.scrollF;by_cases h:(y:Int)+N<T∨E≤(y:Int)+N
 ·rw[rG h];exact AP _ _
 ·rw[rF h];exact a.row_len O
structure Act' where
  kind:Int
  r:Int
  priv:Int
  mid:Int
  n:Int
  n0:Int
  n1:Int
  n2:Int
  n3:Int
  n4:Int
  n5:Int
  n6:Int
  n7:Int
deriving DecidableEq
def Act'.nums(a:Act'):List Int:=[a.n0,a.n1,a.n2,a.n3,a.n4,a.n5,a.n6,a.n7]
@[go_sem] def Act'.cells(a:Act'):List Value:=[.int .i64 a.kind,.int .i32 a.r,.int .u8 a.priv,.int .u8 a.mid,.int .i64 a.n,.int .i64 a.n0,.int .i64 a.n1,.int .i64 a.n2,.int .i64 a.n3,.int .i64 a.n4,.int .i64 a.n5,.int .i64 a.n6,.int .i64 a.n7]
@[go_sem] def Act'.val(a:Act'):Value:=.agg #[.int .i64 a.kind,.int .i32 a.r,.int .u8 a.priv,.int .u8 a.mid,.int .i64 a.n,.int .i64 a.n0,.int .i64 a.n1,.int .i64 a.n2,.int .i64 a.n3,.int .i64 a.n4,.int .i64 a.n5,.int .i64 a.n6,.int .i64 a.n7]
theorem Act'.len(a:Act'):a.cells.length=13:=rfl
theorem Act'.ok(a:Act'):AV a.cells=true:=rfl
def Bn(n:Int):Prop:=-9223372036854775808≤n∧n≤9223372036854775807
structure Act'.fits (a:Act'):Prop where
  r0:-2147483648≤a.r
  r1:a.r≤2147483647
  n:Bn a.n
  nums:∀x∈a.nums,Bn x
def Act'.num(a:Act')(i:Nat)(AS:Int):Int:=if 8≤i∨a.n≤i then AS else max (a.nums.getD i 0) AS
structure Sav where
  x:Nat
  y:Nat
  pen:Cel
deriving DecidableEq
@[go_sem] def Sav.cells(s:Sav):List Value:=[.int .i64 s.x,.int .i64 s.y,.int .i32 s.pen.r,.int .u8 s.pen.fg.toNat,.int .u8 s.pen.bg.toNat,.int .u8 s.pen.a.toNat]
def Sav.zero:Sav:=⟨0,0,Cel.none⟩
structure Scr where
  w:Nat
  h:Nat
  g0:Gr
  g1:Gr
  s0:Sav
  s1:Sav
  alt:Bool
  now:Sav
  top:Nat
  fin:Nat
  tabs:List Bool
  wraps:Bool
  waits:Bool
  shown:Bool
  gone:List (List Cel)
def DO:List Bool:=(List.range 200).map λx=>decide (x % 8=0∧8≤x)
def Scr.renew(S:Scr):Scr:=⟨S.w,S.h,Gr.plain S.w S.h Cel.blank,Gr.plain S.w S.h Cel.blank,.zero,.zero,false,.zero,0,S.h,DO,true,false,true,S.gone⟩
def Scr.new(w h:Nat):Scr:=⟨w,h,Gr.plain w h Cel.blank,Gr.plain w h Cel.blank,.zero,.zero,false,.zero,0,h,DO,true,false,true,[]⟩
def Scr.cur(S:Scr):Gr:=bif S.alt then S.g1 else S.g0
def Scr.setCur(S:Scr)(g:Gr):Scr:=bif S.alt then { S with g1:=g } else { S with g0:=g }
def Scr.free(S:Scr):Cel:=⟨32,0,S.now.pen.bg,0⟩
def Ay(x:Int)(n:Nat):Nat:=(min (max x 0) ((n:Int)-1)).toNat
def Scr.at(S:Scr)(x y:Nat):Scr:={ S with now:={ S.now with x:=x,y:=y } }
def Scr.move(S:Scr)(x y:Int):Scr:=S.at (Ay x S.w) (Ay y S.h)
def Scr.save(S:Scr):Scr:=bif S.alt then { S with s1:=S.now } else { S with s0:=S.now }
def Scr.restore(S:Scr):Scr:={ S with now:=bif S.alt then S.s1 else S.s0,waits:=false }
def Scr.line(S:Scr)(f:Gr→Gr):Scr:=S.setCur (Gr.of S.w S.h λy=>if y=S.now.y then(f ⟨S.w,1,S.cur.row y⟩).cs else S.cur.row y)
def Scr.erase(S:Scr)(x n:Int):Scr:=S.line λg=>g.fill x 0 n 1 S.free
def Scr.clear(S:Scr)(y n:Int):Scr:=S.setCur (S.cur.fill 0 y S.w n S.free)
def Scr.scroll(S:Scr)(top n:Int):Scr:=S.setCur (S.cur.scroll top S.fin n S.free)
def DX(l:List (List Cel)):List (List Cel):=l.drop (l.length-500)
def Scr.keep(S:Scr)(n:Int):Scr:=if S.top=0∧S.alt=false then { S with gone:=DX (S.gone++(List.range (min n S.fin).toNat).map S.g0.row) } else S
def Scr.up(S:Scr)(n:Int):Scr:=(S.keep n).scroll S.top n
def Scr.below(S:Scr):Scr:=if S.now.y+1=S.fin then S.up 1 else if S.now.y+1<S.h then S.at S.now.x (S.now.y+1) else S
def Scr.above(S:Scr):Scr:=if S.now.y=S.top then S.scroll S.top (-1) else if 0<S.now.y then S.at S.now.x (S.now.y-1) else S
def Scr.wrapped(S:Scr):Scr:=if S.waits then(S.at 0 S.now.y).below else S
def Scr.roomFor(S:Scr)(n:Nat):Scr:=if S.w<S.now.x+n then(if S.wraps then(S.at 0 S.now.y).below else S.at (S.w-n) S.now.y) else S
def Scr.lay(S:Scr)(r:Int)(n:Nat):Scr:=
  let T:=(S.line λg=>g.put S.now.x 0 (A8 r S.now.pen))
  if S.now.x+n=S.w then { T.at (S.w-1) S.now.y with waits:=S.wraps } else { T.at (S.now.x+n) S.now.y with waits:=false }
def Scr.print(S:Scr)(r:Int):Scr:=
  if AN r=0∨(S.w:Int)<AN r then S else((S.wrapped).roomFor (AN r).toNat).lay r (AN r).toNat
def Co(a:List Bool)(w:Nat):Nat→Nat→Nat
  | 0,x=>x
  | k+1,x=>if x<w∧a.getD x false=false then Co a w k (x+1) else x
def Scr.tab(S:Scr):Scr:=S.at (min (Co S.tabs S.w (S.w-(S.now.x+1)) (S.now.x+1)) (S.w-1)) S.now.y
def Scr.calm(S:Scr):Scr:={ S with waits:=false }
def Scr.ctl(S:Scr)(r:Int):Scr:=
  if r=8 then(S.at (S.now.x-1) S.now.y).calm
  else if r=9 then S.tab.calm
  else if r=10∨r=11∨r=12 then S.below.calm
  else if r=13 then(S.at 0 S.now.y).calm
  else S
def Scr.esc(S:Scr)(r:Int):Scr:=
  if r=55 then S.save
  else if r=72 then { S with tabs:=S.tabs.set S.now.x true }
  else if r=69 then(S.at 0 S.now.y).below.calm
  else if r=68 then S.below.calm
  else if r=77 then S.above.calm
  else if r=56 then S.restore.calm
  else if r=99 then S.renew.calm
  else S
def Scr.mode(S:Scr)(n:Int)(a:Bool):Scr:=
  if n=7 then { S with wraps:=a,waits:=S.waits && a }
  else if n=25 then { S with shown:=a }
  else if n=47∨n=1047∨n=1049 then
    (if a=true∧S.alt=false then { S.save with alt:=true,g1:=Gr.plain S.w S.h Cel.blank,waits:=false }
     else if a=false∧S.alt=true then { S with alt:=false }.restore
     else S)
  else S
def Scr.modes(S:Scr)(l:List Int)(a:Bool):Scr:=l.foldl (λS n=>S.mode n a) S
def Scr.moved(S:Scr)(a:Act'):Option Scr:=
  let n:=min (a.num 0 1) 9999
  let up:=λ(S:Scr)=>S.at S.now.x (max ((S.now.y:Int)-n) (if S.top≤S.now.y then S.top else 0)).toNat
  let b:=λ(S:Scr)=>S.at S.now.x (min ((S.now.y:Int)+n) (if S.now.y+1≤S.fin then S.fin-1 else S.h-1)).toNat
  if a.r=70 then some (up (S.at 0 S.now.y))
  else if a.r=65 then some (up S)
  else if a.r=69 then some (b (S.at 0 S.now.y))
  else if a.r=66 then some (b S)
  else if a.r=67 then some (S.move (S.now.x+n) S.now.y)
  else if a.r=68 then some (S.move (S.now.x-n) S.now.y)
  else if a.r=71∨a.r=96 then some (S.move (n-1) S.now.y)
  else if a.r=100 then some (S.move S.now.x (n-1))
  else if a.r=72∨a.r=102 then some (S.move (a.num 1 1-1) (n-1))
  else if a.r=117 then some S.restore
  else none
def Scr.region(S:Scr)(top fin:Int):Scr:=
  let f:=if fin=0∨(S.h:Int)<fin then(S.h:Int) else fin
  if top<f-1 then { S with top:=top.toNat,fin:=f.toNat }.move 0 0 else S
def Scr.wipeRows(S:Scr)(k:Int):Scr:=if k=0 then S.clear ((S.now.y:Int)+1) S.h else if k=1 then S.clear 0 S.now.y else if k=2 then S.clear 0 S.h else S
def Scr.wipeLine(S:Scr)(k:Int):Scr:=if k=0 then S.erase S.now.x S.w else if k=1 then S.erase 0 ((S.now.x:Int)+1) else if k=2 then S.erase 0 S.w else S
def Scr.shiftRows(S:Scr)(n:Int):Scr:=if S.top≤S.now.y∧S.now.y<S.fin then(S.scroll S.now.y (-n)).at 0 S.now.y else S
def Scr.changed(S:Scr)(a:Act'):Option Scr:=
  let n:=min (a.num 0 1) 9999
  if a.r=74 then some ((S.wipeRows (a.num 0 0)).wipeLine (a.num 0 0))
  else if a.r=75 then some (S.wipeLine (a.num 0 0))
  else if a.r=77 then some (S.shiftRows (-n))
  else if a.r=76 then some (S.shiftRows n)
  else if a.r=80 then some (S.line λg=>g.shift S.now.x 0 (-n) S.free)
  else if a.r=64 then some (S.line λg=>g.shift S.now.x 0 n S.free)
  else if a.r=88 then some (S.erase S.now.x n)
  else if a.r=83 then some (S.up n)
  else if a.r=84 then some (S.scroll S.top (-n))
  else if a.r=114 then some (S.region (n-1) (a.num 1 0))
  else none
def way(n:Nat):BitVec 8:=[0#8,1#8,2#8,4#8,8#8,16#8,0#8,32#8].getD n 0#8
def hue(n:Int):BitVec 8:=BitVec.ofInt 8 (max n 1)
def B8(c:Cel)(n:Int):Cel:=
  if n=0 then { c with fg:=0,bg:=0,a:=0 }
  else if 0<n∧n<8 then { c with a:=c.a ||| way n.toNat }
  else if n=22 then { c with a:=c.a &&& ~~~3#8 }
  else if 23≤n∧n≤27 then { c with a:=c.a &&& ~~~(way (n-20).toNat) }
  else if 30≤n∧n≤37 then { c with fg:=hue (n-30) }
  else if n=39 then { c with fg:=0 }
  else if 40≤n∧n≤47 then { c with bg:=hue (n-40) }
  else if n=49 then { c with bg:=0 }
  else if 90≤n∧n≤97 then { c with fg:=hue (n-82) }
  else if 100≤n∧n≤107 then { c with bg:=hue (n-92) }
  else c
def BP(n:Int):Int:=(min (max n 0) 255) / 43
def rgb(r g b:Int):BitVec 8:=BitVec.ofInt 8 (16+36*BP r+6*BP g+BP b)
def AI:List Int→Option (BitVec 8) × List Int
  | 5::n::l=>(if 0≤n∧n≤255 then some (hue n) else none,l)
  | 2::r::g::b::l=>(some (rgb r g b),l)
  | _=>(none,[])
theorem Ro(l:List Int):(AI l).2.length≤l.length:=by
  unfold AI;split<;>simp<;>omega
def Cn:Nat→List Int→Cel→Cel
  | 0,_,c=>c
  | _+1,[],c=>c
  | k+1,n::l,c =>
    if n=38 then Cn k (AI l).2 (match (AI l).1 with|some x=>{ c with fg:=x }|none=>c)
    else if n=48 then Cn k (AI l).2 (match (AI l).1 with|some x=>{ c with bg:=x }|none=>c)
    else Cn k l (B8 c n)
def Act'.left(a:Act'):List Int:=let l:=a.nums.take (min (max a.n 0) 8).toNat;if l=[] then[0] else l
def D2(c:Cel)(a:Act'):Cel:=if a.kind≠4∨a.r≠109∨a.priv≠0∨a.mid≠0 then c else Cn 9 a.left c
def Scr.set(S:Scr)(a:Act'):Option Scr:=
  if a.r=109 then some { S with now:={ S.now with pen:=D2 S.now.pen a } }
  else if a.r=103 then some (if a.num 0 0=0 then { S with tabs:=S.tabs.set S.now.x false } else if a.num 0 0=3 then { S with tabs:=List.replicate 200 false } else S)
  else if a.r=115 then some S.save
  else none
def Scr.csi(S:Scr)(a:Act'):Scr:=
  if a.priv=63∧a.mid=0∧(a.r=104∨a.r=108) then S.modes (a.nums.take (min (max a.n 0) 8).toNat) (decide (a.r=104))
  else if a.priv≠0∨a.mid≠0 then S
  else match S.set a with
    | some T=>T
    | none=>match S.moved a with
      | some T=>T.calm
      | none=>match S.changed a with
        | some T=>T.calm
        | none=>S
def Scr.act(S:Scr)(a:Act'):Scr:=
  if a.kind=1 then S.print a.r
  else if a.kind=2 then S.ctl a.r
  else if a.kind=3 then(if a.mid=0 then S.esc a.r else S)
  else if a.kind=4 then S.csi a
  else S
def Scr.acts(S:Scr)(l:List Act'):Scr:=l.foldl Scr.act S
def Scr.resize(S:Scr)(w h:Nat):Scr:=
  { (⟨w,h,S.g0.resize w h Cel.blank,S.g1.resize w h Cel.blank,⟨Ay S.s0.x w,Ay S.s0.y h,S.s0.pen⟩,⟨Ay S.s1.x w,Ay S.s1.y h,S.s1.pen⟩,S.alt,S.now,0,h,S.tabs,S.wraps,false,S.shown,S.gone⟩:Scr).move S.now.x S.now.y with waits:=false }
def ER(r:Int)(b:UInt8):Int:=Ba .or .i32 (IntKind.i32.wrap (r*64)) (IntKind.i32.wrap (Ba .and .u8 b.toNat 63))
def BL(s:List UInt8):Nat→Int→Nat→Nat→Nat→Int × Nat × Bool
 | 0,r,n,_,_=>(r,n,false)
 | k+1,r,n,lo,hi =>
  match s[n]? with
  | none=>(65533,n,true)
  | some b=>if b.toNat<lo∨hi<b.toNat then(65533,n,false) else BL s k (ER r b) (n+1) 128 191
def CD(h:Nat):Nat:=if h=224 then 160 else if h=240 then 144 else 128
def CV(h:Nat):Nat:=if h=237 then 159 else if h=244 then 143 else 191
def AL(h:Nat):Nat:=if 194≤h∧h≤223 then 1 else if 224≤h∧h≤239 then 2 else if 240≤h∧h≤244 then 3 else 0
def CM(h:Nat):Int:=IntKind.i32.wrap (Ba .and .u8 h (if AL h=1 then 31 else if AL h=2 then 15 else 7))
def first(s:List UInt8):Int × Nat × Bool:=
 match s[0]? with
 | none=>(0,0,false)
 | some b =>
  if b.toNat≤127 then((b.toNat:Int),1,false)
  else if AL b.toNat=0 then(65533,1,false)
  else BL s (AL b.toNat) (CM b.toNat) 1 (CD b.toNat) (CV b.toNat)
def Bf(r:Int):Prop:=-2147483648≤r∧r≤2147483647
theorem RD(r:Int):Bf (IntKind.i32.wrap r):=by
 unfold Bf IntKind.wrap;simp [IntKind.bits,IntKind.signed];omega
theorem Rf(r:Int)(b:UInt8):Bf (ER r b):=RD _
theorem NM(h:Nat):Bf (CM h):=RD _
theorem RI(s:List UInt8):∀(k:Nat) (r:Int) (n f g:Nat),Bf r→n≤s.length →
  Bf (BL s k r n f g).1∧n≤(BL s k r n f g).2.1∧(BL s k r n f g).2.1≤s.length∧(BL s k r n f g).2.1≤n+k∧((BL s k r n f g).2.2=true→s.length≤n+k)
 | 0,r,n,f,g,h,hn=>⟨h,rH _,hn,by simp [BL],by simp [BL]⟩
 | k+1,r,n,f,g,h,hn=>by
  unfold BL;cases i:s[n]? with
  | none =>
   have:=List.getElem?_eq_none_iff.1 i;exact⟨by show Bf 65533;unfold Bf;omega,rH _,hn,by dsimp only;omega,λ_=>O⟩
  | some b =>
   have j:=(rO.1 i).1;dsimp only;split
   ·exact⟨by show Bf 65533;unfold Bf;omega,rH _,hn,by dsimp only;omega,Z⟩
   ·obtain⟨a,l,c,d,e⟩:=RI s k (ER r b) (n+1) 128 191 (Rf r b) j;exact⟨a,O,c,O,λh=>by have:=e h;omega⟩
theorem El(s:List UInt8)(h:s≠[]):Bf (first s).1∧1≤(first s).2.1∧(first s).2.1≤s.length∧((first s).2.2=true→s.length≤4):=by
 cases s with
 | nil=>exact absurd rfl h
 | cons b l =>
  have f:=b.toNat_lt;unfold first
  show Bf (if b.toNat≤127 then((b.toNat:Int),1,false) else _).1∧_;simp only[List.getElem?_cons_zero];split
  ·exact⟨by show Bf (b.toNat:Int);unfold Bf;omega,rH _,Z,Z⟩
  split
  ·exact⟨by show Bf 65533;unfold Bf;omega,rH _,Z,Z⟩
  ·have g:AL b.toNat≤3:=by unfold AL;split<;>(try split)<;>(try split)<;>omega
   obtain⟨a,i,c,d,e⟩:=RI (b::l) (AL b.toNat) (CM b.toNat) 1 (CD b.toNat) (CV b.toNat) (NM _) Z;exact⟨a,i,c,λh=>by have:=e h;omega⟩
theorem Lu(s t:List UInt8):∀(k:Nat) (r:Int) (n a c:Nat),(BL s k r n a c).2.2=false→BL (s++t) k r n a c=BL s k r n a c
 | 0,_,_,_,_,_=>rfl
 | k+1,r,n,a,c,h=>by
  unfold BL at h ⊢;cases d:s[n]? with
  | none=>rw[d] at h;simp at h
  | some b =>
   have e:=(rO.1 d).1;rw[rL e,d];rw[d] at h;dsimp only at h ⊢;split
   ·rfl
   ·rename_i f;rw[rF f] at h;exact Lu s t k _ _ _ _ h
theorem Xg(s t:List UInt8)(h:s≠[])(a:(first s).2.2=false):first (s++t)=first s:=by
 cases s with
 | nil=>exact absurd rfl h
 | cons b l =>
  unfold first at a ⊢
  rw[List.cons_append];simp only[List.getElem?_cons_zero] at a ⊢;split
  ·rfl
  split
  ·rfl
  ·rename_i c d;rw[rF c,rF d] at a;exact Lu (b::l) t _ _ _ _ _ a
def Dc:Nat→List UInt8→List Int × List UInt8
 | 0,s=>([],s)
 | k+1,s=>match s with
  | []=>([],[])
  | b::l=>if(first (b::l)).2.2 then([],b::l) else((first (b::l)).1::(Dc k ((b::l).drop (first (b::l)).2.1)).1,(Dc k ((b::l).drop (first (b::l)).2.1)).2)
def dec(s:List UInt8):List Int × List UInt8:=Dc s.length s
theorem WH:∀(k:Nat) (s:List UInt8),s.length≤k→Dc k s=dec s:=by
 have a:∀(n:Nat) (s:List UInt8),s.length=n→∀k,n≤k→Dc k s=Dc n s:=by
  intro n
  induction n using Nat.strongRecOn with
  | ind n c =>
   intro s d k e;cases n with
   | zero =>
    have:s=[]:=rQ d;subst this;cases k<;>rfl
   | succ n =>
    cases k with
    | zero=>omega
    | succ k =>
     cases s with
     | nil=>rfl
     | cons b l =>
      have f:=El (b::l) Z;have g:((b::l).drop (first (b::l)).2.1).length≤n:=by rw[List.length_drop];omega
      unfold Dc;dsimp only;rw[c _ O _ rfl k O,c _ O _ rfl n O]
 intro k s h;exact a s.length s rfl k h
theorem HK:dec []=([],[]):=rfl
theorem EY{s:List UInt8}(h:s≠[])(a:(first s).2.2=true):dec s=([],s):=by
 cases s with
 | nil=>exact absurd rfl h
 | cons b l=>unfold dec;rw[List.length_cons];unfold Dc;dsimp only;rw[rG a]
theorem E9{s:List UInt8}(h:s≠[])(a:(first s).2.2=false):dec s=((first s).1::(dec (s.drop (first s).2.1)).1,(dec (s.drop (first s).2.1)).2):=by
 cases s with
 | nil=>exact absurd rfl h
 | cons b l =>
  have c:=El (b::l) Z;have d:((b::l).drop (first (b::l)).2.1).length≤l.length:=by rw[List.length_drop];simp;omega
  show Dc (b::l).length (b::l)=_;rw[List.length_cons];unfold Dc;dsimp only;rw[rF (by simp [a]),WH _ _ d]
theorem Kq(s:List UInt8):(∀r∈(dec s).1,Bf r)∧(dec s).1.length≤s.length∧(dec s).2.length≤4:=by
 have d:∀(n:Nat) (s:List UInt8),s.length=n→(∀r∈(dec s).1,Bf r)∧(dec s).1.length≤s.length∧(dec s).2.length≤4:=by
  intro n
  induction n using Nat.strongRecOn with
  | ind n e =>
   intro s f;by_cases h:s=[]
   ·subst h;simp [HK]
   have g:=El s h;cases i:(first s).2.2 with
   | true=>rw[EY h i];exact⟨Z,Z,g.2.2.2 i⟩
   | false =>
    obtain⟨a,b,c⟩:=e _ (show(s.drop (first s).2.1).length<n by rw[List.length_drop];omega) _ rfl;rw[E9 h i];refine⟨λr j=>?_,?_,c⟩
    ·rcases rM.1 j with rfl|j
     ·exact g.1
     ·exact a r j
    ·rw[List.length_drop] at b;simp;omega
 exact d _ s rfl
theorem VU(s t:List UInt8):dec (s++t)=((dec s).1++(dec ((dec s).2++t)).1,(dec ((dec s).2++t)).2):=by
 have a:∀(n:Nat) (s:List UInt8),s.length=n→dec (s++t)=((dec s).1++(dec ((dec s).2++t)).1,(dec ((dec s).2++t)).2):=by
  intro n
  induction n using Nat.strongRecOn with
  | ind n b =>
   intro s c;by_cases h:s=[]
   ·subst h;simp [HK]
   have d:=El s h;cases e:(first s).2.2 with
   | true=>rw[EY h e];simp
   | false =>
    have f:s++t≠[]:=by simp [h]
    have g:=Xg s t h e;rw[E9 f (by rw[g];exact e),g,E9 h e,List.drop_append_of_le_length d.2.2.1,b _ (by rw[List.length_drop];omega) _ rfl];rfl
 exact a _ s rfl
theorem RZ(s:List UInt8):dec (dec s).2=([],(dec s).2):=by
 have a:∀(n:Nat) (s:List UInt8),s.length=n→dec (dec s).2=([],(dec s).2):=by
  intro n
  induction n using Nat.strongRecOn with
  | ind n b =>
   intro s c;by_cases h:s=[]
   ·subst h;rfl
   have d:=El s h;cases e:(first s).2.2 with
   | true=>rw[EY h e];exact EY h e
   | false =>
    rw[E9 h e];exact b _ (by rw[List.length_drop];omega) _ rfl
 exact a _ s rfl
structure Esc where
 inn:Int
 priv:Int
 mid:Int
 n:Int
 nums:List Int
def Esc.new:Esc:=⟨0,0,0,0,[0,0,0,0,0,0,0,0]⟩
structure Esc.ok (E:Esc):Prop where
 len:E.nums.length=8
 n0:0≤E.n
 n9:E.n≤9
 k:∀x∈E.nums,0≤x∧x≤9999
theorem Esc.new_ok:Esc.new.ok:=⟨rfl,rC,rC,rC⟩
def BQ(a r b c n:Int)(l:List Int):Act':=⟨a,r,b,c,n,l.getD 0 0,l.getD 1 0,l.getD 2 0,l.getD 3 0,l.getD 4 0,l.getD 5 0,l.getD 6 0,l.getD 7 0⟩
def C5:List Int:=[0,0,0,0,0,0,0,0]
def noA:Act':=⟨0,0,0,0,0,0,0,0,0,0,0,0,0⟩
def Esc.escape(E:Esc)(r:Int):Esc × Option Act':=
 if r≤47∧E.mid=0 then({ E with mid:=IntKind.u8.wrap r },none)
 else if r≤47 then({ E with mid:=255 },none)
 else if r=91∧E.mid=0 then({ Esc.new with inn:=2 },none)
 else if(r=80∨r=88∨93≤r∧r≤95)∧E.mid=0 then({ Esc.new with inn:=4 },none)
 else if r≤126∧E.mid≠255 then(Esc.new,some (BQ 3 r 0 E.mid 0 C5))
 else(Esc.new,none)
def Esc.control(E:Esc)(r:Int):Esc × Option Act':=
 if 48≤r∧r≤57∧E.mid=0 then
  (if max E.n 1≤8 then { E with n:=max E.n 1,nums:=E.nums.set (max E.n 1-1).toNat (min (E.nums.getD (max E.n 1-1).toNat 0*10+(r-48)) 9999) } else { E with n:=max E.n 1 },none)
 else if(r=58∨r=59)∧E.mid=0 then({ E with n:=min (max E.n 1+1) 9 },none)
 else if 60≤r∧r≤63∧E.priv=0∧E.mid=0∧E.n=0 then({ E with priv:=IntKind.u8.wrap r },none)
 else if r≤47∧E.mid=0 then({ E with mid:=IntKind.u8.wrap r },none)
 else if 64≤r∧r≤126 then(Esc.new,some (BQ 4 r E.priv E.mid (min E.n 8) E.nums))
 else({ Esc.new with inn:=3 },none)
def Esc.step(E:Esc)(r:Int):Esc × Option Act':=
 if r=27 then({ Esc.new with inn:=1 },none)
 else if r=24∨r=26 then(Esc.new,none)
 else if r<0∨127≤r∧r≤159∨1114111<r then(E,none)
 else if r<32∧E.inn=4 then(if r=7 then Esc.new else E,none)
 else if r<32 then(E,some (BQ 2 r 0 0 0 C5))
 else if E.inn=0 then(E,some (BQ 1 r 0 0 0 C5))
 else if E.inn=1 then E.escape r
 else if E.inn=2 then E.control r
 else if E.inn=3 then(if 64≤r∧r≤126 then Esc.new else E,none)
 else(E,none)
def Esc.feed(E:Esc):List Int→Esc × List Act'
 | []=>(E,[])
 | r::l=>((Esc.feed (E.step r).1 l).1,(E.step r).2.toList++(Esc.feed (E.step r).1 l).2)
theorem Esc.feed_append(E:Esc)(l m:List Int):E.feed (l++m)=(((E.feed l).1.feed m).1,(E.feed l).2++((E.feed l).1.feed m).2):=by
 induction l generalizing E with
 | nil=>rfl
 | cons r l a=>simp only[List.cons_append,Esc.feed];rw[a];simp
theorem Im{a r b c n:Int}{l:List Int}(d:Bf r)(e:0≤n)(n1:n≤9)(f:∀x∈l,0≤x∧x≤9999):(BQ a r b c n l).fits:=by
 have g:∀i,0≤l.getD i 0∧l.getD i 0≤9999:=λi=>by
  rw[rN];cases h:l[i]? with
  | none=>simp
  | some x=>exact f x (List.mem_of_getElem? h)
 refine⟨d.1,d.2,by unfold Bn;show -9223372036854775808≤n∧n≤9223372036854775807;omega,λx j=>?_⟩;have:∃i,x=l.getD i 0:=by
  simp only[Act'.nums,BQ,rM,List.not_mem_nil,or_false] at j;rcases j with rfl|rfl|rfl|rfl|rfl|rfl|rfl|rfl<;>exact⟨_,rfl⟩
 obtain⟨i,rfl⟩:=this;have:=g i;unfold Bn;omega
theorem Il:∀x∈C5,0≤x∧x≤9999:=rC
theorem Esc.step_ok{E:Esc}(h:E.ok){r:Int}(b:Bf r):(E.step r).1.ok∧∀a∈(E.step r).2.toList,a.fits:=by
 have c:∀i:Int,({ Esc.new with inn:=i }:Esc).ok:=λi=>⟨rfl,by show(0:Int)≤0;decide,by show(0:Int)≤9;decide,Esc.new_ok.k⟩;unfold Esc.step;split
 ·exact⟨c 1,Z⟩
 split
 ·exact⟨Esc.new_ok,Z⟩
 split
 ·exact⟨h,Z⟩
 split
 ·refine⟨?_,Z⟩;split
  ·exact Esc.new_ok
  ·exact h
 split
 ·exact⟨h,by simp;exact Im b rC rC Il⟩
 split
 ·exact⟨h,by simp;exact Im b rC rC Il⟩
 split
 ·unfold Esc.escape;split
  ·exact⟨⟨h.len,h.n0,h.n9,h.k⟩,Z⟩
  split
  ·exact⟨⟨h.len,h.n0,h.n9,h.k⟩,Z⟩
  split
  ·exact⟨c 2,Z⟩
  split
  ·exact⟨c 4,Z⟩
  split
  ·exact⟨Esc.new_ok,by simp;exact Im b rC rC Il⟩
  ·exact⟨Esc.new_ok,Z⟩
 split
 ·have d:=h.n0;have e:=h.n9;unfold Esc.control;split
  ·refine⟨?_,Z⟩;split
   ·rename_i f g;refine⟨by simp [h.len],by show 0≤max E.n 1;omega,by show max E.n 1≤9;omega,λx j=>?_⟩;rcases List.mem_or_eq_of_mem_set j with j|rfl
    ·exact h.k x j
    ·have:0≤E.nums.getD (max E.n 1-1).toNat 0:=by
      rw[rN];cases k:E.nums[(max E.n 1-1).toNat]? with
      | none=>simp
      | some y=>exact(h.k y (List.mem_of_getElem? k)).1
     omega
   ·exact⟨h.len,by show 0≤max E.n 1;omega,by show max E.n 1≤9;omega,h.k⟩
  split
  ·exact⟨⟨h.len,by show 0≤min (max E.n 1+1) 9;omega,by show min (max E.n 1+1) 9≤9;omega,h.k⟩,Z⟩
  split
  ·exact⟨⟨h.len,h.n0,h.n9,h.k⟩,Z⟩
  split
  ·exact⟨⟨h.len,h.n0,h.n9,h.k⟩,Z⟩
  split
  ·exact⟨Esc.new_ok,by simp;exact Im b O O h.k⟩
  ·exact⟨c 3,Z⟩
 split
 ·refine⟨?_,Z⟩;split
  ·exact Esc.new_ok
  ·exact h
 ·exact⟨h,Z⟩
theorem Esc.feed_ok{E:Esc}(h:E.ok):∀{l:List Int},(∀r∈l,Bf r)→(E.feed l).1.ok∧(∀a∈(E.feed l).2,a.fits)∧(E.feed l).2.length≤l.length:=by
 intro l
 induction l generalizing E with
 | nil=>intro _;exact⟨h,by simp [Esc.feed],by simp [Esc.feed]⟩
 | cons r l d =>
  intro e;have f:=Esc.step_ok h (e r Z);obtain⟨a,b,c⟩:=d f.1 (λx g=>e x (by simp [g]));refine⟨a,λx g=>?_,?_⟩
  ·rcases List.mem_append.1 g with g|g
   ·exact f.2 x g
   ·exact b x g
  ·simp only[Esc.feed,rS,List.length_cons];have:(E.step r).2.toList.length≤1:=by cases (E.step r).2<;>simp
   omega
end Lyc
namespace Go.Proofs.YtnpkidnbhlepkaaGreat
open Lyc Go Go.Proofs.Tryz
set_option maxRecDepth 100000
def Tr(a b:Value)(K:rD):rE:=xC 163 [.const a] [200] 4 λc=>xW c (K (.tuple #[]))<|xU b 95 λc=>Loop1 (.int .i64 0) λd e=>xO .lss 3 d c λc=>xW c (Join0 (λc=>xI 95 b d λf=>xL 89 f λf=>xA 89 λg=>xS 89 g f<|xF 89 g 0 λf=>xL 3 f λf=>xO .eql 3 f (.int .i64 1) λh=>xW h (xF 89 g 1 λh=>xL 21 h λh=>xC 164 [.const a,.const h] [200,21] 0 λ_=>c)<|xO .eql 3 f (.int .i64 2) λh=>xW h (xF 89 g 1 λh=>xL 21 h λh=>xC 165 [.const a,.const h] [200,21] 0 λ_=>c)<|xO .eql 3 f (.int .i64 3) λh=>xW h (xF 89 g 3 λh=>xL 5 h λh=>xO .eql 5 h (.int .u8 0) λh=>xW h (xF 89 g 1 λh=>xL 21 h λh=>xC 166 [.const a,.const h] [200,21] 0 λ_=>c)<|c)<|xO .eql 3 f (.int .i64 4) λh=>xW h (xL 89 g λh=>xC 167 [.const a,.const h] [200,89] 0 λ_=>c)<|c)<|xO .add 3 d (.int .i64 1) λh=>e h)<|K (.tuple #[])
theorem Vj(a b:Value):Lk 106 #[a,b] (Tr a b):=lk [a,b] [(9,[10]),(16,[])] func106
theorem XK:Ad prog 106:=bd func106
def SC(a:Value)(K:rD):rE:=xC 163 [.const a] [200] 4 λb=>xW b (K (.slice none 0 0))<|xH a λb=>xF 256 b 12 λb=>xL 105 b λb=>xH a λc=>xF 256 c 12 λc=>xS 105 c (.slice none 0 0)<|K b
theorem cU(a:Value):Lk 110 #[a] (SC a):=lk [a] [] func110
theorem Wi:Ad prog 110:=bd func110
def PC(a b c:Value)(K:rD):rE:=Join1 (λd=>xC 163 [.const a] [200] 4 λe=>xW e (d (.bool true))<|xC 31 [.const b,.const c] [3,3] 50 λe=>xC 74 [.const e] [50] 4 λe=>xN 4 e λe=>d e) λe=>xW e (K (.bool false))<|xH a λe=>xF 256 e 0 λe=>xS 3 e b<|xH a λe=>xF 256 e 1 λe=>xS 3 e c<|xH a λe=>xF 256 e 6 λe=>xS 3 e (.int .i64 0)<|xH a λe=>xF 256 e 7 λe=>xS 3 e c<|Loop1 (.int .i64 0) λe d=>xO .lss 3 e (.int .i64 2) λf=>xW f (Ag<|xM a λf=>qF 256 f 2 λf=>xP (.indexAddr 100 (.const f) (.const e)) 0 λf=>qL 50 f λg=>xM a λh=>qF 256 h 2 λh=>xC 35 [] [] 60 λi=>xT (qZ 50 f g)<|xC 198 [.const g,.const b,.const c,.const i] [50,3,3,60] 50 λi=>xP (.indexAddr 100 (.const h) (.const e)) 0 λh=>xS 50 h i<|Ag<|xM a λh=>qF 256 h 3 λh=>xP (.indexAddr 254 (.const h) (.const e)) 0 λh=>qF 253 h 0 λh=>qL 3 h λh=>xM a λi=>qF 256 i 3 λi=>xP (.indexAddr 254 (.const i) (.const e)) 0 λi=>qF 253 i 1 λi=>qL 3 i λi=>xM a λg=>qF 256 g 3 λg=>xM a λf=>qF 256 f 3 λf=>xC 199 [.const a,.const h,.const i] [200,3,3] 26 λi=>xP (.extract (.const i) 0) 3 λh=>xP (.extract (.const i) 1) 3 λi=>xP (.indexAddr 254 (.const g) (.const e)) 0 λg=>qF 253 g 0 λg=>xS 3 g h<|xP (.indexAddr 254 (.const f) (.const e)) 0 λg=>qF 253 g 1 λg=>xS 3 g i<|xO .add 3 e (.int .i64 1) λg=>d g)<|Ag<|xM a λg=>qF 256 g 5 λg=>qF 253 g 0 λg=>qL 3 g λg=>xM a λd=>qF 256 d 5 λd=>qF 253 d 1 λd=>qL 3 d λd=>xC 200 [.const a,.const g,.const d] [200,3,3] 0 λ_=>xH a λd=>xF 256 d 10 λd=>xS 4 d (.bool false)<|K (.bool true)
theorem Yn(a b c:Value):Lk 155 #[a,b,c] (PC a b c):=lk [a,b,c] [(4,[16]),(18,[32])] func155
theorem ca:Ad prog 155:=bd func155
def Oq(a b:Value)(K:rD):rE:=xC 31 [.const a,.const b] [3,3] 50 λc=>xA 50 λd=>xS 50 d c<|xL 50 d λd=>xC 74 [.const d] [50] 4 λd=>xN 4 d λd=>xW d (K (.pointer none))<|xQ (.build 256 #[(0,.const a),(1,.const b)]) 256 λd=>xQ (.box 256 (.const d)) 200 λd=>xC 201 [.const d] [200] 0 λ_=>K d
theorem XS(a b:Value):Lk 156 #[a,b] (Oq a b):=lk [a,b] [] func156
theorem ZE:Ad prog 156:=bd func156
def PI(a:Value)(K:rD):rE:=Join1 (λb=>xO .eql 200 a (.pointer none) λc=>xW c (b (.bool true))<|xH a λc=>xF 256 c 0 λc=>xL 3 c λc=>xO .eql 3 c (.int .i64 0) λc=>b c) λc=>K c
theorem dA(a:Value):Lk 163 #[a] (PI a):=lk [a] [(3,[2])] func163
theorem HR:Ad prog 163:=bd func163
def Pj(a b:Value)(K:rD):rE:=xB 200 a λc=>xB 21 b λd=>xL 21 d λe=>xC 194 [.const e] [21] 3 λe=>Join1 (λf=>xO .eql 3 e (.int .i64 0) λg=>xW g (f (.bool true))<|xL 200 c λg=>xH g λg=>xF 256 g 0 λg=>xL 3 g λg=>xO .gtr 3 e g λg=>f g) λg=>xW g (K (.tuple #[]))<|Join0 (λg=>xL 200 c λf=>xH f λf=>xF 256 f 10 λf=>xL 4 f λf=>xW f (xL 200 c λf=>xH f λf=>xF 256 f 5 λf=>xF 253 f 0 λf=>xS 3 f (.int .i64 0)<|xL 200 c λf=>xC 207 [.const f] [200] 0 λ_=>g)<|g)<|Join0 (λf=>Ag<|qL 200 c λg=>xM g λg=>qF 256 g 5 λg=>qF 253 g 0 λg=>qL 3 g λg=>qP .add 3 g e λg=>qL 200 c λh=>xM h λh=>qF 256 h 0 λh=>qL 3 h λh=>qP .gtr 3 g h λh=>xW h (xL 200 c λh=>xH h λh=>xF 256 h 9 λh=>xL 4 h λh=>xW h (xL 200 c λh=>xH h λh=>xF 256 h 5 λh=>xF 253 h 0 λh=>xS 3 h (.int .i64 0)<|xL 200 c λh=>xC 207 [.const h] [200] 0 λ_=>f)<|Ag<|qL 200 c λh=>qL 200 c λg=>xM g λg=>qF 256 g 0 λg=>qL 3 g λg=>qP .sub 3 g e λg=>xM h λh=>qF 256 h 5 λh=>qF 253 h 0 λh=>xS 3 h g<|f)<|f)<|xL 200 c λh=>xQ (.makeFunc (.func 209) #[] #[.const c,.const d]) 283 λd=>xC 208 [.const h,.const d] [200,283] 0 λ_=>xL 200 c λd=>xH d λh=>xF 256 h 5 λh=>xF 253 h 0 λh=>xL 3 h λh=>xO .add 3 h e λh=>xH d λd=>xF 256 d 5 λd=>xF 253 d 0 λd=>xS 3 d h<|xL 200 c λd=>xH d λd=>xF 256 d 10 λd=>xS 4 d (.bool false)<|Ag<|qL 200 c λd=>xM d λd=>qF 256 d 5 λd=>qF 253 d 0 λd=>qL 3 d λd=>qL 200 c λh=>xM h λh=>qF 256 h 0 λh=>qL 3 h λh=>qR .eql 3 d h λh=>xW h (Ag<|qL 200 c λh=>qL 200 c λd=>xM d λd=>qF 256 d 0 λd=>qL 3 d λd=>qP .sub 3 d (.int .i64 1) λd=>xM h λh=>qF 256 h 5 λh=>qF 253 h 0 λh=>xS 3 h d<|Ag<|qL 200 c λh=>qL 200 c λc=>xM c λc=>qF 256 c 9 λc=>qL 4 c λc=>xM h λh=>qF 256 h 10 λh=>xS 4 h c<|K (.tuple #[]))<|K (.tuple #[])
theorem bY(a b:Value):Lk 164 #[a,b] (Pj a b):=lk [a,b] [(6,[16]),(10,[]),(18,[])] func164
theorem aP:Ad prog 164:=bd func164
def PB(a b:Value)(K:rD):rE:=Join0 (λc=>xO .eql 21 b (.int .i32 8) λd=>xW d (xH a λd=>xF 256 d 5 λd=>xF 253 d 0 λd=>xL 3 d λd=>xO .sub 3 d (.int .i64 1) λd=>xQ (.call { callee:=.builtin .max,args:=#[.const d,.const (.int .i64 0)],argTypes:=#[3,3] }) 3 λd=>xH a λe=>xF 256 e 5 λe=>xF 253 e 0 λe=>xS 3 e d<|c)<|xO .eql 21 b (.int .i32 9) λe=>xW e (xH a λe=>xF 256 e 5 λe=>xF 253 e 0 λe=>xL 3 e λe=>xO .add 3 e (.int .i64 1) λe=>Loop1 e λe d=>Join1 (λf=>xH a λg=>xF 256 g 0 λg=>xL 3 g λg=>xO .lss 3 e g λg=>xW g (xH a λg=>xF 256 g 8 λg=>xI 104 g e λg=>xL 4 g λg=>xN 4 g λg=>f g)<|f (.bool false)) λg=>xW g (xO .add 3 e (.int .i64 1) λg=>d g)<|xH a λg=>xF 256 g 0 λg=>xL 3 g λg=>xO .sub 3 g (.int .i64 1) λg=>xQ (.call { callee:=.builtin .min,args:=#[.const e,.const g],argTypes:=#[3,3] }) 3 λg=>xH a λe=>xF 256 e 5 λe=>xF 253 e 0 λe=>xS 3 e g<|c)<|Join1 (λe=>xO .eql 21 b (.int .i32 10) λg=>xW g (e (.bool true))<|xO .eql 21 b (.int .i32 11) λg=>xW g (e (.bool true))<|xO .eql 21 b (.int .i32 12) λg=>e g) λg=>xW g (xC 207 [.const a] [200] 0 λ_=>c)<|xO .eql 21 b (.int .i32 13) λg=>xW g (xH a λg=>xF 256 g 5 λg=>xF 253 g 0 λg=>xS 3 g (.int .i64 0)<|c)<|K (.tuple #[]))<|xH a λg=>xF 256 g 10 λg=>xS 4 g (.bool false)<|K (.tuple #[])
theorem iS(a b:Value):Lk 165 #[a,b] (PB a b):=lk [a,b] [(0,[]),(15,[4]),(18,[41]),(25,[55])] func165
theorem Um:Ad prog 165:=bd func165
def Rk(a b:Value)(K:rD):rE:=Join0 (λc=>Join0 (λd=>xO .eql 21 b (.int .i32 55) λe=>xW e (xC 211 [.const a] [200] 0 λ_=>K (.tuple #[]))<|xO .eql 21 b (.int .i32 72) λe=>xW e (Ag<|xM a λe=>qF 256 e 5 λe=>qF 253 e 0 λe=>qL 3 e λe=>xM a λf=>qF 256 f 8 λf=>xP (.indexAddr 104 (.const f) (.const e)) 0 λf=>xS 4 f (.bool true)<|K (.tuple #[]))<|xO .eql 21 b (.int .i32 69) λf=>xW f (xH a λf=>xF 256 f 5 λf=>xF 253 f 0 λf=>xS 3 f (.int .i64 0)<|d)<|xO .eql 21 b (.int .i32 68) λf=>xW f (d)<|xO .eql 21 b (.int .i32 77) λf=>xW f (xC 212 [.const a] [200] 0 λ_=>c)<|xO .eql 21 b (.int .i32 56) λf=>xW f (xC 213 [.const a] [200] 0 λ_=>c)<|xO .eql 21 b (.int .i32 99) λf=>xW f (xC 201 [.const a] [200] 0 λ_=>c)<|K (.tuple #[]))<|xC 207 [.const a] [200] 0 λ_=>c)<|xH a λf=>xF 256 f 10 λf=>xS 4 f (.bool false)<|K (.tuple #[])
theorem fJ(a b:Value):Lk 166 #[a,b] (Rk a b):=lk [a,b] [(3,[]),(13,[])] func166
theorem fo:Ad prog 166:=bd func166
def ML(a b:Value)(K:rD):rE:=xB 89 b λc=>Join1 (λd=>xF 89 c 2 λe=>xL 5 e λe=>xO .eql 5 e (.int .u8 63) λe=>xW e (xF 89 c 3 λe=>xL 5 e λe=>xO .eql 5 e (.int .u8 0) λe=>xW e (xF 89 c 1 λe=>xL 21 e λe=>xO .eql 21 e (.int .i32 104) λe=>xW e (d (.bool true))<|xF 89 c 1 λe=>xL 21 e λe=>xO .eql 21 e (.int .i32 108) λe=>d e)<|d (.bool false))<|d (.bool false)) λe=>xW e (xF 89 c 5 λe=>xF 89 c 4 λd=>xL 3 d λd=>xQ (.call { callee:=.builtin .max,args:=#[.const d,.const (.int .i64 0)],argTypes:=#[3,3] }) 3 λd=>xQ (.call { callee:=.builtin .min,args:=#[.const d,.const (.int .i64 8)],argTypes:=#[3,3] }) 3 λd=>xQ (.slice 87 (.const e) none (some (.const d)) none) 117 λd=>xU d 117 λe=>Loop1 (.int .i64 0) λf g=>xO .lss 3 f e λe=>xW e (xI 117 d f λe=>xL 3 e λe=>xF 89 c 1 λd=>xL 21 d λd=>xO .eql 21 d (.int .i32 104) λd=>xC 214 [.const a,.const e,.const d] [200,3,4] 0 λ_=>xO .add 3 f (.int .i64 1) λd=>g d)<|K (.tuple #[]))<|Join1 (λd=>xF 89 c 2 λg=>xL 5 g λg=>xO .neq 5 g (.int .u8 0) λg=>xW g (d (.bool true))<|xF 89 c 3 λg=>xL 5 g λg=>xO .neq 5 g (.int .u8 0) λg=>d g) λg=>xW g (K (.tuple #[]))<|xL 89 c λg=>xC 215 [.const a,.const g] [200,89] 4 λg=>xW g (K (.tuple #[]))<|Join1 (λg=>xL 89 c λd=>xC 216 [.const a,.const d] [200,89] 4 λd=>xW d (g (.bool true))<|xL 89 c λd=>xC 217 [.const a,.const d] [200,89] 4 λd=>g d) λd=>xW d (xH a λd=>xF 256 d 10 λd=>xS 4 d (.bool false)<|K (.tuple #[]))<|K (.tuple #[])
theorem dE(a b:Value):Lk 167 #[a,b] (ML a b):=lk [a,b] [(4,[6]),(9,[32]),(23,[43]),(31,[56])] func167
theorem WD:Ad prog 167:=bd func167
def Ri(a:Value)(K:rD):rE:=xA 50 λb=>xC 163 [.const a] [200] 4 λc=>xW c (xQ (.build 50 #[]) 50 λc=>xS 50 b c<|xD 50 b λc=>K c)<|Ag<|xM a λc=>qF 256 c 4 λc=>qL 3 c λd=>xM a λe=>qF 256 e 2 λe=>xP (.indexAddr 100 (.const e) (.const d)) 0 λe=>qL 50 e λf=>xA 50 λg=>xT (qZ 50 e f)<|xT (qZ 3 c d)<|xS 50 g f<|xF 50 g 2 λf=>xL 48 f λf=>xC 145 [.const f] [48] 48 λf=>xF 50 g 2 λe=>xS 48 e f<|xL 50 g λe=>xS 50 b e<|xD 50 b λe=>K e
theorem Uf(a:Value):Lk 192 #[a] (Ri a):=lk [a] [] func192
theorem dZ:Ad prog 192:=bd func192
def SO(a b c:Value)(K:rD):rE:=Ag<|xP (.call { callee:=.builtin .max,args:=#[.const b,.const (.int .i64 0)],argTypes:=#[3,3] }) 3 λd=>xM a λe=>qF 256 e 0 λe=>qL 3 e λe=>qP .sub 3 e (.int .i64 1) λe=>xP (.call { callee:=.builtin .min,args:=#[.const d,.const e],argTypes:=#[3,3] }) 3 λe=>xP (.call { callee:=.builtin .max,args:=#[.const c,.const (.int .i64 0)],argTypes:=#[3,3] }) 3 λd=>xM a λf=>qF 256 f 1 λf=>qL 3 f λf=>qP .sub 3 f (.int .i64 1) λf=>xP (.call { callee:=.builtin .min,args:=#[.const d,.const f],argTypes:=#[3,3] }) 3 λf=>K (.tuple #[e,f])
theorem Ux(a b c:Value):Lk 199 #[a,b,c] (SO a b c):=lk [a,b,c] [] func199
theorem Ij:Ad prog 199:=bd func199
def JF(a b c:Value)(K:rD):rE:=xC 199 [.const a,.const b,.const c] [200,3,3] 26 λd=>xE d 0 3 λe=>xE d 1 3 λd=>xH a λf=>xF 256 f 5 λf=>xF 253 f 0 λf=>xS 3 f e<|xH a λf=>xF 256 f 5 λf=>xF 253 f 1 λf=>xS 3 f d<|K (.tuple #[])
theorem Qq(a b c:Value):Lk 200 #[a,b,c] (JF a b c):=lk [a,b,c] [] func200
theorem D7:Ad prog 200:=bd func200
def SV(a:Value)(K:rD):rE:=Ag<|xM a λb=>qF 256 b 0 λb=>qL 3 b λb=>xM a λc=>qF 256 c 1 λc=>qL 3 c λc=>xM a λd=>qF 256 d 1 λd=>qL 3 d λd=>xM a λe=>qF 256 e 12 λe=>qL 105 e λe=>xQ (.build 256 #[(0,.const b),(1,.const c),(7,.const d),(9,.const (.bool true)),(11,.const (.bool true)),(12,.const e)]) 256 λe=>xM a λd=>xS 256 d e<|Loop1 (.int .i64 0) λd e=>xO .lss 3 d (.int .i64 2) λc=>xW c (Ag<|xM a λc=>qF 256 c 0 λc=>qL 3 c λc=>xM a λb=>qF 256 b 1 λb=>qL 3 b λb=>xM a λf=>qF 256 f 2 λf=>xC 31 [.const c,.const b] [3,3] 50 λb=>xP (.indexAddr 100 (.const f) (.const d)) 0 λf=>xS 50 f b<|xO .add 3 d (.int .i64 1) λf=>e f)<|Loop1 (.int .i64 8) λf e=>xO .lss 3 f (.int .i64 200) λb=>xW b (xH a λb=>xF 256 b 8 λb=>xI 104 b f λb=>xS 4 b (.bool true)<|xO .add 3 f (.int .i64 8) λb=>e b)<|K (.tuple #[])
theorem UM(a:Value):Lk 201 #[a] (SV a):=lk [a] [(6,[23]),(22,[3])] func201
theorem QB:Ad prog 201:=bd func201
def Mm(a:Value)(K:rD):rE:=Ag<|xM a λb=>qF 256 b 5 λb=>qF 253 b 1 λb=>qL 3 b λb=>xM a λc=>qF 256 c 7 λc=>qL 3 c λc=>qP .sub 3 c (.int .i64 1) λc=>qR .eql 3 b c λc=>xW c (xC 241 [.const a,.const (.int .i64 1)] [200,3] 0 λ_=>K (.tuple #[]))<|Ag<|xM a λc=>qF 256 c 5 λc=>qF 253 c 1 λc=>qL 3 c λc=>xM a λb=>qF 256 b 1 λb=>qL 3 b λb=>qP .sub 3 b (.int .i64 1) λb=>qP .lss 3 c b λb=>xW b (xH a λb=>xF 256 b 5 λb=>xF 253 b 1 λb=>xL 3 b λb=>xO .add 3 b (.int .i64 1) λb=>xH a λc=>xF 256 c 5 λc=>xF 253 c 1 λc=>xS 3 c b<|K (.tuple #[]))<|K (.tuple #[])
theorem VX(a:Value):Lk 207 #[a] (Mm a):=lk [a] [] func207
theorem Gv:Ad prog 207:=bd func207
def Nl(a b:Value)(K:rD):rE:=Ag<|xM a λc=>qF 256 c 5 λc=>qF 253 c 1 λc=>qL 3 c λc=>xM a λd=>qF 256 d 0 λd=>qL 3 d λd=>qP .mul 3 c d λd=>Ag<|xM a λc=>qF 256 c 4 λc=>qL 3 c λc=>xM a λe=>qF 256 e 2 λe=>xP (.indexAddr 100 (.const e) (.const c)) 0 λe=>qF 50 e 2 λe=>qL 48 e λe=>xM a λc=>qF 256 c 0 λc=>qL 3 c λc=>qP .add 3 d c λc=>xM a λf=>qF 256 f 0 λf=>qL 3 f λf=>qP .add 3 d f λf=>xP (.slice 48 (.const e) (some (.const d)) (some (.const c)) (some (.const f))) 48 λf=>xH a λc=>xF 256 c 0 λc=>xL 3 c λc=>xQ (.build 50 #[(0,.const c),(1,.const (.int .i64 1)),(2,.const f)]) 50 λc=>xQ (.call { callee:=.value (.const b),args:=#[.const c],argTypes:=#[50] }) 50 λc=>xA 50 λe=>xS 50 e c<|xF 50 e 2 λe=>xL 48 e λe=>xQ (.call { callee:=.builtin .copy,args:=#[.const f,.const e],argTypes:=#[48,48] }) 3 λ_=>K (.tuple #[])
theorem gS(a b:Value):Lk 208 #[a,b] (Nl a b):=lk [a,b] [] func208
theorem Ix:Ad prog 208:=bd func208
def RY(a b c:Value)(K:rD):rE:=xB 50 a λd=>xA 50 λe=>Ag<|qL 50 d λf=>qL 200 b λg=>xM g λh=>qF 256 h 5 λh=>qF 253 h 0 λh=>qL 3 h λi=>qL 21 c λj=>qL 200 b λl=>xM l λl=>qF 256 l 5 λl=>qF 253 l 2 λl=>qL 60 l λl=>xC 210 [.const j,.const l] [21,60] 48 λl=>xT (qZ 3 h i)<|xT (qZ 200 b g)<|xT (qZ 50 d f)<|xC 37 [.const f,.const i,.const (.int .i64 0),.const l] [50,3,3,48] 50 λl=>xS 50 e l<|xD 50 e λl=>K l
theorem dL(a b c:Value):Lk 209 #[a,b,c] (RY a b c):=lk [a,b,c] [] func209
theorem ZY:Ad prog 209:=bd func209
def Rs(a:Value)(K:rD):rE:=Ag<|xM a λb=>qF 256 b 4 λb=>qL 3 b λb=>xM a λc=>qF 256 c 5 λc=>qL 253 c λc=>xM a λd=>qF 256 d 3 λd=>xP (.indexAddr 254 (.const d) (.const b)) 0 λd=>xS 253 d c<|K (.tuple #[])
theorem UN(a:Value):Lk 211 #[a] (Rs a):=lk [a] [] func211
theorem Jy:Ad prog 211:=bd func211
def R1(a:Value)(K:rD):rE:=Ag<|xM a λb=>qF 256 b 5 λb=>qF 253 b 1 λb=>qL 3 b λb=>xM a λc=>qF 256 c 6 λc=>qL 3 c λc=>qR .eql 3 b c λc=>xW c (xH a λc=>xF 256 c 6 λc=>xL 3 c λc=>xC 242 [.const a,.const c,.const (.int .i64 (-1))] [200,3,3] 0 λ_=>K (.tuple #[]))<|xH a λc=>xF 256 c 5 λc=>xF 253 c 1 λc=>xL 3 c λc=>xO .gtr 3 c (.int .i64 0) λc=>xW c (xH a λc=>xF 256 c 5 λc=>xF 253 c 1 λc=>xL 3 c λc=>xO .sub 3 c (.int .i64 1) λc=>xH a λb=>xF 256 b 5 λb=>xF 253 b 1 λb=>xS 3 b c<|K (.tuple #[]))<|K (.tuple #[])
theorem XD(a:Value):Lk 212 #[a] (R1 a):=lk [a] [] func212
theorem gF:Ad prog 212:=bd func212
def LQ(a:Value)(K:rD):rE:=Ag<|xM a λb=>qF 256 b 4 λb=>qL 3 b λb=>xM a λc=>qF 256 c 3 λc=>xP (.indexAddr 254 (.const c) (.const b)) 0 λc=>qL 253 c λc=>xM a λb=>qF 256 b 5 λb=>xS 253 b c<|xH a λb=>xF 256 b 10 λb=>xS 4 b (.bool false)<|K (.tuple #[])
theorem Yc(a:Value):Lk 213 #[a] (LQ a):=lk [a] [] func213
theorem Iw:Ad prog 213:=bd func213
def Q5(a b c:Value)(K:rD):rE:=xO .eql 3 b (.int .i64 7) λd=>xW d (xH a λd=>xF 256 d 9 λd=>xS 4 d c<|Join0 (λd=>xH a λe=>xF 256 e 10 λe=>xL 4 e λe=>xW e (xH a λe=>xF 256 e 10 λe=>xS 4 e c<|d)<|xH a λe=>xF 256 e 10 λe=>xS 4 e (.bool false)<|d)<|K (.tuple #[]))<|xO .eql 3 b (.int .i64 25) λe=>xW e (xH a λe=>xF 256 e 11 λe=>xS 4 e c<|K (.tuple #[]))<|Join1 (λe=>xO .eql 3 b (.int .i64 47) λd=>xW d (e (.bool true))<|xO .eql 3 b (.int .i64 1047) λd=>xW d (e (.bool true))<|xO .eql 3 b (.int .i64 1049) λd=>e d) λd=>xW d (Join1 (λd=>xW c (xH a λe=>xF 256 e 4 λe=>xL 3 e λe=>xO .eql 3 e (.int .i64 0) λe=>d e)<|d (.bool false)) λe=>xW e (xC 211 [.const a] [200] 0 λ_=>xH a λe=>xF 256 e 4 λe=>xS 3 e (.int .i64 1)<|Ag<|xM a λe=>qF 256 e 0 λe=>qL 3 e λe=>xM a λd=>qF 256 d 1 λd=>qL 3 d λd=>xM a λf=>qF 256 f 2 λf=>xC 31 [.const e,.const d] [3,3] 50 λd=>xP (.indexAddr 100 (.const f) (.const (.int .i64 1))) 0 λf=>xS 50 f d<|xH a λf=>xF 256 f 10 λf=>xS 4 f (.bool false)<|K (.tuple #[]))<|Join1 (λf=>xN 4 c λd=>xW d (xH a λd=>xF 256 d 4 λd=>xL 3 d λd=>xO .eql 3 d (.int .i64 1) λd=>f d)<|f (.bool false)) λd=>xW d (xH a λd=>xF 256 d 4 λd=>xS 3 d (.int .i64 0)<|xC 213 [.const a] [200] 0 λ_=>K (.tuple #[]))<|K (.tuple #[]))<|K (.tuple #[])
theorem jn(a b c:Value):Lk 214 #[a,b,c] (Q5 a b c):=lk [a,b,c] [(8,[]),(13,[29]),(26,[33]),(36,[63])] func214
theorem Xe:Ad prog 214:=bd func214
def L8(a b:Value)(K:rD):rE:=xB 89 b λc=>Join0 (λd=>xF 89 c 1 λe=>xL 21 e λe=>xO .eql 21 e (.int .i32 109) λf=>xW f (Ag<|xM a λf=>qF 256 f 5 λf=>qF 253 f 2 λf=>qL 60 f λf=>qL 89 c λg=>xC 243 [.const f,.const g] [60,89] 60 λg=>xM a λf=>qF 256 f 5 λf=>qF 253 f 2 λf=>xS 60 f g<|d)<|xO .eql 21 e (.int .i32 103) λf=>xW f (xL 89 c λf=>xC 244 [.const f,.const (.int .i64 0),.const (.int .i64 0)] [89,3,3] 3 λf=>xO .eql 3 f (.int .i64 0) λc=>xW c (Ag<|xM a λc=>qF 256 c 5 λc=>qF 253 c 0 λc=>qL 3 c λc=>xM a λg=>qF 256 g 8 λg=>xP (.indexAddr 104 (.const g) (.const c)) 0 λg=>xS 4 g (.bool false)<|d)<|xO .eql 3 f (.int .i64 3) λg=>xW g (xQ (.build 104 #[]) 104 λg=>xH a λf=>xF 256 f 8 λf=>xS 104 f g<|d)<|d)<|xO .eql 21 e (.int .i32 115) λf=>xW f (xC 211 [.const a] [200] 0 λ_=>d)<|K (.bool false))<|K (.bool true)
theorem Ul(a b:Value):Lk 215 #[a,b] (L8 a b):=lk [a,b] [(2,[])] func215
theorem Vq:Ad prog 215:=bd func215
def R3(a b:Value)(K:rD):rE:=xB 89 b λc=>xL 89 c λd=>xC 244 [.const d,.const (.int .i64 0),.const (.int .i64 1)] [89,3,3] 3 λd=>xQ (.call { callee:=.builtin .min,args:=#[.const d,.const (.int .i64 9999)],argTypes:=#[3,3] }) 3 λd=>xF 89 c 1 λe=>xL 21 e λe=>Join0 (λf=>Join0 (λg=>Join0 (λh=>xO .eql 21 e (.int .i32 70) λi=>xW i (xH a λi=>xF 256 i 5 λi=>xF 253 i 0 λi=>xS 3 i (.int .i64 0)<|h)<|xO .eql 21 e (.int .i32 65) λi=>xW i (h)<|xO .eql 21 e (.int .i32 69) λi=>xW i (xH a λi=>xF 256 i 5 λi=>xF 253 i 0 λi=>xS 3 i (.int .i64 0)<|g)<|xO .eql 21 e (.int .i32 66) λi=>xW i (g)<|xO .eql 21 e (.int .i32 67) λi=>xW i (Ag<|xM a λi=>qF 256 i 5 λi=>qF 253 i 0 λi=>qL 3 i λi=>qP .add 3 i d λi=>xM a λg=>qF 256 g 5 λg=>qF 253 g 1 λg=>qL 3 g λg=>xC 200 [.const a,.const i,.const g] [200,3,3] 0 λ_=>f)<|xO .eql 21 e (.int .i32 68) λg=>xW g (Ag<|xM a λg=>qF 256 g 5 λg=>qF 253 g 0 λg=>qL 3 g λg=>qP .sub 3 g d λg=>xM a λi=>qF 256 i 5 λi=>qF 253 i 1 λi=>qL 3 i λi=>xC 200 [.const a,.const g,.const i] [200,3,3] 0 λ_=>f)<|Join1 (λi=>xO .eql 21 e (.int .i32 71) λg=>xW g (i (.bool true))<|xO .eql 21 e (.int .i32 96) λg=>i g) λg=>xW g (xO .sub 3 d (.int .i64 1) λg=>xH a λi=>xF 256 i 5 λi=>xF 253 i 1 λi=>xL 3 i λi=>xC 200 [.const a,.const g,.const i] [200,3,3] 0 λ_=>f)<|xO .eql 21 e (.int .i32 100) λi=>xW i (xH a λi=>xF 256 i 5 λi=>xF 253 i 0 λi=>xL 3 i λi=>xO .sub 3 d (.int .i64 1) λg=>xC 200 [.const a,.const i,.const g] [200,3,3] 0 λ_=>f)<|Join1 (λg=>xO .eql 21 e (.int .i32 72) λi=>xW i (g (.bool true))<|xO .eql 21 e (.int .i32 102) λi=>g i) λi=>xW i (xL 89 c λi=>xC 244 [.const i,.const (.int .i64 1),.const (.int .i64 1)] [89,3,3] 3 λi=>xO .sub 3 i (.int .i64 1) λi=>xO .sub 3 d (.int .i64 1) λc=>xC 200 [.const a,.const i,.const c] [200,3,3] 0 λ_=>f)<|xO .eql 21 e (.int .i32 117) λc=>xW c (xC 213 [.const a] [200] 0 λ_=>f)<|K (.bool false))<|Join1 (λc=>Ag<|xM a λi=>qF 256 i 5 λi=>qF 253 i 1 λi=>qL 3 i λi=>xM a λe=>qF 256 e 6 λe=>qL 3 e λe=>qP .geq 3 i e λe=>xW e (xH a λe=>xF 256 e 6 λe=>xL 3 e λe=>c e)<|c (.int .i64 0)) λe=>xH a λc=>xF 256 c 5 λc=>xF 253 c 1 λc=>xL 3 c λc=>xO .sub 3 c d λc=>xQ (.call { callee:=.builtin .max,args:=#[.const c,.const e],argTypes:=#[3,3] }) 3 λc=>xH a λe=>xF 256 e 5 λe=>xF 253 e 1 λe=>xS 3 e c<|f)<|xH a λe=>xF 256 e 1 λe=>xL 3 e λe=>xO .sub 3 e (.int .i64 1) λe=>Join1 (λc=>Ag<|xM a λi=>qF 256 i 5 λi=>qF 253 i 1 λi=>qL 3 i λi=>xM a λg=>qF 256 g 7 λg=>qL 3 g λg=>qP .sub 3 g (.int .i64 1) λg=>qP .leq 3 i g λg=>xW g (xH a λg=>xF 256 g 7 λg=>xL 3 g λg=>xO .sub 3 g (.int .i64 1) λg=>c g)<|c e) λg=>xH a λc=>xF 256 c 5 λc=>xF 253 c 1 λc=>xL 3 c λc=>xO .add 3 c d λc=>xQ (.call { callee:=.builtin .min,args:=#[.const c,.const g],argTypes:=#[3,3] }) 3 λc=>xH a λg=>xF 256 g 5 λg=>xF 253 g 1 λg=>xS 3 g c<|f)<|K (.bool true)
theorem XO(a b:Value):Lk 216 #[a,b] (R3 a b):=lk [a,b] [(7,[]),(23,[]),(27,[]),(68,[25]),(84,[30]),(103,[6]),(115,[7])] func216
theorem Vv:Ad prog 216:=bd func216
def Me(a b:Value)(K:rD):rE:=xB 200 a λc=>xB 89 b λd=>xL 89 d λe=>xC 244 [.const e,.const (.int .i64 0),.const (.int .i64 1)] [89,3,3] 3 λe=>xQ (.call { callee:=.builtin .min,args:=#[.const e,.const (.int .i64 9999)],argTypes:=#[3,3] }) 3 λe=>xA 3 λf=>xS 3 f e<|Ag<|qL 200 c λe=>xM e λg=>qF 256 g 5 λg=>qF 253 g 0 λg=>qL 3 g λh=>qL 200 c λi=>xM i λj=>qF 256 j 5 λj=>qF 253 j 1 λj=>qL 3 j λl=>xA 3 λm=>xT (qZ 3 j l)<|xT (qZ 200 c i)<|xT (qZ 3 g h)<|xT (qZ 200 c e)<|xS 3 m h<|xT (qZ 3 j l)<|xT (qZ 200 c i)<|xF 89 d 1 λj=>xL 21 j λj=>Join0 (λi=>Join0 (λh=>Join0 (λg=>Join0 (λe=>xO .eql 21 j (.int .i32 74) λn=>xW n (xL 89 d λn=>xC 244 [.const n,.const (.int .i64 0),.const (.int .i64 0)] [89,3,3] 3 λn=>xO .eql 3 n (.int .i64 0) λo=>xW o (Ag<|qL 200 c λo=>qP .add 3 l (.int .i64 1) λp=>qL 200 c λq=>xM q λq=>qF 256 q 1 λq=>qL 3 q λq=>xC 245 [.const o,.const p,.const q] [200,3,3] 0 λ_=>e)<|xO .eql 3 n (.int .i64 1) λq=>xW q (xL 200 c λq=>xC 245 [.const q,.const (.int .i64 0),.const l] [200,3,3] 0 λ_=>e)<|xO .eql 3 n (.int .i64 2) λq=>xW q (Ag<|qL 200 c λq=>qL 200 c λn=>xM n λn=>qF 256 n 1 λn=>qL 3 n λn=>xC 245 [.const q,.const (.int .i64 0),.const n] [200,3,3] 0 λ_=>e)<|e)<|xO .eql 21 j (.int .i32 75) λn=>xW n (e)<|xO .eql 21 j (.int .i32 77) λn=>xW n (xL 3 f λn=>xQ (.unOp .neg 3 (.const n)) 3 λn=>xS 3 f n<|g)<|xO .eql 21 j (.int .i32 76) λn=>xW n (g)<|xO .eql 21 j (.int .i32 80) λn=>xW n (xL 3 f λn=>xQ (.unOp .neg 3 (.const n)) 3 λn=>xS 3 f n<|h)<|xO .eql 21 j (.int .i32 64) λn=>xW n (h)<|xO .eql 21 j (.int .i32 88) λn=>xW n (xL 200 c λn=>xL 3 m λh=>xL 3 f λg=>xC 246 [.const n,.const h,.const g] [200,3,3] 0 λ_=>i)<|xO .eql 21 j (.int .i32 83) λg=>xW g (xL 200 c λg=>xL 3 f λh=>xC 241 [.const g,.const h] [200,3] 0 λ_=>i)<|xO .eql 21 j (.int .i32 84) λh=>xW h (Ag<|qL 200 c λh=>qL 200 c λg=>xM g λg=>qF 256 g 6 λg=>qL 3 g λg=>qL 3 f λn=>xP (.unOp .neg 3 (.const n)) 3 λn=>xC 242 [.const h,.const g,.const n] [200,3,3] 0 λ_=>i)<|xO .eql 21 j (.int .i32 114) λn=>xW n (Ag<|qL 200 c λn=>qL 3 f λg=>qP .sub 3 g (.int .i64 1) λh=>qL 89 d λj=>xC 244 [.const j,.const (.int .i64 1),.const (.int .i64 0)] [89,3,3] 3 λj=>xT (qZ 3 f g)<|xT (qZ 200 c n)<|xC 250 [.const n,.const h,.const j] [200,3,3] 0 λ_=>i)<|K (.bool false))<|xL 89 d λj=>xC 244 [.const j,.const (.int .i64 0),.const (.int .i64 0)] [89,3,3] 3 λj=>xO .eql 3 j (.int .i64 0) λh=>xW h (Ag<|qL 200 c λh=>qL 3 m λg=>qL 200 c λn=>xM n λn=>qF 256 n 0 λn=>qL 3 n λn=>xC 246 [.const h,.const g,.const n] [200,3,3] 0 λ_=>i)<|xO .eql 3 j (.int .i64 1) λn=>xW n (xL 200 c λn=>xL 3 m λg=>xO .add 3 g (.int .i64 1) λg=>xC 246 [.const n,.const (.int .i64 0),.const g] [200,3,3] 0 λ_=>i)<|xO .eql 3 j (.int .i64 2) λg=>xW g (Ag<|qL 200 c λg=>qL 200 c λn=>xM n λn=>qF 256 n 0 λn=>qL 3 n λn=>xC 246 [.const g,.const (.int .i64 0),.const n] [200,3,3] 0 λ_=>i)<|i)<|Join1 (λn=>xL 200 c λg=>xH g λg=>xF 256 g 6 λg=>xL 3 g λg=>xO .geq 3 l g λg=>xW g (xL 200 c λg=>xH g λg=>xF 256 g 7 λg=>xL 3 g λg=>xO .lss 3 l g λg=>n g)<|n (.bool false)) λg=>xW g (xL 200 c λg=>xL 3 f λn=>xQ (.unOp .neg 3 (.const n)) 3 λn=>xC 242 [.const g,.const l,.const n] [200,3,3] 0 λ_=>xL 200 c λn=>xH n λn=>xF 256 n 5 λn=>xF 253 n 0 λn=>xS 3 n (.int .i64 0)<|i)<|i)<|xL 200 c λn=>xQ (.makeFunc (.func 247) #[] #[.const m,.const f,.const c]) 283 λm=>xC 208 [.const n,.const m] [200,283] 0 λ_=>i)<|K (.bool true)
theorem Zf(a b:Value):Lk 217 #[a,b] (Me a b):=lk [a,b] [(9,[]),(21,[]),(25,[]),(29,[]),(130,[108])] func217
theorem Xu:Ad prog 217:=bd func217
def QZ(a b:Value)(K:rD):rE:=Join0 (λc=>Join1 (λd=>xH a λe=>xF 256 e 6 λe=>xL 3 e λe=>xO .eql 3 e (.int .i64 0) λe=>xW e (xH a λe=>xF 256 e 4 λe=>xL 3 e λe=>xO .eql 3 e (.int .i64 0) λe=>d e)<|d (.bool false)) λe=>xW e (xH a λe=>xF 256 e 7 λe=>xL 3 e λe=>xQ (.call { callee:=.builtin .min,args:=#[.const b,.const e],argTypes:=#[3,3] }) 3 λe=>Loop1 (.int .i64 0) λd f=>xO .lss 3 d e λe=>xW e (Ag<|xM a λe=>qF 256 e 12 λe=>qL 105 e λg=>xM a λh=>qF 256 h 2 λh=>xP (.indexAddr 100 (.const h) (.const (.int .i64 0))) 0 λh=>qL 50 h λh=>xC 189 [.const h,.const d] [50,3] 48 λh=>xT (qZ 105 e g)<|xQ (.buildSlice 105 1 #[(0,.const h)]) 105 λh=>xT (qZ 105 e g)<|xV g h 105 105 105 λh=>xM a λg=>qF 256 g 12 λg=>xS 105 g h<|xO .add 3 d (.int .i64 1) λg=>f g)<|Ag<|xM a λg=>qF 256 g 12 λg=>qL 105 g λg=>xM a λf=>qF 256 f 12 λf=>qL 105 f λf=>xR (.call { callee:=.builtin .len,args:=#[.const f],argTypes:=#[105] }) 3 λf=>qP .sub 3 f (.int .i64 500) λf=>xP (.call { callee:=.builtin .max,args:=#[.const f,.const (.int .i64 0)],argTypes:=#[3,3] }) 3 λf=>xC 257 [.const g,.const (.int .i64 0),.const f] [105,3,3] 105 λf=>xM a λg=>qF 256 g 12 λg=>xS 105 g f<|c)<|c)<|xH a λg=>xF 256 g 6 λg=>xL 3 g λg=>xC 242 [.const a,.const g,.const b] [200,3,3] 0 λ_=>K (.tuple #[])
theorem Yk(a b:Value):Lk 241 #[a,b] (QZ a b):=lk [a,b] [(0,[]),(2,[16]),(8,[23])] func241
theorem PZ:Ad prog 241:=bd func241
def PR(a b c:Value)(K:rD):rE:=Ag<|xM a λd=>qF 256 d 4 λd=>qL 3 d λd=>xM a λe=>qF 256 e 2 λe=>xP (.indexAddr 100 (.const e) (.const d)) 0 λe=>Ag<|xM e λd=>qL 50 d λf=>xM a λg=>qF 256 g 7 λg=>qL 3 g λh=>xC 249 [.const a] [200] 60 λi=>xT (qZ 3 g h)<|xT (qZ 50 d f)<|xC 258 [.const f,.const b,.const h,.const c,.const i] [50,3,3,3,60] 50 λi=>xM e λe=>xS 50 e i<|K (.tuple #[])
theorem bP(a b c:Value):Lk 242 #[a,b,c] (PR a b c):=lk [a,b,c] [] func242
theorem HY:Ad prog 242:=bd func242
def OR(a b c:Value)(K:rD):rE:=Ag<|xM a λd=>qF 256 d 4 λd=>qL 3 d λd=>xM a λe=>qF 256 e 2 λe=>xP (.indexAddr 100 (.const e) (.const d)) 0 λe=>Ag<|Join0 (λd=>xM e λf=>qL 50 f λg=>xM a λh=>qF 256 h 0 λh=>qL 3 h λi=>xT (xQ (.build 42 #[(1,.const b),(2,.const i),(3,.const c)]) 42 λj=>xT (qZ 50 f g)<|xC 249 [.const a] [200] 60 λl=>xT (qZ 50 f g)<|xC 36 [.const g,.const j,.const l] [50,42,60] 50 λl=>xM e λj=>xS 50 j l<|d)<|xC 249 [.const a] [200] 60 λj=>xT (qZ 3 h i)<|xT (qZ 50 f g)<|xQ (.build 42 #[(1,.const b),(2,.const i),(3,.const c)]) 42 λi=>xT (qZ 50 f g)<|xC 36 [.const g,.const i,.const j] [50,42,60] 50 λi=>xM e λe=>xS 50 e i<|d)<|K (.tuple #[])
theorem Vp(a b c:Value):Lk 245 #[a,b,c] (OR a b c):=lk [a,b,c] [(2,[])] func245
theorem Jx:Ad prog 245:=bd func245
def MX(a b c:Value)(K:rD):rE:=xB 200 a λd=>xB 3 b λe=>xB 3 c λf=>xL 200 d λg=>xQ (.makeFunc (.func 262) #[] #[.const e,.const f,.const d]) 283 λf=>xC 208 [.const g,.const f] [200,283] 0 λ_=>K (.tuple #[])
theorem fF(a b c:Value):Lk 246 #[a,b,c] (MX a b c):=lk [a,b,c] [] func246
theorem G9:Ad prog 246:=bd func246
def MC(a b c d:Value)(K:rD):rE:=xB 50 a λe=>xA 50 λf=>Ag<|qL 50 e λg=>qL 3 b λh=>qL 3 c λi=>qL 200 d λj=>xC 249 [.const j] [200] 60 λj=>xT (qZ 3 c i)<|xT (qZ 3 b h)<|xT (qZ 50 e g)<|xC 248 [.const g,.const h,.const (.int .i64 0),.const i,.const j] [50,3,3,3,60] 50 λj=>xS 50 f j<|xD 50 f λj=>K j
theorem bU(a b c d:Value):Lk 247 #[a,b,c,d] (MC a b c d):=lk [a,b,c,d] [] func247
theorem jM:Ad prog 247:=bd func247
def QD(a:Value)(K:rD):rE:=xA 60 λb=>xC 35 [] [] 60 λc=>xA 60 λd=>xS 60 d c<|xH a λc=>xF 256 c 5 λc=>xF 253 c 2 λc=>xF 60 c 2 λc=>xL 5 c λc=>xF 60 d 2 λe=>xS 5 e c<|xL 60 d λe=>xS 60 b e<|xD 60 b λe=>K e
theorem aI(a:Value):Lk 249 #[a] (QD a):=lk [a] [] func249
theorem Iq:Ad prog 249:=bd func249
def SW(a b c:Value)(K:rD):rE:=Join1 (λd=>Join1 (λe=>xO .eql 3 c (.int .i64 0) λf=>xW f (e (.bool true))<|xH a λf=>xF 256 f 1 λf=>xL 3 f λf=>xO .gtr 3 c f λf=>e f) λf=>xW f (xH a λf=>xF 256 f 1 λf=>xL 3 f λf=>d f)<|d c) λf=>xO .sub 3 f (.int .i64 1) λd=>xO .lss 3 b d λd=>xW d (xH a λd=>xF 256 d 6 λd=>xS 3 d b<|xH a λd=>xF 256 d 7 λd=>xS 3 d f<|xC 200 [.const a,.const (.int .i64 0),.const (.int .i64 0)] [200,3,3] 0 λ_=>K (.tuple #[]))<|K (.tuple #[])
theorem Va(a b c:Value):Lk 250 #[a,b,c] (SW a b c):=lk [a,b,c] [(0,[2]),(2,[15])] func250
theorem dy:Ad prog 250:=bd func250
def MW(a b c d:Value)(K:rD):rE:=xB 50 a λe=>xA 50 λf=>Ag<|Join0 (λg=>qL 50 e λh=>qL 3 b λi=>qL 3 c λj=>qL 200 d λl=>xT (xQ (.build 42 #[(0,.const i),(2,.const j),(3,.const (.int .i64 1))]) 42 λm=>xT (qZ 200 d l)<|xT (qZ 50 e h)<|xC 249 [.const l] [200] 60 λn=>xT (qZ 50 e h)<|xC 36 [.const h,.const m,.const n] [50,42,60] 50 λn=>xS 50 f n<|g)<|xC 249 [.const l] [200] 60 λn=>xT (qZ 3 c j)<|xT (qZ 3 b i)<|xT (qZ 50 e h)<|xQ (.build 42 #[(0,.const i),(2,.const j),(3,.const (.int .i64 1))]) 42 λj=>xT (qZ 50 e h)<|xC 36 [.const h,.const j,.const n] [50,42,60] 50 λj=>xS 50 f j<|g)<|xD 50 f λj=>K j
theorem W4(a b c d:Value):Lk 262 #[a,b,c,d] (MW a b c d):=lk [a,b,c,d] [(3,[])] func262
theorem Ya:Ad prog 262:=bd func262
def Ms(a b:Value)(K:rD):rE:=xB 60 a λc=>xB 89 b λd=>xA 60 λe=>Join1 (λf=>xF 89 d 0 λg=>xL 3 g λg=>xO .neq 3 g (.int .i64 4) λg=>xW g (f (.bool true))<|xF 89 d 1 λg=>xL 21 g λg=>xO .neq 21 g (.int .i32 109) λg=>xW g (f (.bool true))<|xF 89 d 2 λg=>xL 5 g λg=>xO .neq 5 g (.int .u8 0) λg=>xW g (f (.bool true))<|xF 89 d 3 λg=>xL 5 g λg=>xO .neq 5 g (.int .u8 0) λg=>f g) λg=>xW g (xL 60 c λg=>xS 60 e g<|xD 60 e λg=>K g)<|xF 89 d 5 λg=>xF 89 d 4 λd=>xL 3 d λd=>xQ (.call { callee:=.builtin .max,args:=#[.const d,.const (.int .i64 0)],argTypes:=#[3,3] }) 3 λd=>xQ (.call { callee:=.builtin .min,args:=#[.const d,.const (.int .i64 8)],argTypes:=#[3,3] }) 3 λd=>xQ (.slice 87 (.const g) none (some (.const d)) none) 117 λd=>xA 117 λg=>xS 117 g d<|Join0 (λd=>xL 117 g λf=>xU f 117 λf=>xO .eql 3 f (.int .i64 0) λf=>xW f (xQ (.buildSlice 117 1 #[(0,.const (.int .i64 0))]) 117 λf=>xS 117 g f<|d)<|d)<|xQ (.makeFunc (.func 259) #[] #[.const g]) 317 λf=>Loop0 λd=>xL 117 g λg=>xU g 117 λg=>xO .gtr 3 g (.int .i64 0) λg=>xW g (xQ (.call { callee:=.value (.const f),args:=#[.const (.int .i64 1)],argTypes:=#[3] }) 117 λg=>xI 117 g (.int .i64 0) λg=>xL 3 g λg=>Join1 (λh=>xO .eql 3 g (.int .i64 38) λi=>xW i (h (.bool true))<|xO .eql 3 g (.int .i64 48) λi=>h i) λi=>xW i (xC 260 [.const f] [317] 318 λi=>xE i 0 5 λf=>xE i 1 4 λi=>Join1 (λh=>xW i (xO .eql 3 g (.int .i64 38) λj=>h j)<|h (.bool false)) λj=>xW j (xF 60 c 1 λj=>xS 5 j f<|d)<|xW i (xF 60 c 2 λj=>xS 5 j f<|d)<|d)<|xL 60 c λj=>xC 261 [.const j,.const g] [60,3] 60 λj=>xS 60 c j<|d)<|xL 60 c λj=>xS 60 e j<|xD 60 e λj=>K j
theorem Uh(a b:Value):Lk 243 #[a,b] (Ms a b):=lk [a,b] [(4,[27]),(12,[]),(22,[]),(35,[51]),(46,[59])] func243
theorem Uu:Ad prog 243:=bd func243
def Ol(a b:Value)(K:rD):rE:=xL 117 b λc=>xU c 117 λc=>xQ (.call { callee:=.builtin .min,args:=#[.const a,.const c],argTypes:=#[3,3] }) 3 λc=>xL 117 b λd=>xQ (.slice 117 (.const d) none (some (.const c)) (some (.const c))) 117 λd=>xL 117 b λe=>xQ (.slice 117 (.const e) (some (.const c)) none none) 117 λe=>xS 117 b e<|K d
theorem ku(a b:Value):Lk 259 #[a,b] (Ol a b):=lk [a,b] [] func259
theorem FP:Ad prog 259:=bd func259
def Mr(a:Value)(K:rD):rE:=xQ (.call { callee:=.value (.const a),args:=#[.const (.int .i64 1)],argTypes:=#[3] }) 117 λb=>Join0 (λc=>Join1 (λd=>xU b 117 λe=>xO .eql 3 e (.int .i64 1) λe=>xW e (xI 117 b (.int .i64 0) λe=>xL 3 e λe=>xO .eql 3 e (.int .i64 5) λe=>d e)<|d (.bool false)) λe=>xW e (xQ (.call { callee:=.value (.const a),args:=#[.const (.int .i64 1)],argTypes:=#[3] }) 117 λe=>xU e 117 λd=>xO .eql 3 d (.int .i64 1) λd=>xW d (xI 117 e (.int .i64 0) λd=>xL 3 d λd=>Join1 (λe=>xO .lss 3 d (.int .i64 0) λf=>xW f (e (.bool true))<|xO .gtr 3 d (.int .i64 255) λf=>e f) λf=>xW f (K (.tuple #[(.int .u8 0),(.bool false)]))<|xC 266 [.const d] [3] 5 λf=>K (.tuple #[f,(.bool true)]))<|c)<|c)<|Join0 (λf=>Join1 (λc=>xU b 117 λd=>xO .eql 3 d (.int .i64 1) λd=>xW d (xI 117 b (.int .i64 0) λd=>xL 3 d λd=>xO .eql 3 d (.int .i64 2) λd=>c d)<|c (.bool false)) λd=>xW d (xQ (.call { callee:=.value (.const a),args:=#[.const (.int .i64 3)],argTypes:=#[3] }) 117 λd=>xU d 117 λc=>xO .eql 3 c (.int .i64 3) λc=>xW c (Ag<|xP (.indexAddr 117 (.const d) (.const (.int .i64 0))) 0 λc=>qL 3 c λc=>xP (.indexAddr 117 (.const d) (.const (.int .i64 1))) 0 λb=>qL 3 b λb=>xP (.indexAddr 117 (.const d) (.const (.int .i64 2))) 0 λd=>qL 3 d λd=>xC 267 [.const c,.const b,.const d] [3,3,3] 5 λd=>K (.tuple #[d,(.bool true)]))<|f)<|f)<|xQ (.call { callee:=.value (.const a),args:=#[.const (.int .i64 8)],argTypes:=#[3] }) 117 λ_=>K (.tuple #[(.int .u8 0),(.bool false)])
theorem Vy(a:Value):Lk 260 #[a] (Mr a):=lk [a] [(4,[]),(6,[18]),(17,[32]),(28,[]),(30,[43])] func260
theorem iq:Ad prog 260:=bd func260
def Sv(a b:Value)(K:rD):rE:=xB 60 a λc=>xA 60 λd=>xC 268 [] [] 322 λe=>xA 322 λf=>xS 322 f e<|Join0 (λe=>xO .eql 3 b (.int .i64 0) λg=>xW g (xF 60 c 1 λg=>xS 5 g (.int .u8 0)<|xF 60 c 2 λg=>xS 5 g (.int .u8 0)<|xF 60 c 3 λg=>xS 5 g (.int .u8 0)<|e)<|Join1 (λg=>xO .gtr 3 b (.int .i64 0) λh=>xW h (xO .lss 3 b (.int .i64 8) λh=>g h)<|g (.bool false)) λh=>xW h (Ag<|qF 60 c 3 λh=>qL 5 h λh=>xP (.indexAddr 322 (.const f) (.const b)) 0 λg=>qL 5 g λg=>qP .or 5 h g λg=>qF 60 c 3 λh=>xS 5 h g<|e)<|xO .eql 3 b (.int .i64 22) λh=>xW h (xF 60 c 3 λh=>xL 5 h λh=>xO .andNot 5 h (.int .u8 3) λh=>xF 60 c 3 λg=>xS 5 g h<|e)<|Join1 (λg=>xO .geq 3 b (.int .i64 23) λh=>xW h (xO .leq 3 b (.int .i64 27) λh=>g h)<|g (.bool false)) λh=>xW h (Ag<|qF 60 c 3 λh=>qL 5 h λh=>qP .sub 3 b (.int .i64 20) λg=>xP (.indexAddr 322 (.const f) (.const g)) 0 λg=>qL 5 g λg=>qP .andNot 5 h g λg=>qF 60 c 3 λh=>xS 5 h g<|e)<|Join1 (λh=>xO .geq 3 b (.int .i64 30) λg=>xW g (xO .leq 3 b (.int .i64 37) λg=>h g)<|h (.bool false)) λg=>xW g (xO .sub 3 b (.int .i64 30) λg=>xC 266 [.const g] [3] 5 λg=>xF 60 c 1 λh=>xS 5 h g<|e)<|xO .eql 3 b (.int .i64 39) λh=>xW h (xF 60 c 1 λh=>xS 5 h (.int .u8 0)<|e)<|Join1 (λh=>xO .geq 3 b (.int .i64 40) λg=>xW g (xO .leq 3 b (.int .i64 47) λg=>h g)<|h (.bool false)) λg=>xW g (xO .sub 3 b (.int .i64 40) λg=>xC 266 [.const g] [3] 5 λg=>xF 60 c 2 λh=>xS 5 h g<|e)<|xO .eql 3 b (.int .i64 49) λh=>xW h (xF 60 c 2 λh=>xS 5 h (.int .u8 0)<|e)<|Join1 (λh=>xO .geq 3 b (.int .i64 90) λg=>xW g (xO .leq 3 b (.int .i64 97) λg=>h g)<|h (.bool false)) λg=>xW g (xO .sub 3 b (.int .i64 82) λg=>xC 266 [.const g] [3] 5 λg=>xF 60 c 1 λh=>xS 5 h g<|e)<|Join1 (λh=>xO .geq 3 b (.int .i64 100) λg=>xW g (xO .leq 3 b (.int .i64 107) λg=>h g)<|h (.bool false)) λg=>xW g (xO .sub 3 b (.int .i64 92) λg=>xC 266 [.const g] [3] 5 λg=>xF 60 c 2 λh=>xS 5 h g<|e)<|e)<|xL 60 c λh=>xS 60 d h<|xD 60 d λh=>K h
theorem Ur(a b:Value):Lk 261 #[a,b] (Sv a b):=lk [a,b] [(4,[]),(11,[13]),(19,[34]),(23,[49]),(31,[64]),(39,[79]),(43,[90])] func261
theorem VB:Ad prog 261:=bd func261
def Lo(a:Value)(K:rD):rE:=xQ (.call { callee:=.builtin .max,args:=#[.const a,.const (.int .i64 1)],argTypes:=#[3,3] }) 3 λb=>xQ (.convert 3 5 (.const b)) 5 λb=>K b
theorem ez(a:Value):Lk 266 #[a] (Lo a):=lk [a] [] func266
theorem Gg:Ad prog 266:=bd func266
def Nc(a b c:Value)(K:rD):rE:=xQ (.call { callee:=.value (.const (.func (.func 269) #[] #[])),args:=#[.const a],argTypes:=#[3] }) 3 λd=>xO .mul 3 (.int .i64 36) d λd=>xO .add 3 (.int .i64 16) d λd=>xQ (.call { callee:=.value (.const (.func (.func 269) #[] #[])),args:=#[.const b],argTypes:=#[3] }) 3 λe=>xO .mul 3 (.int .i64 6) e λe=>xO .add 3 d e λe=>xQ (.call { callee:=.value (.const (.func (.func 269) #[] #[])),args:=#[.const c],argTypes:=#[3] }) 3 λd=>xO .add 3 e d λd=>xQ (.convert 3 5 (.const d)) 5 λd=>K d
theorem Z6(a b c:Value):Lk 267 #[a,b,c] (Nc a b c):=lk [a,b,c] [] func267
theorem kj:Ad prog 267:=bd func267
def OZ(K:rD):rE:=xA 322 λa=>xQ (.build 322 #[(0,.const (.int .u8 0)),(1,.const (.int .u8 1)),(2,.const (.int .u8 2)),(3,.const (.int .u8 4)),(4,.const (.int .u8 8)),(5,.const (.int .u8 16)),(6,.const (.int .u8 0)),(7,.const (.int .u8 32))]) 322 λb=>xS 322 a b<|xD 322 a λb=>K b
theorem fu:Lk 268 #[] (OZ):=lk [] [] func268
theorem al:Ad prog 268:=bd func268
def ON(a:Value)(K:rD):rE:=xQ (.call { callee:=.builtin .max,args:=#[.const a,.const (.int .i64 0)],argTypes:=#[3,3] }) 3 λb=>xQ (.call { callee:=.builtin .min,args:=#[.const b,.const (.int .i64 255)],argTypes:=#[3,3] }) 3 λb=>xO .quo 3 b (.int .i64 43) λb=>K b
theorem Xk(a:Value):Lk 269 #[a] (ON a):=lk [a] [] func269
theorem JQ:Ad prog 269:=bd func269
def Qx(a b c:Value)(K:rD):rE:=xB 89 a λd=>Join1 (λe=>xO .lss 3 b (.int .i64 0) λf=>xW f (e (.bool true))<|xO .geq 3 b (.int .i64 8) λf=>xW f (e (.bool true))<|xF 89 d 4 λf=>xL 3 f λf=>xO .geq 3 b f λf=>e f) λf=>xW f (K c)<|xF 89 d 5 λf=>xI 87 f b λf=>xL 3 f λf=>xQ (.call { callee:=.builtin .max,args:=#[.const f,.const c],argTypes:=#[3,3] }) 3 λf=>K f
theorem aK(a b c:Value):Lk 244 #[a,b,c] (Qx a b c):=lk [a,b,c] [(4,[18])] func244
theorem D3:Ad prog 244:=bd func244
def Oo(a b c:Value)(K:rD):rE:=xU a 105 λd=>xQ (.slice 105 (.const a) (some (.const b)) (some (.const c)) (some (.const d))) 105 λ_=>xO .eql 3 b c λd=>xW d (K a)<|xU a 105 λd=>Ag<|xP (.slice 105 (.const a) none (some (.const b)) none) 105 λe=>xP (.slice 105 (.const a) (some (.const c)) none none) 105 λf=>xV e f 105 105 105 λf=>xU f 105 λe=>xQ (.slice 105 (.const f) (some (.const e)) (some (.const d)) none) 105 λe=>xQ (.call { callee:=.builtin .clear,args:=#[.const e],argTypes:=#[105] }) 0 λ_=>K f
theorem V9(a b c:Value):Lk 257 #[a,b,c] (Oo a b c):=lk [a,b,c] [] func257
theorem dg:Ad prog 257:=bd func257
end Go.Proofs.YtnpkidnbhlepkaaGreat
namespace Lyc
open Go
theorem IE(c:Cel):c.tailOf.wide=false:=by
 have h:∀a:BitVec 8,((a &&& ~~~64#8) ||| 128#8) &&& 64#8=0#8:=rC;simp only[Cel.wide,Cel.tailOf,h];rfl
theorem Vu(c:Cel):c.tailOf.tail=true:=by
 have h:∀a:BitVec 8,¬((a &&& ~~~64#8) ||| 128#8) &&& 128#8=0#8:=rC;simp only[Cel.tail,Cel.tailOf,h];rfl
theorem Mg{c:Cel}(h:c.plain=true):c.wide=false:=by
 have b:∀a:BitVec 8,a &&& 192#8=0#8→a &&& 64#8=0#8:=rC;simp only[Cel.plain,decide_eq_true_eq] at h;simp [Cel.wide,b _ h]
theorem gE{c:Cel}(h:c.plain=true):c.tail=false:=by
 have b:∀a:BitVec 8,a &&& 192#8=0#8→a &&& 128#8=0#8:=rC;simp only[Cel.plain,decide_eq_true_eq] at h;simp [Cel.tail,b _ h]
theorem RQ{c d:Cel}(h:Bs c d=true):c.wide=true∧c.check=true∧d=c.tailOf:=by
 simpa [Bs,and_assoc] using h
theorem OY{c d:Cel}(h:c.wide=false):Bs c d=false:=by simp [Bs,h]
theorem DD(c d:Cel)(l:List Cel):AD (c::d::l) 0=Bs c d:=rfl
def AW(l:List Cel):Nat→Bool
 | 0=>AD l 0
 | i+1=>AD l (i+1) || AD l i
theorem HP{c:Cel}{l:List Cel}(h:AD (c::l) 0=false)(i:Nat):AW (c::l) (i+1)=AW l i:=by
 cases i with
 | zero=>show(AD l 0 || AD (c::l) 0)=AD l 0;rw[h];simp
 | succ i=>rfl
theorem bL{c d:Cel}{l:List Cel}(h:Bs c d=true):AD (d::l) 0=false:=by
 cases l with
 | nil=>rfl
 | cons e l=>rw[DD];exact OY (by rw[(RQ h).2.2];exact IE c)
theorem Kv{c d:Cel}{l:List Cel}(h:Bs c d=true)(i:Nat):AW (c::d::l) (i+2)=AW l i:=by
 rw[←HP (bL h) i];rfl
theorem FI:∀(l:List Cel) (i:Nat) (c:Cel),l[i]?=some c→(Au l)[i]?=some (if AW l i then c else c.fix)
 | [],i,c,h=>by simp at h
 | [d],0,c,h=>by simp at h;subst h;rfl
 | [d],i+1,c,h=>by simp at h
 | c::d::l,i,x,h=>by
  unfold Au;by_cases a:Bs c d=true
  ·rw[rG a]
   match i with
   | 0=>simp at h;subst h;simp [AW,DD,a]
   | 1=>simp at h;subst h;simp [AW,DD,a]
   | i+2=>rw[Kv a];exact FI l i x h
  ·rw[rF a];have b:AD (c::d::l) 0=false:=by rw[DD];simpa using a
   match i with
   | 0=>simp at h;subst h;simp [AW,b]
   | i+1=>rw[HP b];exact FI (d::l) i x h
theorem Fi:∀(l:List Cel) (_:right l=true) (i:Nat) (c:Cel),l[i]?=some c→AW l i=true∨c.single=true
 | [],_,i,c,h=>by simp at h
 | [d],hr,0,c,h=>by simp at h;subst h;exact .inr hr
 | [d],hr,i+1,c,h=>by simp at h
 | c::d::l,hr,i,x,h=>by
  unfold right at hr;by_cases a:Bs c d=true
  ·rw[rG a] at hr
   match i with
   | 0=>exact .inl (by simp [AW,DD,a])
   | 1=>exact .inl (by simp [AW,DD,a])
   | i+2=>rw[Kv a];exact Fi l hr i x h
  ·rw[rF a,Bool.and_eq_true] at hr;have b:AD (c::d::l) 0=false:=by rw[DD];simpa using a
   match i with
   | 0=>simp at h;subst h;exact .inr hr.1
   | i+1=>rw[HP b];exact Fi (d::l) hr.2 i x h
theorem GY:∀(l:List Cel) (_:∀i c,l[i]?=some c→AW l i=true∨c.single=true),right l=true
 | [],_=>rfl
 | [d],h=>by
  rcases h 0 d rfl with h|h
  ·exact absurd h (by simp [AW,AD])
  ·exact h
 | c::d::l,h=>by
  unfold right;by_cases a:Bs c d=true
  ·rw[rG a];exact GY l λi x b=>by have:=h (i+2) x b;rwa [Kv a] at this
  ·rw[rF a,Bool.and_eq_true];have e:AD (c::d::l) 0=false:=by rw[DD];simpa using a
   refine⟨?_,GY (d::l) λi x b=>by have:=h (i+1) x b;rwa [HP e] at this⟩;rcases h 0 c rfl with h|h
   ·exact absurd h (by simp [AW,e])
   ·exact h
theorem Gf(c:Cel):c.fix.single=true:=by
 unfold Cel.fix;split
 ·assumption
 ·have:AN 32=1:=rC;simp [Cel.single,Cel.plain,Cel.check,Cel.tail,Cel.wide,this]
theorem Sk{c:Cel}(h:c.single=true):c.fix=c:=by unfold Cel.fix;rw[rG h]
theorem ID{c:Cel}(h:c.single=true):c.plain=true:=by unfold Cel.single at h;rw[Bool.and_eq_true] at h;exact h.1
theorem Hl{l:List Cel}(h:right l=true):Au l=l:=by
 apply List.ext_getElem?;intro i;by_cases a:i<l.length
 ·rw[FI l i _ (rI a),rI a];rcases Fi l h i _ (rI a) with b|b
  ·rw[rG b]
  ·rw[Sk b];simp
 ·rw[List.getElem?_eq_none (by rw[Cj];omega),List.getElem?_eq_none O]
theorem Ea:∀l:List Cel,right (Au l)=true
 | []=>rfl
 | [c]=>Gf c
 | c::d::l=>by
  unfold Au;by_cases a:Bs c d=true
  ·rw[rG a];unfold right;rw[rG a];exact Ea l
  ·rw[rF a];have b:=Ea (d::l);generalize Au (d::l)=m at b;cases m with
   | nil=>exact Gf c
   | cons e m =>
    unfold right;rw[OY (Mg (ID (Gf c)))];simp [Gf,b]
theorem G4{l:List Cel}(h:∀c∈l,c.single=true):right l=true:=
 GY l λ_ _ a=>.inr (h _ (List.mem_of_getElem? a))
theorem Eg{c:Cel}(h:c.usual=true):c.single=true:=by simpa [Cel.usual,Cel.single,Bool.and_comm] using h
theorem YI{l:List Cel}{i:Nat}(h:AW l i=true):AD l i=true∨(0<i∧AD l (i-1)=true):=by
 cases i with
 | zero=>exact .inl h
 | succ i=>simp only[AW,Bool.or_eq_true] at h;exact h.elim .inl λh=>.inr ⟨O,h⟩
theorem JW{l:List Cel}{i:Nat}(h:AD l i=true):∃c,l[i]?=some c∧l[i+1]?=some c.tailOf∧c.wide=true∧c.check=true:=by
 have a:=H8 h;unfold AD at h;rw[rI a,rI (show i<l.length by omega)] at h;have:=RQ h;exact⟨l[i],rI O,by rw[rI a,this.2.2],this.1,this.2.1⟩
theorem XB{l:List Cel}{i:Nat}{c:Cel}(a:l[i]?=some c)(b:l[i+1]?=some c.tailOf)(d:c.wide=true)(e:c.check=true):AD l i=true:=by
 unfold AD;rw[a,b];simp [Bs,d,e]
theorem Gr.chg_right{g:Gr}(a:g.ok)(b:g.right=true){top fin:Int}{f:Nat→List Cel}(c:∀y,y<g.h→top≤(y:Int)→(y:Int)<fin→(f y).length=g.w):(g.chg top fin f).right=true:=
 (g.chg top fin f).right_of λy d=>by
  rw[Gr.chg_row a c d];split
  ·exact Ea _
  ·exact Gr.right.at b d
theorem Gr.plain_row{w h:Nat}{c:Cel}{y:Nat}(a:y<h):(Gr.plain w h c).row y=List.replicate w c:=by
 have b:=Nat.mul_le_mul_right w (show y+1≤h by omega);rw[Nat.add_mul,Nat.mul_comm h w] at b;simp [Gr.row,Gr.plain];omega
theorem Gr.plain_right{w h:Nat}{c:Cel}(a:c.single=true):(Gr.plain w h c).right=true:=
 Gr.right_of λy b=>by rw[Gr.plain_row (w:=w) (h:=h) (c:=c) b];exact G4 λx d=>by rw[List.eq_of_mem_replicate d];exact a
theorem Qe:Cel.blank.single=true:=by have:=Gf ⟨32,0,0,1⟩;decide
def Cel.fits(c:Cel):Prop:=-2147483648≤c.r∧c.r≤2147483647
theorem ay(c:Cel):c.tailOf.check=true:=by
 unfold Cel.check;rw[Vu,IE];simp [Cel.tailOf]
def DH(l:List Cel):Nat→Bool
 | 0=>false
 | i+1=>AD l i
theorem Ww(l:List Cel)(i:Nat):AW l i=(AD l i || DH l i):=by cases i<;>simp [AW,DH]
theorem cz{l:List Cel}{i:Nat}(h:DH l i=true):∃c,l[i]?=some c.tailOf∧0<i∧l[i-1]?=some c∧c.wide=true∧c.check=true:=by
 cases i with
 | zero=>exact absurd h (by simp [DH])
 | succ i =>
  obtain⟨c,a,b,d,e⟩:=JW (show AD l i=true from h);exact⟨c,b,O,a,d,e⟩
theorem Sa{l:List Cel}{i:Nat}{c:Cel}(h:l[i]?=some c):(AW l i=true∨c.single=true)↔(c.check=true∧(c.wide=true→AD l i=true)∧(c.tail=true→DH l i=true)):=by
 rw[Ww,Bool.or_eq_true];constructor
 ·rintro((h1|h1)|h1)
  ·obtain⟨d,h2,h3,h4,h5⟩:=JW h1;rw[h] at h2;cases h2;refine⟨h5,λ_=>h1,λht=>?_⟩;unfold Cel.check at h5;rw[rG ht,h4] at h5;simp at h5
  ·obtain⟨d,h2,h3,h4,h5,h6⟩:=cz h1;rw[h] at h2;cases h2;exact⟨ay d,λhw=>absurd hw (by rw[IE];simp),λ_=>h1⟩
  ·have hp:=ID h1;refine⟨?_,λhw=>absurd hw (by rw[Mg hp];simp),λht=>absurd ht (by rw[gE hp];simp)⟩;unfold Cel.single at h1;rw[Bool.and_eq_true] at h1;exact h1.2
 ·rintro⟨h1,h2,h3⟩;by_cases hw:c.wide=true
  ·exact .inl (.inl (h2 hw))
  ·by_cases ht:c.tail=true
   ·exact .inl (.inr (h3 ht))
   ·right;have h4:∀a:BitVec 8,a &&& 64#8=0#8→a &&& 128#8=0#8→a &&& 192#8=0#8:=rC;simp only[Cel.wide,Cel.tail,decide_eq_true_eq,Classical.not_not] at hw ht;simp [Cel.single,Cel.plain,h4 _ hw ht,h1]
theorem gk{l:List Cel}(h:right l=true){c:Cel}(a:c∈l):c.check=true:=by
 obtain⟨i,b⟩:=List.mem_iff_getElem?.1 a;exact((Sa b).1 (Fi l h i c b)).1
theorem KU{r:Int}(h:¬AN r=0):32≤r∧r≤1114111:=by
 unfold AN at h;by_cases a:r<32∨1114111<r
 ·rw[rG a] at h;exact absurd rfl h
 ·omega
theorem Gj{c:Cel}(h:c.check=true):c.fits:=by
 unfold Cel.check at h;unfold Cel.fits;by_cases a:c.tail=true
 ·rw[rG a] at h;simp at h;omega
 ·rw[rF a] at h;by_cases b:c.wide=true
  ·rw[rG b] at h;have:=KU (r:=c.r) (by simp at h;omega);omega
  ·rw[rF b] at h;have:=KU (r:=c.r) (by simp at h;omega);omega
theorem NI{l:List Cel}(h:right l=true):∀c∈l,c.fits:=λ_ a=>Gj (gk h a)
def lay(cs:List Cel)(p:Nat)(l:List Cel)(k:Nat):List Cel:=cs.take p++l.take k++cs.drop (p+k)
theorem eI{g:Gr}(a:g.ok){c:Cel}(h:c∈g.cs):∃y,y<g.h∧c∈g.row y:=by
 obtain⟨i,b⟩:=List.mem_iff_getElem?.1 h;have d:=(rO.1 b).1;have e:=a.w0;have f:i % g.w<g.w:=Nat.mod_lt _ e;have j:i / g.w<g.h:=by
  apply Nat.div_lt_of_lt_mul;rw[←a.len];exact d
 have k:i / g.w*g.w+i % g.w=i:=by rw[Nat.mul_comm];exact Nat.div_add_mod i g.w
 refine⟨i / g.w,j,?_⟩;apply List.mem_of_getElem? (i:=i % g.w);rw[Gr.row,List.getElem?_take_of_lt f,List.getElem?_drop,k,b]
theorem Gr.ok.fits_all{g:Gr}(a:g.ok)(b:g.right=true):∀c∈g.cs,c.fits:=by
 intro c d;obtain⟨y,e,h⟩:=eI a d;exact NI (Gr.right.at b e) c h
theorem Gr.chg_at{g:Gr}(h:g.ok){top fin:Int}{f:Nat→List Cel}(a:∀y,y<g.h→top≤(y:Int)→(y:Int)<fin→(f y).length=g.w){x y:Nat}(b:x<g.w)(c:y<g.h):
  some ((g.chg top fin f).at x y)=(if top≤y∧(y:Int)<fin then Au (f y) else g.row y)[x]?:=by
 have d:=Gr.chg_ok h a;rw[←Gr.chg_row h a c,d.row_get (show x<(g.chg top fin f).w from b) (show y<(g.chg top fin f).h from c)]
theorem WM{g:Gr}(a:g.right=true){T E N:Int}{c:Cel}(b:c.usual=true)(d:0≤T)(e:E≤g.h)(y:Nat):right (g.scrollF T E N c y)=true:=by
 unfold Gr.scrollF;by_cases h:(y:Int)+N<T∨E≤(y:Int)+N
 ·rw[rG h];refine G4 λd f=>?_;unfold Av at f;obtain⟨_,_,rfl⟩:=List.mem_map.1 f;exact Eg b
 ·rw[rF h];exact Gr.right.at a O
theorem gQ{g:Gr}(a:g.ok){T E N:Int}{c:Cel}:(g.scroll T E N c).ok:=
 Gr.chg_ok a λy _ _ _=>a.scrollF_len O O y
theorem aV{g:Gr}(a:g.ok)(b:g.right=true){T E N:Int}{c:Cel}:(g.scroll T E N c).right=true:=
 Gr.chg_right a b λy _ _ _=>a.scrollF_len O O y
theorem Gr.of_rows{g:Gr}(a:g.ok){R:Nat→List Cel}(h:∀y,y<g.h→R y=g.row y):Gr.of g.w g.h R=g:=by
 unfold Gr.of;rw[BS h,a.rows]
theorem NF{g:Gr}{w h:Nat}{c:Cel}:∀y,y<(Gr.plain w h c).h→(0:Int)≤(y:Int)→(y:Int)<min (h:Int) g.h→(Av w λx=>if x<g.w then g.at x y else(Gr.plain w h c).at x y).length=(Gr.plain w h c).w:=λ_ _ _ _=>AP _ _
theorem XV{g:Gr}{w h:Nat}{c:Cel}(w0:0<w)(w1:w≤200)(a:0<h)(b:h≤60):(g.resize w h c).ok:=Gr.chg_ok (Gr.plain_ok w0 w1 a b c) NF
theorem Xm{g:Gr}{w h:Nat}{c:Cel}(a:c.usual=true)(w0:0<w)(w1:w≤200)(b:0<h)(d:h≤60):(g.resize w h c).right=true:=Gr.chg_right (Gr.plain_ok w0 w1 b d c) (Gr.plain_right (Eg a)) NF
structure Gr.fit (g:Gr) (w h:Nat):Prop where
 ok:g.ok
 r:g.right=true
 w:g.w=w
 h:g.h=h
theorem Gr.put_ok{g:Gr}(a:g.ok){X Y:Int}{l:List Cel}:(g.put X Y l).ok:=Gr.chg_ok a λ_ _ _ _=>AP _ _
theorem Gr.put_right{g:Gr}(a:g.ok)(b:g.right=true){X Y:Int}{l:List Cel}:(g.put X Y l).right=true:=Gr.chg_right a b λ_ _ _ _=>AP _ _
theorem Gr.fit.put{g:Gr}{w h:Nat}(a:g.fit w h){X Y:Int}{l:List Cel}:(g.put X Y l).fit w h:=⟨Gr.put_ok a.ok,Gr.put_right a.ok a.r,a.w,a.h⟩
theorem Gr.fit.fill{g:Gr}{w h:Nat}(a:g.fit w h){X Y W H:Int}{c:Cel}:(g.fill X Y W H c).fit w h:=⟨Gr.chg_ok a.ok λ_ _ _ _=>AP _ _,Gr.chg_right a.ok a.r λ_ _ _ _=>AP _ _,a.w,a.h⟩
theorem Gr.fit.scroll{g:Gr}{w h:Nat}(a:g.fit w h){T E N:Int}{c:Cel}:(g.scroll T E N c).fit w h:=⟨gQ a.ok,aV a.ok a.r,a.w,a.h⟩
theorem Gr.fit.shift{g:Gr}{w h:Nat}(a:g.fit w h){X Y N:Int}{c:Cel}:(g.shift X Y N c).fit w h:=⟨Gr.chg_ok a.ok λ_ _ _ _=>AP _ _,Gr.chg_right a.ok a.r λ_ _ _ _=>AP _ _,a.w,a.h⟩
theorem Gr.fit_plain{w h:Nat}(w0:0<w)(w1:w≤200)(a:0<h)(b:h≤60):(Gr.plain w h Cel.blank).fit w h:=⟨Gr.plain_ok w0 w1 a b _,Gr.plain_right Qe,rfl,rfl⟩
theorem Gr.fit_resize{g:Gr}{w h:Nat}(w0:0<w)(w1:w≤200)(a:0<h)(b:h≤60):(g.resize w h Cel.blank).fit w h:=⟨XV w0 w1 a b,Xm rC w0 w1 a b,rfl,rfl⟩
theorem Gr.row_one{g:Gr}(a:g.ok)(h:g.h=1):g.row 0=g.cs:=by
 have:=a.len;rw[h,Nat.mul_one] at this;simp [Gr.row,←this]
def Kw(w:Nat)(f:Gr→Gr):Prop:=∀g:Gr,g.fit w 1→(f g).fit w 1
theorem Gr.fit.row1{g:Gr}{w h:Nat}(hg:g.fit w h){y:Nat}(hy:y<h):(⟨w,1,g.row y⟩:Gr).fit w 1:=by
 have hl:=hg.ok.row_len (y:=y) (by rw[hg.h];exact hy);have h0:=hg.ok.w0;have h1:=hg.ok.w1;have hw:=hg.w;have hok:(⟨w,1,g.row y⟩:Gr).ok:=⟨by show 0<w;omega,by show w≤200;omega,Nat.one_pos,by show 1≤60;omega,by show(g.row y).length=w*1;omega⟩;refine⟨hok,Gr.right_of λy' hy'=>?_,rfl,rfl⟩;have:y'=0:=by have:y'<1:=hy';omega
 subst this;rw[Gr.row_one hok rfl];exact Gr.right.at hg.r (by rw[hg.h];exact hy)
theorem Gr.fit.cs1{g:Gr}{w:Nat}(a:g.fit w 1):g.cs.length=w∧Lyc.right g.cs=true:=by
 have b:=a.ok.len;rw[a.w,a.h,Nat.mul_one] at b;refine⟨b,?_⟩;have:=Gr.right.at a.r (y:=0) (by rw[a.h];omega)
 rwa [Gr.row_one a.ok a.h] at this
theorem Gr.fit.line{g:Gr}{w h:Nat}(a:g.fit w h){f:Gr→Gr}(b:Kw w f){Y:Nat}:(Gr.of w h λy=>if y=Y then(f ⟨w,1,g.row y⟩).cs else g.row y).fit w h:=by
 have c:=a.h;have d:=a.w;have e:∀y,y<h→(if y=Y then(f ⟨w,1,g.row y⟩).cs else g.row y).length=w:=by
  intro y i;split
  ·exact(b _ (a.row1 i)).cs1.1
  ·rw[a.ok.row_len O,d]
 have w0:=a.ok.w0;have j:=a.ok.w1;have k:=a.ok.h0;have l:=a.ok.h1;refine⟨Gr.of_ok O O O O e,Gr.right_of λy i=>?_,rfl,rfl⟩;have m:y<h:=i;rw[Gr.of_row e m];split
 ·exact(b _ (a.row1 m)).cs1.2
 ·exact Gr.right.at a.r O
structure Scr.ok (S:Scr):Prop where
 w0:0<S.w
 w1:S.w≤200
 h0:0<S.h
 h1:S.h≤60
 g0:S.g0.fit S.w S.h
 g1:S.g1.fit S.w S.h
 nx:S.now.x<S.w
 ny:S.now.y<S.h
 s0x:S.s0.x<S.w
 s0y:S.s0.y<S.h
 s1x:S.s1.x<S.w
 s1y:S.s1.y<S.h
 tf:S.top<S.fin
 fh:S.fin≤S.h
 tl:S.tabs.length=200
 gl:S.gone.length≤500
 gr:∀r∈S.gone,right r=true∧r.length≤200
structure Nx (S T:Scr):Prop where
 ok:T.ok
 w:T.w=S.w
 h:T.h=S.h
 gw:(∀r∈S.gone,r.length=S.w)→∀r∈T.gone,r.length=T.w
theorem Nx.refl{S:Scr}(h:S.ok):Nx S S:=⟨h,rfl,rfl,λg=>g⟩
theorem Nx.trans{S T U:Scr}(h:Nx S T)(k:Nx T U):Nx S U:=⟨k.ok,k.w.trans h.w,k.h.trans h.h,λg=>k.gw (h.gw g)⟩
theorem IZ:DO.length=200:=by unfold DO;rw[List.length_map,List.length_range]
theorem Scr.ok_new{w h:Nat}(w0:0<w)(w1:w≤200)(a:0<h)(b:h≤60):(Scr.new w h).ok:=
 ⟨w0,w1,a,b,Gr.fit_plain w0 w1 a b,Gr.fit_plain w0 w1 a b,w0,a,w0,a,w0,a,a,rH _,IZ,by simp [Scr.new],by simp [Scr.new]⟩
section
variable {S:Scr} (h:S.ok)
include h
theorem Scr.ok.renew:Nx S S.renew:=
 ⟨⟨h.w0,h.w1,h.h0,h.h1,Gr.fit_plain h.w0 h.w1 h.h0 h.h1,Gr.fit_plain h.w0 h.w1 h.h0 h.h1,h.w0,h.h0,h.w0,h.h0,h.w0,h.h0,h.h0,rH _,IZ,h.gl,h.gr⟩,rfl,rfl,λg=>g⟩
theorem Scr.ok.cur:S.cur.fit S.w S.h:=by
 unfold Scr.cur;cases S.alt
 ·exact h.g0
 ·exact h.g1
theorem Scr.ok.setCur{g:Gr}(a:g.fit S.w S.h):Nx S (S.setCur g):=by
 unfold Scr.setCur;cases S.alt
 ·exact⟨⟨h.w0,h.w1,h.h0,h.h1,a,h.g1,h.nx,h.ny,h.s0x,h.s0y,h.s1x,h.s1y,h.tf,h.fh,h.tl,h.gl,h.gr⟩,rfl,rfl,λg=>g⟩
 ·exact⟨⟨h.w0,h.w1,h.h0,h.h1,h.g0,a,h.nx,h.ny,h.s0x,h.s0y,h.s1x,h.s1y,h.tf,h.fh,h.tl,h.gl,h.gr⟩,rfl,rfl,λg=>g⟩
theorem Scr.ok.at{x y:Nat}(a:x<S.w)(b:y<S.h):Nx S (S.at x y):=
 ⟨⟨h.w0,h.w1,h.h0,h.h1,h.g0,h.g1,a,b,h.s0x,h.s0y,h.s1x,h.s1y,h.tf,h.fh,h.tl,h.gl,h.gr⟩,rfl,rfl,λg=>g⟩
theorem Scr.ok.calm:Nx S S.calm:=
 ⟨⟨h.w0,h.w1,h.h0,h.h1,h.g0,h.g1,h.nx,h.ny,h.s0x,h.s0y,h.s1x,h.s1y,h.tf,h.fh,h.tl,h.gl,h.gr⟩,rfl,rfl,λg=>g⟩
omit h in
theorem DQ{x:Int}{n:Nat}(a:0<n):Ay x n<n:=by unfold Ay;omega
theorem Scr.ok.move{x y:Int}:Nx S (S.move x y):=h.at (DQ h.w0) (DQ h.h0)
theorem Scr.ok.save:Nx S S.save:=by
 unfold Scr.save;cases S.alt
 ·exact⟨⟨h.w0,h.w1,h.h0,h.h1,h.g0,h.g1,h.nx,h.ny,h.nx,h.ny,h.s1x,h.s1y,h.tf,h.fh,h.tl,h.gl,h.gr⟩,rfl,rfl,λg=>g⟩
 ·exact⟨⟨h.w0,h.w1,h.h0,h.h1,h.g0,h.g1,h.nx,h.ny,h.s0x,h.s0y,h.nx,h.ny,h.tf,h.fh,h.tl,h.gl,h.gr⟩,rfl,rfl,λg=>g⟩
theorem Scr.ok.restore:Nx S S.restore:=by
 unfold Scr.restore;cases S.alt
 ·exact⟨⟨h.w0,h.w1,h.h0,h.h1,h.g0,h.g1,h.s0x,h.s0y,h.s0x,h.s0y,h.s1x,h.s1y,h.tf,h.fh,h.tl,h.gl,h.gr⟩,rfl,rfl,λg=>g⟩
 ·exact⟨⟨h.w0,h.w1,h.h0,h.h1,h.g0,h.g1,h.s1x,h.s1y,h.s0x,h.s0y,h.s1x,h.s1y,h.tf,h.fh,h.tl,h.gl,h.gr⟩,rfl,rfl,λg=>g⟩
theorem Scr.ok.line{f:Gr→Gr}(a:Kw S.w f):Nx S (S.line f):=h.setCur (h.cur.line a)
theorem Scr.ok.erase{x n:Int}:Nx S (S.erase x n):=h.line λ_ a=>a.fill
theorem Scr.ok.clear{y n:Int}:Nx S (S.clear y n):=h.setCur h.cur.fill
theorem Scr.ok.scroll{t n:Int}:Nx S (S.scroll t n):=h.setCur h.cur.scroll
omit h in
theorem TG(l:List (List Cel)):(DX l).length≤500:=by simp [DX];omega
theorem Scr.ok.keep{n:Int}:Nx S (S.keep n):=by
 unfold Scr.keep;split
 ·have e:=TG (S.gone++(List.range (min n S.fin).toNat).map S.g0.row);have a:∀r∈DX (S.gone++(List.range (min n S.fin).toNat).map S.g0.row),r∈S.gone++(List.range (min n S.fin).toNat).map S.g0.row:=λr b=>List.mem_of_mem_drop b;generalize DX (S.gone++(List.range (min n S.fin).toNat).map S.g0.row)=L at e a ⊢;refine⟨⟨h.w0,h.w1,h.h0,h.h1,h.g0,h.g1,h.nx,h.ny,h.s0x,h.s0y,h.s1x,h.s1y,h.tf,h.fh,h.tl,e,λr b=>?_⟩,rfl,rfl,λg r b=>?_⟩
  rotate_left
  ·rcases List.mem_append.1 (a r b) with c|c
   ·exact g r c
   ·obtain⟨y,d,rfl⟩:=List.mem_map.1 c;have f:=List.mem_range.1 d;have:=h.fh;have i:y<S.g0.h:=by rw[h.g0.h];omega
    show _=S.w;rw[h.g0.ok.row_len i,h.g0.w]
  have c:=a r b;rcases List.mem_append.1 c with c|c
  ·exact h.gr r c
  ·obtain⟨y,d,rfl⟩:=List.mem_map.1 c;have f:=List.mem_range.1 d;have:=h.fh;have i:y<S.g0.h:=by rw[h.g0.h];omega
   exact⟨Gr.right.at h.g0.r i,by rw[h.g0.ok.row_len i];exact h.g0.ok.w1⟩
 ·exact .refl h
theorem Scr.ok.up{n:Int}:Nx S (S.up n):=h.keep.trans h.keep.ok.scroll
theorem Scr.ok.below:Nx S S.below:=by
 unfold Scr.below;split
 ·exact h.up
 ·split
  ·exact h.at h.nx ‹_›
  ·exact .refl h
theorem Scr.ok.above:Nx S S.above:=by
 unfold Scr.above;split
 ·exact h.scroll
 ·split
  ·exact h.at h.nx (by have:=h.ny;omega)
  ·exact .refl h
theorem Scr.ok.wrapped:Nx S S.wrapped:=by
 unfold Scr.wrapped;split
 ·exact(h.at h.w0 h.ny).trans (h.at h.w0 h.ny).ok.below
 ·exact .refl h
omit h in
theorem Dy(g:Gr):(S.setCur g).now=S.now:=by unfold Scr.setCur;cases S.alt<;>rfl
omit h in
theorem Ui(n:Int):(S.keep n).now=S.now:=by unfold Scr.keep;split<;>rfl
omit h in
theorem Jq(n:Int):(S.up n).now=S.now:=by unfold Scr.up Scr.scroll;rw[Dy,Ui]
omit h in
theorem eG:S.below.now.x=S.now.x:=by
 unfold Scr.below;split
 ·rw[Jq]
 ·split<;>rfl
theorem Scr.ok.roomFor{n:Nat}(a:0<n)(b:n≤S.w):Nx S (S.roomFor n)∧(S.roomFor n).now.x+n≤S.w:=by
 unfold Scr.roomFor;split
 ·split
  ·refine⟨(h.at h.w0 h.ny).trans (h.at h.w0 h.ny).ok.below,?_⟩;rw[eG];show 0+n≤S.w;omega
  ·exact⟨h.at O h.ny,by show S.w-n+n≤S.w;omega⟩
 ·exact⟨.refl h,O⟩
theorem Scr.ok.lay{r:Int}{n:Nat}(a:S.now.x+n≤S.w):Nx S (S.lay r n):=by
 have b:Nx S (S.line λg=>g.put S.now.x 0 (A8 r S.now.pen)):=h.line λ_ c=>c.put;have d:=b.w;have e:=b.h;have w0:=h.w0;have f:=h.ny;unfold Scr.lay;dsimp only;split
 ·have i:=b.ok.at (x:=S.w-1) (y:=S.now.y) O O;exact b.trans (i.trans ⟨⟨i.ok.w0,i.ok.w1,i.ok.h0,i.ok.h1,i.ok.g0,i.ok.g1,i.ok.nx,i.ok.ny,i.ok.s0x,i.ok.s0y,i.ok.s1x,i.ok.s1y,i.ok.tf,i.ok.fh,i.ok.tl,i.ok.gl,i.ok.gr⟩,rfl,rfl,λg=>g⟩)
 ·have i:=b.ok.at (x:=S.now.x+n) (y:=S.now.y) O O;exact b.trans (i.trans i.ok.calm)
omit h in
theorem HD(r:Int):AN r=0∨AN r=1∨AN r=2:=by
 have h:∀l:List (Int × Int × Int),(∀s∈l,s.2.2=0∨s.2.2=1∨s.2.2=2)→(Ch l r=0∨Ch l r=1∨Ch l r=2):=by
  intro l
  induction l with
  | nil=>intro _;exact .inr (.inl rfl)
  | cons s l a =>
   intro b;unfold Ch;split
   ·exact b s Z
   ·exact a λx c=>b x (by simp [c])
 unfold AN;split
 ·exact .inl rfl
 ·split
  ·exact .inr (.inl rfl)
  ·exact h BE rC
theorem Scr.ok.print{r:Int}:Nx S (S.print r):=by
 unfold Scr.print;split
 ·exact .refl h
 ·have a:=HD r;have b:=h.wrapped;have c:0<(AN r).toNat∧(AN r).toNat≤S.wrapped.w:=by rw[b.w];omega
  have d:=b.ok.roomFor c.1 c.2;exact b.trans (d.1.trans (d.1.ok.lay (by rw[d.1.w];exact d.2)))
theorem Scr.ok.tab:Nx S S.tab:=h.at (by have:=h.w0;omega) h.ny
theorem Scr.ok.ctl{r:Int}:Nx S (S.ctl r):=by
 have w0:=h.w0;have a:=h.nx;unfold Scr.ctl;split
 ·exact(h.at O h.ny).trans (h.at O h.ny).ok.calm
 ·split
  ·exact h.tab.trans h.tab.ok.calm
  ·split
   ·exact h.below.trans h.below.ok.calm
   ·split
    ·exact(h.at w0 h.ny).trans (h.at w0 h.ny).ok.calm
    ·exact .refl h
theorem Scr.ok.setTabs{l:List Bool}(a:l.length=200):Nx S { S with tabs:=l }:=
 ⟨⟨h.w0,h.w1,h.h0,h.h1,h.g0,h.g1,h.nx,h.ny,h.s0x,h.s0y,h.s1x,h.s1y,h.tf,h.fh,a,h.gl,h.gr⟩,rfl,rfl,λg=>g⟩
theorem Scr.ok.esc{r:Int}:Nx S (S.esc r):=by
 unfold Scr.esc;split
 ·exact h.save
 ·split
  ·exact h.setTabs (by rw[List.length_set];exact h.tl)
  ·split
   ·have a:=h.at (x:=0) (y:=S.now.y) h.w0 h.ny;exact a.trans (a.ok.below.trans a.ok.below.ok.calm)
   ·split
    ·exact h.below.trans h.below.ok.calm
    ·split
     ·exact h.above.trans h.above.ok.calm
     ·split
      ·exact h.restore.trans h.restore.ok.calm
      ·split
       ·exact h.renew.trans h.renew.ok.calm
       ·exact .refl h
theorem Scr.ok.mode{n:Int}{a:Bool}:Nx S (S.mode n a):=by
 unfold Scr.mode;split
 ·exact⟨⟨h.w0,h.w1,h.h0,h.h1,h.g0,h.g1,h.nx,h.ny,h.s0x,h.s0y,h.s1x,h.s1y,h.tf,h.fh,h.tl,h.gl,h.gr⟩,rfl,rfl,λg=>g⟩
 ·split
  ·exact⟨⟨h.w0,h.w1,h.h0,h.h1,h.g0,h.g1,h.nx,h.ny,h.s0x,h.s0y,h.s1x,h.s1y,h.tf,h.fh,h.tl,h.gl,h.gr⟩,rfl,rfl,λg=>g⟩
  ·split
   ·split
    ·have k:=h.save.ok;have b:=h.save.w;have c:=h.save.h;refine⟨⟨k.w0,k.w1,k.h0,k.h1,k.g0,?_,k.nx,k.ny,k.s0x,k.s0y,k.s1x,k.s1y,k.tf,k.fh,k.tl,k.gl,k.gr⟩,b,c,h.save.gw⟩;show(Gr.plain S.w S.h Cel.blank).fit S.save.w S.save.h;rw[b,c];exact Gr.fit_plain h.w0 h.w1 h.h0 h.h1
    ·split
     ·have k:Nx S { S with alt:=false }:=⟨⟨h.w0,h.w1,h.h0,h.h1,h.g0,h.g1,h.nx,h.ny,h.s0x,h.s0y,h.s1x,h.s1y,h.tf,h.fh,h.tl,h.gl,h.gr⟩,rfl,rfl,λg=>g⟩;exact k.trans k.ok.restore
     ·exact .refl h
   ·exact .refl h
theorem Scr.ok.modes{l:List Int}{a:Bool}:Nx S (S.modes l a):=by
 unfold Scr.modes
 induction l generalizing S with
 | nil=>exact .refl h
 | cons n l b=>exact h.mode.trans (b h.mode.ok)
omit h in
theorem Em(a:Act')(i:Nat)(AS:Int):AS≤a.num i AS:=by unfold Act'.num;split<;>omega
theorem Scr.ok.moved{a:Act'}{T:Scr}(b:S.moved a=some T):Nx S T:=by
 have c:=Em a 0 1;have d:=h.nx;have e:=h.ny;have w0:=h.w0;have f:=h.tf;have g:=h.fh;have i:∀y:Nat,y<S.h→Nx S ((S.at 0 S.now.y).at (S.at 0 S.now.y).now.x y):=λy j=>(h.at w0 e).trans ((h.at w0 e).ok.at w0 j);have k:(if S.top≤S.now.y then(S.top:Int) else 0)≤S.now.y:=by split<;>omega
 have l:(if S.now.y+1≤S.fin then(S.fin:Int)-1 else(S.h:Int)-1)<S.h:=by split<;>omega
 unfold Scr.moved at b;dsimp only at b;split at b
 ·cases b;refine i _ ?_;simp only[Scr.at];omega
 ·split at b
  ·cases b;refine h.at d ?_;omega
  ·split at b
   ·cases b;refine i _ ?_;simp only[Scr.at];omega
   ·split at b
    ·cases b;refine h.at d ?_;omega
    ·split at b
     ·cases b;exact h.move
     ·split at b
      ·cases b;exact h.move
      ·split at b
       ·cases b;exact h.move
       ·split at b
        ·cases b;exact h.move
        ·split at b
         ·cases b;exact h.move
         ·split at b
          ·cases b;exact h.restore
          ·cases b
theorem Scr.ok.region{t f:Int}(a:0≤t)(b:0≤f):Nx S (S.region t f):=by
 have c:(if f=0∨(S.h:Int)<f then(S.h:Int) else f)≤S.h∧0≤(if f=0∨(S.h:Int)<f then(S.h:Int) else f):=by split<;>omega
 unfold Scr.region;dsimp only;generalize (if f=0∨(S.h:Int)<f then(S.h:Int) else f)=F at c ⊢;split
 ·rename_i d;have k:Nx S { S with top:=t.toNat,fin:=F.toNat }:=by
   refine⟨⟨h.w0,h.w1,h.h0,h.h1,h.g0,h.g1,h.nx,h.ny,h.s0x,h.s0y,h.s1x,h.s1y,?_,?_,h.tl,h.gl,h.gr⟩,rfl,rfl,λg=>g⟩
   ·show t.toNat<F.toNat;omega
   ·show F.toNat≤S.h;omega
  exact k.trans k.ok.move
 ·exact .refl h
theorem Scr.ok.wipeRows{k:Int}:Nx S (S.wipeRows k):=by
 unfold Scr.wipeRows;split
 ·exact h.clear
 ·split
  ·exact h.clear
  ·split
   ·exact h.clear
   ·exact .refl h
theorem Scr.ok.wipeLine{k:Int}:Nx S (S.wipeLine k):=by
 unfold Scr.wipeLine;split
 ·exact h.erase
 ·split
  ·exact h.erase
  ·split
   ·exact h.erase
   ·exact .refl h
theorem Scr.ok.shiftRows{n:Int}:Nx S (S.shiftRows n):=by
 unfold Scr.shiftRows;split
 ·have k:=h.scroll (t:=S.now.y) (n:=-n);exact k.trans (k.ok.at (by rw[k.w];exact h.w0) (by rw[k.h];exact h.ny))
 ·exact .refl h
theorem Scr.ok.changed{a:Act'}{T:Scr}(b:S.changed a=some T):Nx S T:=by
 have c:=Em a 0 1;have d:=Em a 1 0;unfold Scr.changed at b;dsimp only at b;split at b
 ·cases b;exact h.wipeRows.trans h.wipeRows.ok.wipeLine
 ·split at b
  ·cases b;exact h.wipeLine
  ·split at b
   ·cases b;exact h.shiftRows
   ·split at b
    ·cases b;exact h.shiftRows
    ·split at b
     ·cases b;exact h.line λ_ e=>e.shift
     ·split at b
      ·cases b;exact h.line λ_ e=>e.shift
      ·split at b
       ·cases b;exact h.erase
       ·split at b
        ·cases b;exact h.up
        ·split at b
         ·cases b;exact h.scroll
         ·split at b
          ·cases b;exact h.region O d
          ·cases b
theorem Scr.ok.set{a:Act'}{T:Scr}(b:S.set a=some T):Nx S T:=by
 unfold Scr.set at b;split at b
 ·cases b;exact⟨⟨h.w0,h.w1,h.h0,h.h1,h.g0,h.g1,h.nx,h.ny,h.s0x,h.s0y,h.s1x,h.s1y,h.tf,h.fh,h.tl,h.gl,h.gr⟩,rfl,rfl,λg=>g⟩
 ·split at b
  ·cases b;split
   ·exact h.setTabs (by rw[List.length_set];exact h.tl)
   ·split
    ·exact h.setTabs (by rw[List.length_replicate])
    ·exact .refl h
  ·split at b
   ·cases b;exact h.save
   ·cases b
theorem Scr.ok.csi{a:Act'}:Nx S (S.csi a):=by
 unfold Scr.csi;split
 ·exact h.modes
 ·split
  ·exact .refl h
  ·split
   ·exact h.set ‹_›
   ·split
    ·rename_i T b;exact(h.moved b).trans (h.moved b).ok.calm
    ·split
     ·rename_i T b;exact(h.changed b).trans (h.changed b).ok.calm
     ·exact .refl h
theorem Scr.ok.act{a:Act'}:Nx S (S.act a):=by
 unfold Scr.act;split
 ·exact h.print
 ·split
  ·exact h.ctl
  ·split
   ·split
    ·exact h.esc
    ·exact .refl h
   ·split
    ·exact h.csi
    ·exact .refl h
theorem Scr.ok.acts{l:List Act'}:Nx S (S.acts l):=by
 unfold Scr.acts
 induction l generalizing S with
 | nil=>exact .refl h
 | cons n l a=>exact h.act.trans (a h.act.ok)
theorem Scr.ok.resize{w k:Nat}(w0:0<w)(w1:w≤200)(a:0<k)(b:k≤60):(S.resize w k).ok∧(S.resize w k).w=w∧(S.resize w k).h=k:=
 ⟨⟨w0,w1,a,b,Gr.fit_resize w0 w1 a b,Gr.fit_resize w0 w1 a b,DQ w0,DQ a,DQ w0,DQ a,DQ w0,DQ a,a,rH _,h.tl,h.gl,h.gr⟩,rfl,rfl⟩
end
end Lyc
namespace Go.Proofs.YtnpkidnbhlepkaaGreat
open Lyc Go Go.Proofs.Tryz
set_option maxRecDepth 100000
def Su(a b:Value)(K:rD):rE:=xO .eql 205 a (.pointer none) λc=>xW c (K (.tuple #[]))<|xU b 105 λc=>Loop1 (.int .i64 0) λd e=>xO .lss 3 d c λc=>xW c (xI 105 b d λc=>xL 48 c λc=>Ag<|xM a λf=>qF 251 f 0 λf=>xC 146 [.const c] [48] 48 λc=>xC 171 [.const f,.const c] [249,48] 0 λ_=>xO .add 3 d (.int .i64 1) λc=>e c)<|K (.tuple #[])
theorem WT(a b:Value):Lk 109 #[a,b] (Su a b):=lk [a,b] [(9,[10])] func109
theorem Y8:Ad prog 109:=bd func109
def Lt(a b c:Value)(K:rD):rE:=xB 50 b λd=>xA 50 λe=>xL 50 d λf=>xC 74 [.const f] [50] 4 λf=>xN 4 f λf=>xW f (xQ (.build 50 #[]) 50 λf=>xS 50 e f<|xD 50 e λf=>K f)<|xC 172 [.const a] [205] 3 λf=>xQ (.call { callee:=.builtin .max,args:=#[.const c,.const (.int .i64 0)],argTypes:=#[3,3] }) 3 λg=>xQ (.call { callee:=.builtin .min,args:=#[.const g,.const f],argTypes:=#[3,3] }) 3 λg=>xO .sub 3 f g λg=>Ag<|Join1 (λh=>qF 50 d 0 λi=>qL 3 i λj=>qF 50 d 1 λl=>qL 3 l λm=>qF 50 d 0 λn=>qL 3 n λo=>qF 50 d 1 λp=>qL 3 p λq=>qP .mul 3 o q λr=>xT (xQ (.makeSlice 48 (.const (.int .i64 0)) (.const r)) 48 λs=>xT (qZ 3 l m)<|xT (qZ 3 i j)<|xT (xQ (.build 50 #[(0,.const j),(1,.const m),(2,.const s)]) 50 λt=>xA 50 λu=>xS 50 u t<|h u)<|xA 50 λu=>xT (qZ 3 l m)<|xT (qZ 3 i j)<|xQ (.build 50 #[(0,.const j),(1,.const m),(2,.const s)]) 50 λs=>xS 50 u s<|h u)<|xA 50 λs=>xT (qZ 3 p q)<|xT (qZ 3 n o)<|xT (qZ 3 l m)<|xT (qZ 3 i j)<|xQ (.makeSlice 48 (.const (.int .i64 0)) (.const r)) 48 λr=>xT (qZ 3 l m)<|xT (qZ 3 i j)<|xQ (.build 50 #[(0,.const j),(1,.const m),(2,.const r)]) 50 λr=>xS 50 s r<|h s) λr=>Loop1 g λs h=>xF 50 d 1 λm=>xL 3 m λm=>xO .add 3 g m λm=>xO .lss 3 s m λm=>xW m (Join0 (λm=>xO .geq 3 s f λg=>xW g (Ag<|qF 50 r 2 λg=>qL 48 g λl=>qL 50 d λj=>qP .sub 3 s f λf=>xC 189 [.const j,.const f] [50,3] 48 λf=>xT (qZ 48 g l)<|xV l f 48 48 48 λf=>qF 50 r 2 λl=>xS 48 l f<|m)<|xH a λl=>xF 251 l 0 λl=>xC 190 [.const l,.const s] [249,3] 268 λl=>xE l 0 48 λf=>xE l 1 4 λ_=>Ag<|qF 50 r 2 λl=>qL 48 l λg=>qF 50 d 0 λd=>qL 3 d λd=>xC 191 [.const f,.const d] [48,3] 48 λd=>xT (qZ 48 l g)<|xV g d 48 48 48 λd=>qF 50 r 2 λg=>xS 48 g d<|m)<|xO .add 3 s (.int .i64 1) λg=>h g)<|xL 50 r λg=>xS 50 e g<|xD 50 e λg=>K g
theorem Zq(a b c:Value):Lk 148 #[a,b,c] (Lt a b c):=lk [a,b,c] [(15,[9]),(20,[10]),(28,[])] func148
theorem iG:Ad prog 148:=bd func148
def Qt(a:Value)(K:rD):rE:=xQ (.build 251 #[]) 251 λb=>xQ (.box 251 (.const b)) 205 λb=>xQ (.call { callee:=.builtin .max,args:=#[.const a,.const (.int .i64 0)],argTypes:=#[3,3] }) 3 λc=>xQ (.call { callee:=.builtin .min,args:=#[.const c,.const (.int .i64 500)],argTypes:=#[3,3] }) 3 λc=>xH b λd=>xF 251 d 0 λd=>xF 249 d 0 λd=>xS 3 d c<|K b
theorem kA(a:Value):Lk 157 #[a] (Qt a):=lk [a] [] func157
theorem U7:Ad prog 157:=bd func157
def SK(a b:Value)(K:rD):rE:=xH a λc=>xF 249 c 0 λc=>xL 3 c λc=>xO .leq 3 c (.int .i64 0) λc=>xW c (K (.tuple #[]))<|Ag<|xM a λc=>qF 249 c 2 λc=>qL 105 c λc=>xR (.call { callee:=.builtin .len,args:=#[.const c],argTypes:=#[105] }) 3 λc=>xM a λd=>qF 249 d 0 λd=>qL 3 d λd=>qP .lss 3 c d λd=>xW d (xH a λd=>xF 249 d 2 λd=>xL 105 d λd=>xQ (.buildSlice 105 1 #[(0,.const b)]) 105 λc=>xV d c 105 105 105 λc=>xH a λd=>xF 249 d 2 λd=>xS 105 d c<|K (.tuple #[]))<|Ag<|xM a λd=>qF 249 d 2 λd=>qL 105 d λd=>xM a λc=>qF 249 c 1 λc=>qL 3 c λc=>xP (.indexAddr 105 (.const d) (.const c)) 0 λc=>xS 48 c b<|Ag<|xM a λc=>qF 249 c 1 λc=>qL 3 c λc=>qP .add 3 c (.int .i64 1) λc=>xM a λd=>qF 249 d 0 λd=>qL 3 d λd=>qP .rem 3 c d λd=>xM a λc=>qF 249 c 1 λc=>xS 3 c d<|K (.tuple #[])
theorem VJ(a b:Value):Lk 171 #[a,b] (SK a b):=lk [a,b] [] func171
theorem Wc:Ad prog 171:=bd func171
def Rj(a:Value)(K:rD):rE:=xO .eql 205 a (.pointer none) λb=>xW b (K (.int .i64 0))<|xH a λb=>xF 251 b 0 λb=>xC 223 [.const b] [249] 3 λb=>K b
theorem U8(a:Value):Lk 172 #[a] (Rj a):=lk [a] [] func172
theorem Sm:Ad prog 172:=bd func172
def Sd(a b:Value)(K:rD):rE:=Join1 (λc=>xO .lss 3 b (.int .i64 0) λd=>xW d (c (.bool true))<|xH a λd=>xF 249 d 2 λd=>xL 105 d λd=>xU d 105 λd=>xO .geq 3 b d λd=>c d) λd=>xW d (K (.tuple #[(.slice none 0 0),(.bool false)]))<|Ag<|xM a λd=>qF 249 d 2 λd=>qL 105 d λd=>xM a λc=>qF 249 c 1 λc=>qL 3 c λc=>qP .add 3 c b λc=>xM a λe=>qF 249 e 2 λe=>qL 105 e λe=>xR (.call { callee:=.builtin .len,args:=#[.const e],argTypes:=#[105] }) 3 λe=>qP .rem 3 c e λe=>xP (.indexAddr 105 (.const d) (.const e)) 0 λe=>qL 48 e λe=>K (.tuple #[e,(.bool true)])
theorem jX(a b:Value):Lk 190 #[a,b] (Sd a b):=lk [a,b] [(4,[17])] func190
theorem ej:Ad prog 190:=bd func190
def Sh(a b:Value)(K:rD):rE:=xQ (.makeSlice 48 (.const b) (.const b)) 48 λc=>xQ (.call { callee:=.builtin .copy,args:=#[.const c,.const a],argTypes:=#[48,48] }) 3 λd=>Loop1 d λd e=>xO .lss 3 d b λf=>xW f (xC 35 [] [] 60 λf=>xI 48 c d λg=>xS 60 g f<|xO .add 3 d (.int .i64 1) λg=>e g)<|xC 146 [.const c] [48] 48 λg=>K g
theorem YR(a b:Value):Lk 191 #[a,b] (Sh a b):=lk [a,b] [(8,[6])] func191
theorem fK:Ad prog 191:=bd func191
def Nk(a:Value)(K:rD):rE:=xH a λb=>xF 249 b 2 λb=>xL 105 b λb=>xU b 105 λb=>K b
theorem eF(a:Value):Lk 223 #[a] (Nk a):=lk [a] [] func223
theorem Yu:Ad prog 223:=bd func223
def LN(K:rD):rE:=xA 60 λa=>xQ (.build 60 #[(0,.const (.int .i32 32))]) 60 λb=>xS 60 a b<|xD 60 a λb=>K b
theorem ja:Lk 35 #[] (LN):=lk [] [] func35
theorem Ei:Ad prog 35:=bd func35
def Sn(a:Value)(K:rD):rE:=Loop1 (.int .i64 0) λb c=>xU a 48 λd=>xO .lss 3 b d λd=>xW d (xC 187 [.const a,.const b] [48,3] 4 λd=>xW d (xO .add 3 b (.int .i64 1) λd=>xO .add 3 d (.int .i64 1) λd=>c d)<|xI 48 a b λd=>xL 60 d λd=>xC 188 [.const d] [60] 4 λd=>xN 4 d λd=>xW d (K (.bool false))<|xO .add 3 b (.int .i64 1) λd=>c d)<|K (.bool true)
theorem Y2(a:Value):Lk 144 #[a] (Sn a):=lk [a] [(6,[3])] func144
theorem Uo:Ad prog 144:=bd func144
def RU(a:Value)(K:rD):rE:=xU a 48 λb=>xQ (.makeSlice 48 (.const b) (.const b)) 48 λb=>xQ (.call { callee:=.builtin .copy,args:=#[.const b,.const a],argTypes:=#[48,48] }) 3 λ_=>Loop1 (.int .i64 0) λc d=>xU a 48 λe=>xO .lss 3 c e λe=>xW e (xC 187 [.const a,.const c] [48,3] 4 λe=>xW e (xO .add 3 c (.int .i64 1) λe=>xO .add 3 e (.int .i64 1) λe=>d e)<|xI 48 a c λe=>xL 60 e λe=>xC 188 [.const e] [60] 4 λe=>xN 4 e λe=>xW e (Ag<|xP (.indexAddr 48 (.const a) (.const c)) 0 λe=>qF 60 e 1 λe=>qL 5 e λe=>xP (.indexAddr 48 (.const a) (.const c)) 0 λf=>qF 60 f 2 λf=>qL 5 f λf=>xQ (.build 60 #[(0,.const (.int .i32 32)),(1,.const e),(2,.const f)]) 60 λf=>xP (.indexAddr 48 (.const b) (.const c)) 0 λe=>xS 60 e f<|xO .add 3 c (.int .i64 1) λe=>d e)<|xO .add 3 c (.int .i64 1) λe=>d e)<|K b
theorem gY(a:Value):Lk 146 #[a] (RU a):=lk [a] [(10,[4])] func146
theorem I3:Ad prog 146:=bd func146
def Qf(a:Value)(K:rD):rE:=xB 60 a λb=>Ag<|qF 60 b 3 λc=>qL 5 c λc=>qP .and 5 c (.int .u8 64) λc=>qR .neq 5 c (.int .u8 0) λc=>qF 60 b 3 λd=>qL 5 d λd=>qP .and 5 d (.int .u8 128) λd=>qR .neq 5 d (.int .u8 0) λd=>xW d (Join1 (λd=>xN 4 c λe=>xW e (xF 60 b 0 λe=>xL 21 e λe=>xO .eql 21 e (.int .i32 0) λe=>d e)<|d (.bool false)) λe=>K e)<|xW c (xF 60 b 0 λe=>xL 21 e λe=>xC 194 [.const e] [21] 3 λe=>xO .eql 3 e (.int .i64 2) λe=>K e)<|xF 60 b 0 λe=>xL 21 e λe=>xC 194 [.const e] [21] 3 λe=>xO .eql 3 e (.int .i64 1) λe=>K e
theorem X9(a:Value):Lk 151 #[a] (Qf a):=lk [a] [(10,[2])] func151
theorem I1:Ad prog 151:=bd func151
def Ou(a b:Value)(K:rD):rE:=xI 48 a b λc=>xL 60 c λc=>xA 60 λd=>xS 60 d c<|Ag<|Join1 (λc=>qF 60 d 3 λe=>qL 5 e λe=>qP .and 5 e (.int .u8 64) λe=>qR .neq 5 e (.int .u8 0) λe=>xW e (qL 60 d λe=>xC 151 [.const e] [60] 4 λe=>xW e (qP .add 3 b (.int .i64 1) λe=>xR (.call { callee:=.builtin .len,args:=#[.const a],argTypes:=#[48] }) 3 λf=>qP .lss 3 e f λf=>xW f (qP .add 3 b (.int .i64 1) λf=>xP (.indexAddr 48 (.const a) (.const f)) 0 λf=>qL 60 f λe=>qL 60 d λd=>xC 228 [.const d] [60] 60 λd=>xT (qZ 60 f e)<|qR .eql 60 e d λd=>c d)<|c (.bool false))<|c (.bool false))<|c (.bool false)) λd=>K d
theorem fH(a b:Value):Lk 187 #[a,b] (Ou a b):=lk [a,b] [(5,[4])] func187
theorem MB:Ad prog 187:=bd func187
def NY(a:Value)(K:rD):rE:=xB 60 a λb=>Join1 (λc=>xF 60 b 3 λd=>xL 5 d λd=>xO .and 5 d (.int .u8 192) λd=>xO .eql 5 d (.int .u8 0) λd=>xW d (xL 60 b λd=>xC 151 [.const d] [60] 4 λd=>c d)<|c (.bool false)) λd=>K d
theorem U1(a:Value):Lk 188 #[a] (NY a):=lk [a] [(3,[2])] func188
theorem NO:Ad prog 188:=bd func188
def PT(a b:Value)(K:rD):rE:=xB 60 b λc=>xF 60 c 1 λd=>xL 5 d λd=>xF 60 c 2 λe=>xL 5 e λe=>xF 60 c 3 λc=>xL 5 c λc=>xO .andNot 5 c (.int .u8 192) λc=>xQ (.build 60 #[(0,.const a),(1,.const d),(2,.const e),(3,.const c)]) 60 λc=>xA 60 λe=>xS 60 e c<|xC 194 [.const a] [21] 3 λc=>xO .eql 3 c (.int .i64 1) λd=>xW d (xL 60 e λd=>xQ (.buildSlice 48 1 #[(0,.const d)]) 48 λd=>K d)<|xO .eql 3 c (.int .i64 2) λd=>xW d (xF 60 e 3 λd=>xL 5 d λd=>xO .or 5 d (.int .u8 64) λd=>xF 60 e 3 λc=>xS 5 c d<|Ag<|qL 60 e λc=>qL 60 e λd=>xC 228 [.const d] [60] 60 λd=>xT (qZ 60 e c)<|xQ (.buildSlice 48 2 #[(0,.const c),(1,.const d)]) 48 λd=>K d)<|K (.slice none 0 0)
theorem ZZ(a b:Value):Lk 210 #[a,b] (PT a b):=lk [a,b] [] func210
theorem bN:Ad prog 210:=bd func210
def Qo(a:Value)(K:rD):rE:=xB 60 a λb=>xA 60 λc=>xF 60 b 1 λd=>xL 5 d λd=>xF 60 b 2 λe=>xL 5 e λe=>xF 60 b 3 λb=>xL 5 b λb=>xO .andNot 5 b (.int .u8 64) λb=>xO .or 5 b (.int .u8 128) λb=>xQ (.build 60 #[(1,.const d),(2,.const e),(3,.const b)]) 60 λb=>xS 60 c b<|xD 60 c λb=>K b
theorem dh(a:Value):Lk 228 #[a] (Qo a):=lk [a] [] func228
theorem Sw:Ad prog 228:=bd func228
def PM(a b:Value)(K:rD):rE:=xO .eql 243 a (.pointer none) λc=>xW c (K (.slice none 0 0))<|xH a λc=>xF 202 c 0 λc=>xL 9 c λc=>xO .add 9 c b λc=>xC 169 [.const c] [9] 244 λc=>xE c 0 97 λd=>xE c 1 9 λc=>xC 170 [.const c] [9] 9 λc=>xH a λe=>xF 202 e 0 λe=>xS 9 e c<|K d
theorem TR(a b:Value):Lk 108 #[a,b] (PM a b):=lk [a,b] [] func108
theorem Wu:Ad prog 108:=bd func108
def Pr(a:Value)(K:rD):rE:=Join2 (λb=>Loop2 a (.slice none 0 0) λc d e=>xU c 9 λf=>xO .gtr 3 f (.int .i64 0) λf=>xW f (xC 221 [.const c] [9] 285 λf=>xE f 0 21 λg=>xE f 1 3 λh=>xE f 2 4 λf=>xW f (b c d)<|xQ (.buildSlice 97 1 #[(0,.const g)]) 97 λf=>xV d f 97 97 97 λf=>xQ (.slice 9 (.const c) (some (.const h)) none none) 9 λh=>e h f)<|b c d) λh f=>K (.tuple #[f,h])
theorem jg(a:Value):Lk 169 #[a] (Pr a):=lk [a] [(8,[0,4]),(9,[0,4])] func169
theorem jh:Ad prog 169:=bd func169
def O6(a:Value)(K:rD):rE:=xQ (.build 296 #[(0,.const (.int .i32 127)),(1,.const (.int .i32 159)),(2,.const (.int .i64 0))]) 296 λb=>xQ (.build 296 #[(0,.const (.int .i32 768)),(1,.const (.int .i32 879)),(2,.const (.int .i64 0))]) 296 λc=>xQ (.build 296 #[(0,.const (.int .i32 8203)),(1,.const (.int .i32 8207)),(2,.const (.int .i64 0))]) 296 λd=>xQ (.build 296 #[(0,.const (.int .i32 55296)),(1,.const (.int .i32 57343)),(2,.const (.int .i64 0))]) 296 λe=>xQ (.build 296 #[(0,.const (.int .i32 65024)),(1,.const (.int .i32 65039)),(2,.const (.int .i64 0))]) 296 λf=>xQ (.build 296 #[(0,.const (.int .i32 4352)),(1,.const (.int .i32 4447)),(2,.const (.int .i64 2))]) 296 λg=>xQ (.build 296 #[(0,.const (.int .i32 11904)),(1,.const (.int .i32 12350)),(2,.const (.int .i64 2))]) 296 λh=>xQ (.build 296 #[(0,.const (.int .i32 12353)),(1,.const (.int .i32 42191)),(2,.const (.int .i64 2))]) 296 λi=>xQ (.build 296 #[(0,.const (.int .i32 44032)),(1,.const (.int .i32 55203)),(2,.const (.int .i64 2))]) 296 λj=>xQ (.build 296 #[(0,.const (.int .i32 63744)),(1,.const (.int .i32 64255)),(2,.const (.int .i64 2))]) 296 λl=>xQ (.build 296 #[(0,.const (.int .i32 65072)),(1,.const (.int .i32 65135)),(2,.const (.int .i64 2))]) 296 λm=>xQ (.build 296 #[(0,.const (.int .i32 65281)),(1,.const (.int .i32 65376)),(2,.const (.int .i64 2))]) 296 λn=>xQ (.build 296 #[(0,.const (.int .i32 65504)),(1,.const (.int .i32 65510)),(2,.const (.int .i64 2))]) 296 λo=>xQ (.build 296 #[(0,.const (.int .i32 127744)),(1,.const (.int .i32 128591)),(2,.const (.int .i64 2))]) 296 λp=>xQ (.build 296 #[(0,.const (.int .i32 129280)),(1,.const (.int .i32 129535)),(2,.const (.int .i64 2))]) 296 λq=>xQ (.build 296 #[(0,.const (.int .i32 131072)),(1,.const (.int .i32 262141)),(2,.const (.int .i64 2))]) 296 λr=>xQ (.build 297 #[(0,.const b),(1,.const c),(2,.const d),(3,.const e),(4,.const f),(5,.const g),(6,.const h),(7,.const i),(8,.const j),(9,.const l),(10,.const m),(11,.const n),(12,.const o),(13,.const p),(14,.const q),(15,.const r)]) 297 λr=>xA 297 λq=>xS 297 q r<|Join1 (λr=>xO .lss 21 a (.int .i32 32) λp=>xW p (r (.bool true))<|xO .gtr 21 a (.int .i32 1114111) λp=>r p) λp=>xW p (K (.int .i64 0))<|xO .lss 21 a (.int .i32 127) λp=>xW p (K (.int .i64 1))<|xL 297 q λp=>Loop1 (.int .i64 0) λq r=>xO .lss 3 q (.int .i64 16) λo=>xW o (xQ (.index 297 (.const p) (.const q)) 296 λo=>xA 296 λp=>xS 296 p o<|Join1 (λo=>xF 296 p 0 λn=>xL 21 n λn=>xO .geq 21 a n λn=>xW n (xF 296 p 1 λn=>xL 21 n λn=>xO .leq 21 a n λn=>o n)<|o (.bool false)) λn=>xW n (xF 296 p 2 λn=>xL 3 n λn=>K n)<|xO .add 3 q (.int .i64 1) λn=>r n)<|K (.int .i64 1)
theorem aW(a:Value):Lk 194 #[a] (O6 a):=lk [a] [(7,[23]),(23,[34]),(35,[46])] func194
theorem G3:Ad prog 194:=bd func194
def K8(a:Value)(K:rD):rE:=xQ (.index 9 (.const a) (.const (.int .i64 0))) 5 λb=>Join2 (λc=>xO .leq 5 b (.int .u8 127) λd=>xW d (xQ (.convert 5 21 (.const b)) 21 λd=>K (.tuple #[d,(.int .i64 1),(.bool false)]))<|Join1 (λd=>xO .geq 5 b (.int .u8 194) λe=>xW e (xO .leq 5 b (.int .u8 223) λe=>d e)<|d (.bool false)) λe=>xW e (xO .and 5 b (.int .u8 31) λe=>xQ (.convert 5 21 (.const e)) 21 λe=>c e (.int .i64 1))<|Join1 (λe=>xO .geq 5 b (.int .u8 224) λd=>xW d (xO .leq 5 b (.int .u8 239) λd=>e d)<|e (.bool false)) λd=>xW d (xO .and 5 b (.int .u8 15) λd=>xQ (.convert 5 21 (.const d)) 21 λd=>c d (.int .i64 2))<|Join1 (λd=>xO .geq 5 b (.int .u8 240) λe=>xW e (xO .leq 5 b (.int .u8 244) λe=>d e)<|d (.bool false)) λe=>xW e (xO .and 5 b (.int .u8 7) λe=>xQ (.convert 5 21 (.const e)) 21 λe=>c e (.int .i64 3))<|K (.tuple #[(.int .i32 65533),(.int .i64 1),(.bool false)])) λe c=>Join2 (λd=>xO .eql 5 b (.int .u8 224) λf=>xW f (d (.int .u8 160) (.int .u8 191))<|xO .eql 5 b (.int .u8 237) λf=>xW f (d (.int .u8 128) (.int .u8 159))<|xO .eql 5 b (.int .u8 240) λf=>xW f (d (.int .u8 144) (.int .u8 191))<|xO .eql 5 b (.int .u8 244) λf=>xW f (d (.int .u8 128) (.int .u8 143))<|d (.int .u8 128) (.int .u8 191)) λf d=>Loop4 e (.int .i64 1) f d λd f e b g=>xO .leq 3 f c λc=>xW c (xU a 9 λc=>xO .eql 3 f c λc=>xW c (K (.tuple #[(.int .i32 65533),f,(.bool true)]))<|xQ (.index 9 (.const a) (.const f)) 5 λc=>Join1 (λh=>xO .lss 5 c e λe=>xW e (h (.bool true))<|xO .gtr 5 c b λe=>h e) λe=>xW e (K (.tuple #[(.int .i32 65533),f,(.bool false)]))<|xO .shl 21 d (.int .u64 6) λe=>xO .and 5 c (.int .u8 63) λc=>xQ (.convert 5 21 (.const c)) 21 λc=>xO .or 21 e c λc=>xO .add 3 f (.int .i64 1) λe=>g c e (.int .u8 128) (.int .u8 191))<|K (.tuple #[d,f,(.bool false)])
theorem UL(a:Value):Lk 221 #[a] (K8 a):=lk [a] [(6,[2,6]),(15,[17]),(19,[27]),(23,[37]),(29,[7,8]),(54,[2,3,7,8]),(75,[76])] func221
theorem TO:Ad prog 221:=bd func221
def M0(a b:Value)(K:rD):rE:=xH a λc=>xF 86 c 0 λc=>xL 9 c λc=>xO .add 9 c b λc=>xH a λd=>xF 86 d 0 λd=>xS 9 d c<|Loop1 (.slice none 0 0) λd c=>xH a λe=>xF 86 e 0 λe=>xL 9 e λe=>xO .neq 9 e (.string { data:=#[] }) λe=>xW e (xH a λe=>xF 86 e 0 λe=>xL 9 e λe=>xC 70 [.const e] [9] 154 λe=>xA 154 λf=>xS 154 f e<|xF 154 f 2 λe=>xL 4 e λe=>xW e (K d)<|xF 154 f 1 λe=>xL 21 e λe=>xQ (.buildSlice 97 1 #[(0,.const e)]) 97 λe=>xV d e 97 97 97 λe=>Ag<|xM a λg=>qF 86 g 0 λg=>qL 9 g λg=>qF 154 f 0 λf=>qL 3 f λf=>xP (.slice 9 (.const g) (some (.const f)) none none) 9 λf=>xM a λg=>qF 86 g 0 λg=>xS 9 g f<|c e)<|K d
theorem jS(a b:Value):Lk 28 #[a,b] (M0 a b):=lk [a,b] [(8,[5])] func28
theorem Z3:Ad prog 28:=bd func28
def Ld(a:Value)(K:rD):rE:=xA 154 λb=>xQ (.index 9 (.const a) (.const (.int .i64 0))) 5 λc=>xC 137 [.const c] [5] 222 λc=>xA 222 λd=>xS 222 d c<|xI 222 d (.int .i64 0) λc=>xL 3 c λc=>xO .lss 3 c (.int .i64 0) λc=>xW c (xQ (.build 154 #[(0,.const (.int .i64 1)),(1,.const (.int .i32 65533))]) 154 λc=>xS 154 b c<|xD 154 b λc=>K c)<|xI 222 d (.int .i64 0) λc=>xL 3 c λc=>xO .eql 3 c (.int .i64 0) λc=>xW c (xQ (.index 9 (.const a) (.const (.int .i64 0))) 5 λc=>xQ (.convert 5 21 (.const c)) 21 λc=>xQ (.build 154 #[(0,.const (.int .i64 1)),(1,.const c)]) 154 λc=>xS 154 b c<|xD 154 b λc=>K c)<|xQ (.index 9 (.const a) (.const (.int .i64 0))) 5 λc=>xQ (.convert 5 3 (.const c)) 3 λc=>Join1 (λe=>xI 222 d (.int .i64 0) λf=>xL 3 f λf=>xO .eql 3 f (.int .i64 1) λg=>xW g (xO .sub 3 c (.int .i64 192) λg=>e g)<|xO .eql 3 f (.int .i64 2) λg=>xW g (xO .sub 3 c (.int .i64 224) λg=>e g)<|xO .eql 3 f (.int .i64 3) λg=>xW g (xO .sub 3 c (.int .i64 240) λg=>e g)<|e c) λg=>Loop2 g (.int .i64 1) λg e c=>xI 222 d (.int .i64 0) λf=>xL 3 f λf=>xO .leq 3 e f λf=>xW f (xU a 9 λf=>xO .geq 3 e f λf=>xW f (xQ (.build 154 #[(0,.const e),(1,.const (.int .i32 65533)),(2,.const (.bool true))]) 154 λf=>xS 154 b f<|xD 154 b λf=>K f)<|xQ (.index 9 (.const a) (.const e)) 5 λf=>xQ (.convert 5 3 (.const f)) 3 λf=>Join2 (λh=>xO .eql 3 e (.int .i64 1) λi=>xW i (xI 222 d (.int .i64 1) λi=>xL 3 i λi=>xI 222 d (.int .i64 2) λj=>xL 3 j λj=>h i j)<|h (.int .i64 128) (.int .i64 191)) λj i=>Join1 (λh=>xO .lss 3 f j λj=>xW j (h (.bool true))<|xO .gtr 3 f i λj=>h j) λj=>xW j (xQ (.build 154 #[(0,.const e),(1,.const (.int .i32 65533))]) 154 λj=>xS 154 b j<|xD 154 b λj=>K j)<|xO .mul 3 g (.int .i64 64) λj=>xO .add 3 j f λj=>xO .sub 3 j (.int .i64 128) λj=>xO .add 3 e (.int .i64 1) λe=>c j e)<|xI 222 d (.int .i64 0) λe=>xL 3 e λe=>xO .add 3 e (.int .i64 1) λe=>xQ (.convert 3 21 (.const g)) 21 λg=>xQ (.build 154 #[(0,.const e),(1,.const g)]) 154 λg=>xS 154 b g<|xD 154 b λg=>K g
theorem YN(a:Value):Lk 70 #[a] (Ld a):=lk [a] [(22,[4]),(43,[4,5]),(66,[7,8]),(76,[69])] func70
theorem eM:Ad prog 70:=bd func70
def K6(a:Value)(K:rD):rE:=Join1 (λb=>xC 174 [.const a] [21] 4 λc=>xW c (b (.bool true))<|xO .lss 21 a (.int .i32 32) λc=>xW c (b (.bool true))<|xC 175 [.const a,.const (.int .i64 127),.const (.int .i64 159)] [21,3,3] 4 λc=>xW c (b (.bool true))<|xC 175 [.const a,.const (.int .i64 768),.const (.int .i64 879)] [21,3,3] 4 λc=>xW c (b (.bool true))<|xC 175 [.const a,.const (.int .i64 8203),.const (.int .i64 8207)] [21,3,3] 4 λc=>xW c (b (.bool true))<|xC 175 [.const a,.const (.int .i64 65024),.const (.int .i64 65039)] [21,3,3] 4 λc=>b c) λc=>xW c (K (.int .i64 0))<|Join1 (λc=>xC 175 [.const a,.const (.int .i64 4352),.const (.int .i64 4447)] [21,3,3] 4 λb=>xW b (c (.bool true))<|xC 175 [.const a,.const (.int .i64 11904),.const (.int .i64 12350)] [21,3,3] 4 λb=>xW b (c (.bool true))<|xC 175 [.const a,.const (.int .i64 12353),.const (.int .i64 42191)] [21,3,3] 4 λb=>xW b (c (.bool true))<|xC 175 [.const a,.const (.int .i64 44032),.const (.int .i64 55203)] [21,3,3] 4 λb=>xW b (c (.bool true))<|xC 175 [.const a,.const (.int .i64 63744),.const (.int .i64 64255)] [21,3,3] 4 λb=>xW b (c (.bool true))<|xC 175 [.const a,.const (.int .i64 65072),.const (.int .i64 65135)] [21,3,3] 4 λb=>xW b (c (.bool true))<|xC 175 [.const a,.const (.int .i64 65281),.const (.int .i64 65376)] [21,3,3] 4 λb=>xW b (c (.bool true))<|xC 175 [.const a,.const (.int .i64 65504),.const (.int .i64 65510)] [21,3,3] 4 λb=>xW b (c (.bool true))<|xC 175 [.const a,.const (.int .i64 127744),.const (.int .i64 128591)] [21,3,3] 4 λb=>xW b (c (.bool true))<|xC 175 [.const a,.const (.int .i64 129280),.const (.int .i64 129535)] [21,3,3] 4 λb=>xW b (c (.bool true))<|xC 175 [.const a,.const (.int .i64 131072),.const (.int .i64 262141)] [21,3,3] 4 λb=>c b) λb=>xW b (K (.int .i64 2))<|K (.int .i64 1)
theorem Uj(a:Value):Lk 117 #[a] (K6 a):=lk [a] [(4,[24]),(12,[66])] func117
theorem Js:Ad prog 117:=bd func117
def LV(a:Value)(K:rD):rE:=xA 222 λb=>xO .lss 5 a (.int .u8 128) λc=>xW c (xQ (.build 222 #[(0,.const (.int .i64 0)),(1,.const (.int .i64 128)),(2,.const (.int .i64 191))]) 222 λc=>xS 222 b c<|xD 222 b λc=>K c)<|Join1 (λc=>xO .geq 5 a (.int .u8 194) λd=>xW d (xO .leq 5 a (.int .u8 223) λd=>c d)<|c (.bool false)) λd=>xW d (xQ (.build 222 #[(0,.const (.int .i64 1)),(1,.const (.int .i64 128)),(2,.const (.int .i64 191))]) 222 λd=>xS 222 b d<|xD 222 b λd=>K d)<|xO .eql 5 a (.int .u8 224) λd=>xW d (xQ (.build 222 #[(0,.const (.int .i64 2)),(1,.const (.int .i64 160)),(2,.const (.int .i64 191))]) 222 λd=>xS 222 b d<|xD 222 b λd=>K d)<|xO .eql 5 a (.int .u8 237) λd=>xW d (xQ (.build 222 #[(0,.const (.int .i64 2)),(1,.const (.int .i64 128)),(2,.const (.int .i64 159))]) 222 λd=>xS 222 b d<|xD 222 b λd=>K d)<|Join1 (λd=>xO .geq 5 a (.int .u8 225) λc=>xW c (xO .leq 5 a (.int .u8 239) λc=>d c)<|d (.bool false)) λc=>xW c (xQ (.build 222 #[(0,.const (.int .i64 2)),(1,.const (.int .i64 128)),(2,.const (.int .i64 191))]) 222 λc=>xS 222 b c<|xD 222 b λc=>K c)<|xO .eql 5 a (.int .u8 240) λc=>xW c (xQ (.build 222 #[(0,.const (.int .i64 3)),(1,.const (.int .i64 144)),(2,.const (.int .i64 191))]) 222 λc=>xS 222 b c<|xD 222 b λc=>K c)<|Join1 (λc=>xO .geq 5 a (.int .u8 241) λd=>xW d (xO .leq 5 a (.int .u8 243) λd=>c d)<|c (.bool false)) λd=>xW d (xQ (.build 222 #[(0,.const (.int .i64 3)),(1,.const (.int .i64 128)),(2,.const (.int .i64 191))]) 222 λd=>xS 222 b d<|xD 222 b λd=>K d)<|xO .eql 5 a (.int .u8 244) λd=>xW d (xQ (.build 222 #[(0,.const (.int .i64 3)),(1,.const (.int .i64 128)),(2,.const (.int .i64 143))]) 222 λd=>xS 222 b d<|xD 222 b λd=>K d)<|xQ (.build 222 #[(0,.const (.int .i64 (-1))),(1,.const (.int .i64 0)),(2,.const (.int .i64 0))]) 222 λd=>xS 222 b d<|xD 222 b λd=>K d
theorem fm(a:Value):Lk 137 #[a] (LV a):=lk [a] [(11,[7]),(29,[23]),(41,[35])] func137
theorem YL:Ad prog 137:=bd func137
def Nj(a:Value)(K:rD):rE:=Join1 (λb=>xO .lss 21 a (.int .i32 0) λc=>xW c (b (.bool true))<|xO .gtr 21 a (.int .i32 1114111) λc=>xW c (b (.bool true))<|xO .geq 21 a (.int .i32 55296) λc=>xW c (xO .leq 21 a (.int .i32 57343) λc=>b c)<|b (.bool false)) λc=>K c
theorem gH(a:Value):Lk 174 #[a] (Nj a):=lk [a] [(3,[2])] func174
theorem YF:Ad prog 174:=bd func174
def Sp(a b c:Value)(K:rD):rE:=Join1 (λd=>xQ (.convert 21 3 (.const a)) 3 λe=>xO .geq 3 e b λe=>xW e (xQ (.convert 21 3 (.const a)) 3 λe=>xO .leq 3 e c λe=>d e)<|d (.bool false)) λe=>K e
theorem eS(a b c:Value):Lk 175 #[a,b,c] (Sp a b c):=lk [a,b,c] [(3,[6])] func175
theorem Cg:Ad prog 175:=bd func175
def Qj(a:Value)(K:rD):rE:=Loop2 (.slice none 0 0) (.int .i64 0) λb c d=>xU a 48 λe=>xO .lss 3 c e λe=>xW e (xI 48 a c λe=>xL 60 e λe=>xA 60 λf=>xS 60 f e<|xL 60 f λe=>xC 138 [.const e] [60] 4 λe=>xC 139 [.const a,.const c] [48,3] 4 λg=>xO .sub 3 c (.int .i64 1) λh=>xC 139 [.const a,.const h] [48,3] 4 λh=>Join0 (λi=>Join1 (λj=>xW g (xN 4 (.bool true) λg=>j g)<|xW h (xN 4 (.bool true) λg=>j g)<|xW e (xL 60 f λg=>xC 140 [.const g] [60] 4 λg=>xN 4 g λg=>xW g (xL 60 f λg=>xC 141 [.const g] [60] 4 λg=>xN 4 g λg=>xN 4 g λg=>j g)<|xN 4 (.bool false) λg=>j g)<|xN 4 (.bool false) λg=>j g) λg=>xW g (xF 60 f 1 λg=>xL 5 g λg=>xF 60 f 2 λj=>xL 5 j λj=>xQ (.build 60 #[(0,.const (.int .i32 32)),(1,.const g),(2,.const j)]) 60 λj=>xS 60 f j<|i)<|i)<|xL 60 f λj=>xQ (.buildSlice 48 1 #[(0,.const j)]) 48 λj=>xV b j 48 48 48 λj=>xO .add 3 c (.int .i64 1) λc=>d j c)<|K b
theorem eV(a:Value):Lk 71 #[a] (Qj a):=lk [a] [(8,[3,4]),(25,[]),(27,[45])] func71
theorem Lr:Ad prog 71:=bd func71
def Oa(K:rD):rE:=xA 60 λa=>xQ (.build 60 #[(0,.const (.int .i32 32))]) 60 λb=>xS 60 a b<|xD 60 a λb=>K b
theorem dD:Lk 116 #[] (Oa):=lk [] [] func116
theorem Vf:Ad prog 116:=bd func116
def Ow(a b:Value)(K:rD):rE:=xB 60 b λc=>xC 117 [.const a] [21] 3 λd=>xF 60 c 1 λe=>xL 5 e λe=>xF 60 c 2 λf=>xL 5 f λf=>xF 60 c 3 λc=>xL 5 c λc=>xO .rem 5 c (.int .u8 64) λc=>xQ (.build 60 #[(0,.const a),(1,.const e),(2,.const f),(3,.const c)]) 60 λc=>xA 60 λf=>xS 60 f c<|xO .eql 3 d (.int .i64 1) λc=>xW c (xL 60 f λc=>xQ (.buildSlice 48 1 #[(0,.const c)]) 48 λc=>K c)<|xO .eql 3 d (.int .i64 2) λc=>xW c (xF 60 f 3 λc=>xL 5 c λc=>xO .add 5 c (.int .u8 64) λc=>xF 60 f 3 λd=>xS 5 d c<|Ag<|qL 60 f λd=>qL 60 f λc=>xC 178 [.const c] [60] 60 λc=>xT (qZ 60 f d)<|xQ (.buildSlice 48 2 #[(0,.const d),(1,.const c)]) 48 λc=>K c)<|K (.slice none 0 0)
theorem XJ(a b:Value):Lk 120 #[a,b] (Ow a b):=lk [a,b] [] func120
theorem Uk:Ad prog 120:=bd func120
def MM(a:Value)(K:rD):rE:=xB 60 a λb=>xF 60 b 0 λc=>xL 21 c λc=>xC 117 [.const c] [21] 3 λc=>xL 60 b λd=>xC 141 [.const d] [60] 4 λd=>xW d (Join1 (λd=>xL 60 b λe=>xC 140 [.const e] [60] 4 λe=>xN 4 e λe=>xW e (xF 60 b 0 λe=>xL 21 e λe=>xO .eql 21 e (.int .i32 0) λe=>d e)<|d (.bool false)) λe=>K e)<|Join1 (λe=>xO .eql 3 c (.int .i64 1) λd=>xW d (xL 60 b λd=>xC 140 [.const d] [60] 4 λd=>xN 4 d λd=>xW d (e (.bool true))<|xO .eql 3 c (.int .i64 2) λd=>xW d (xL 60 b λd=>xC 140 [.const d] [60] 4 λd=>e d)<|e (.bool false))<|xO .eql 3 c (.int .i64 2) λd=>xW d (xL 60 b λd=>xC 140 [.const d] [60] 4 λd=>e d)<|e (.bool false)) λd=>K d
theorem gV(a:Value):Lk 138 #[a] (MM a):=lk [a] [(9,[2]),(13,[2])] func138
theorem Gt:Ad prog 138:=bd func138
def Sq(a b:Value)(K:rD):rE:=Ag<|Join1 (λc=>qP .geq 3 b (.int .i64 0) λd=>xW d (qP .add 3 b (.int .i64 1) λd=>xR (.call { callee:=.builtin .len,args:=#[.const a],argTypes:=#[48] }) 3 λe=>qP .lss 3 d e λe=>xW e (xP (.indexAddr 48 (.const a) (.const b)) 0 λe=>qL 60 e λe=>xC 138 [.const e] [60] 4 λe=>xW e (xP (.indexAddr 48 (.const a) (.const b)) 0 λe=>qL 60 e λe=>xC 140 [.const e] [60] 4 λe=>xW e (qP .add 3 b (.int .i64 1) λe=>xP (.indexAddr 48 (.const a) (.const e)) 0 λe=>qL 60 e λd=>xP (.indexAddr 48 (.const a) (.const b)) 0 λf=>qL 60 f λf=>xC 178 [.const f] [60] 60 λf=>xT (qZ 60 e d)<|qR .eql 60 d f λf=>c f)<|c (.bool false))<|c (.bool false))<|c (.bool false))<|c (.bool false)) λf=>K f
theorem Xt(a b:Value):Lk 139 #[a,b] (Sq a b):=lk [a,b] [(3,[4])] func139
theorem Gi:Ad prog 139:=bd func139
def K7(a:Value)(K:rD):rE:=xB 60 a λb=>xF 60 b 3 λb=>xL 5 b λb=>xO .quo 5 b (.int .u8 64) λb=>xO .rem 5 b (.int .u8 2) λb=>xO .eql 5 b (.int .u8 1) λb=>K b
theorem jR(a:Value):Lk 140 #[a] (K7 a):=lk [a] [] func140
theorem EN:Ad prog 140:=bd func140
def Mj(a:Value)(K:rD):rE:=xB 60 a λb=>xF 60 b 3 λb=>xL 5 b λb=>xO .quo 5 b (.int .u8 128) λb=>xO .eql 5 b (.int .u8 1) λb=>K b
theorem Vh(a:Value):Lk 141 #[a] (Mj a):=lk [a] [] func141
theorem H7:Ad prog 141:=bd func141
def N1(a:Value)(K:rD):rE:=xB 60 a λb=>xA 60 λc=>xF 60 b 1 λd=>xL 5 d λd=>xF 60 b 2 λe=>xL 5 e λe=>xF 60 b 3 λb=>xL 5 b λb=>xO .rem 5 b (.int .u8 64) λb=>xO .add 5 b (.int .u8 128) λb=>xQ (.build 60 #[(1,.const d),(2,.const e),(3,.const b)]) 60 λb=>xS 60 c b<|xD 60 c λb=>K b
theorem gn(a:Value):Lk 178 #[a] (N1 a):=lk [a] [] func178
theorem Nn:Ad prog 178:=bd func178
def P1(a:Value)(K:rD):rE:=Loop1 (.int .i64 0) λb c=>xU a 48 λd=>xO .lss 3 b d λd=>xW d (Join1 (λd=>xI 48 a b λe=>xL 60 e λe=>xC 138 [.const e] [60] 4 λe=>xN 4 e λe=>xW e (d (.bool true))<|xI 48 a b λe=>xL 60 e λe=>xC 140 [.const e] [60] 4 λe=>xW e (xC 139 [.const a,.const b] [48,3] 4 λe=>xN 4 e λe=>xW e (d (.bool true))<|xI 48 a b λe=>xL 60 e λe=>xC 141 [.const e] [60] 4 λe=>xW e (xO .sub 3 b (.int .i64 1) λe=>xC 139 [.const a,.const e] [48,3] 4 λe=>xN 4 e λe=>d e)<|d (.bool false))<|xI 48 a b λe=>xL 60 e λe=>xC 141 [.const e] [60] 4 λe=>xW e (xO .sub 3 b (.int .i64 1) λe=>xC 139 [.const a,.const e] [48,3] 4 λe=>xN 4 e λe=>d e)<|d (.bool false)) λe=>xW e (K (.bool false))<|xO .add 3 b (.int .i64 1) λe=>c e)<|K (.bool true)
theorem XG(a:Value):Lk 224 #[a] (P1 a):=lk [a] [(6,[3]),(16,[42])] func224
theorem Vc:Ad prog 224:=bd func224
end Go.Proofs.YtnpkidnbhlepkaaGreat
