/- The types of this seat's translation. -/
import Derived.Test.YthhdcfhaldcheaaGreatLgG
import Derived.Test.YthhdcfhaldcheaaGreatChecked
set_option linter.unusedVariables false
set_option linter.unusedSimpArgs false
set_option maxHeartbeats 8000000
set_option maxRecDepth 100000
namespace Go.Proofs.YthhdcfhaldcheaaGreat
open Go.Lg
theorem fol : Tryz.prog.follows .mixedOrders = true := by kernel_rfl
instance : UN Tryz.prog 2 (.int .i64) := ⟨Tryz.underlying2⟩
theorem T2 : TyIs Tryz.prog 2 1 false := ⟨by kernel_rfl, _, Tryz.underlying2, rfl⟩
theorem B2 : TyBytes Tryz.prog 2 8 := ⟨Tryz.t2, by kernel_rfl, rfl⟩
theorem Z2 : ZeroOK Tryz.prog 2 (.v (.int .i64 0)) := ⟨Tryz.t2, _, by kernel_rfl, rfl, rfl, fun _ _ _ => repV0 rfl⟩
instance : TI Tryz.prog 2 1 false := ⟨T2⟩
instance : BI Tryz.prog 2 8 := ⟨B2⟩
instance : ZI Tryz.prog 2 (.v (.int .i64 0)) := ⟨Z2⟩
instance : UN Tryz.prog 3 (.int .i64) := ⟨Tryz.underlying3⟩
theorem T3 : TyIs Tryz.prog 3 1 false := ⟨by kernel_rfl, _, Tryz.underlying3, rfl⟩
theorem B3 : TyBytes Tryz.prog 3 8 := ⟨Tryz.t3, by kernel_rfl, rfl⟩
theorem Z3 : ZeroOK Tryz.prog 3 (.v (.int .i64 0)) := ⟨Tryz.t3, _, by kernel_rfl, rfl, rfl, fun _ _ _ => repV0 rfl⟩
instance : TI Tryz.prog 3 1 false := ⟨T3⟩
instance : BI Tryz.prog 3 8 := ⟨B3⟩
instance : ZI Tryz.prog 3 (.v (.int .i64 0)) := ⟨Z3⟩
instance : UN Tryz.prog 4 .bool := ⟨Tryz.underlying4⟩
theorem T4 : TyIs Tryz.prog 4 1 false := ⟨by kernel_rfl, _, Tryz.underlying4, rfl⟩
theorem B4 : TyBytes Tryz.prog 4 1 := ⟨Tryz.t4, by kernel_rfl, rfl⟩
theorem Z4 : ZeroOK Tryz.prog 4 (.v (.bool false)) := ⟨Tryz.t4, _, by kernel_rfl, rfl, rfl, fun _ _ _ => repV0 rfl⟩
instance : TI Tryz.prog 4 1 false := ⟨T4⟩
instance : BI Tryz.prog 4 1 := ⟨B4⟩
instance : ZI Tryz.prog 4 (.v (.bool false)) := ⟨Z4⟩
instance : UN Tryz.prog 5 (.int .u8) := ⟨Tryz.underlying5⟩
theorem T5 : TyIs Tryz.prog 5 1 false := ⟨by kernel_rfl, _, Tryz.underlying5, rfl⟩
theorem B5 : TyBytes Tryz.prog 5 1 := ⟨Tryz.t5, by kernel_rfl, rfl⟩
theorem Z5 : ZeroOK Tryz.prog 5 (.v (.int .u8 0)) := ⟨Tryz.t5, _, by kernel_rfl, rfl, rfl, fun _ _ _ => repV0 rfl⟩
instance : TI Tryz.prog 5 1 false := ⟨T5⟩
instance : BI Tryz.prog 5 1 := ⟨B5⟩
instance : ZI Tryz.prog 5 (.v (.int .u8 0)) := ⟨Z5⟩
instance : UN Tryz.prog 9 .string := ⟨Tryz.underlying9⟩
theorem T9 : TyIs Tryz.prog 9 1 false := ⟨by kernel_rfl, _, Tryz.underlying9, rfl⟩
theorem B9 : TyBytes Tryz.prog 9 16 := ⟨Tryz.t9, by kernel_rfl, rfl⟩
theorem Z9 : ZeroOK Tryz.prog 9 (.v (.string ⟨#[]⟩)) := ⟨Tryz.t9, _, by kernel_rfl, rfl, rfl, fun _ _ _ => repV0 rfl⟩
instance : TI Tryz.prog 9 1 false := ⟨T9⟩
instance : BI Tryz.prog 9 16 := ⟨B9⟩
instance : ZI Tryz.prog 9 (.v (.string ⟨#[]⟩)) := ⟨Z9⟩
instance : UN Tryz.prog 12 (.int .u64) := ⟨Tryz.underlying12⟩
theorem T12 : TyIs Tryz.prog 12 1 false := ⟨by kernel_rfl, _, Tryz.underlying12, rfl⟩
theorem B12 : TyBytes Tryz.prog 12 8 := ⟨Tryz.t12, by kernel_rfl, rfl⟩
theorem Z12 : ZeroOK Tryz.prog 12 (.v (.int .u64 0)) := ⟨Tryz.t12, _, by kernel_rfl, rfl, rfl, fun _ _ _ => repV0 rfl⟩
instance : TI Tryz.prog 12 1 false := ⟨T12⟩
instance : BI Tryz.prog 12 8 := ⟨B12⟩
instance : ZI Tryz.prog 12 (.v (.int .u64 0)) := ⟨Z12⟩
theorem T15 : TyIs Tryz.prog 15 1 false := ⟨by kernel_rfl, _, Tryz.underlying15, rfl⟩
theorem B15 : TyBytes Tryz.prog 15 8 := ⟨Tryz.t15, by kernel_rfl, rfl⟩
theorem Z15 : ZeroOK Tryz.prog 15 (.v (.pointer none)) := ⟨Tryz.t15, _, by kernel_rfl, rfl, rfl, fun _ _ _ => repV0 rfl⟩
instance : TI Tryz.prog 15 1 false := ⟨T15⟩
instance : BI Tryz.prog 15 8 := ⟨B15⟩
instance : ZI Tryz.prog 15 (.v (.pointer none)) := ⟨Z15⟩
theorem T16 : TyIs Tryz.prog 16 1 false := ⟨by kernel_rfl, _, Tryz.underlying16, rfl⟩
theorem B16 : TyBytes Tryz.prog 16 8 := ⟨Tryz.t16, by kernel_rfl, rfl⟩
theorem Z16 : ZeroOK Tryz.prog 16 (.v (.pointer none)) := ⟨Tryz.t16, _, by kernel_rfl, rfl, rfl, fun _ _ _ => repV0 rfl⟩
instance : TI Tryz.prog 16 1 false := ⟨T16⟩
instance : BI Tryz.prog 16 8 := ⟨B16⟩
instance : ZI Tryz.prog 16 (.v (.pointer none)) := ⟨Z16⟩
theorem T17 : TyIs Tryz.prog 17 1 false := ⟨by kernel_rfl, _, Tryz.underlying17, rfl⟩
theorem B17 : TyBytes Tryz.prog 17 8 := ⟨Tryz.t17, by kernel_rfl, rfl⟩
theorem Z17 : ZeroOK Tryz.prog 17 (.v (.pointer none)) := ⟨Tryz.t17, _, by kernel_rfl, rfl, rfl, fun _ _ _ => repV0 rfl⟩
instance : TI Tryz.prog 17 1 false := ⟨T17⟩
instance : BI Tryz.prog 17 8 := ⟨B17⟩
instance : ZI Tryz.prog 17 (.v (.pointer none)) := ⟨Z17⟩
theorem T19 : TyIs Tryz.prog 19 1 true := ⟨by kernel_rfl, _, Tryz.underlying19, rfl⟩
theorem B19 : TyBytes Tryz.prog 19 8 := ⟨Tryz.t19, by kernel_rfl, rfl⟩
theorem Z19 : ZeroOK Tryz.prog 19 (.agg [.v (.pointer none)]) := ⟨Tryz.t19, _, by kernel_rfl, rfl, rfl, fun _ _ _ => repAgg0 (repFs1 (c1 := [.pointer none]) rfl (repV0 rfl) (repFs0))⟩
instance : TI Tryz.prog 19 1 true := ⟨T19⟩
instance : BI Tryz.prog 19 8 := ⟨B19⟩
instance : ZI Tryz.prog 19 (.agg [.v (.pointer none)]) := ⟨Z19⟩
theorem SL19 : StructLay Tryz.prog 19 [(1, false)] := ⟨_, Tryz.underlying19, ⟨rfl, T17, trivial⟩, by decide⟩
instance : SI Tryz.prog 19 [(1, false)] := ⟨SL19⟩
instance : UN Tryz.prog 21 (.int .i32) := ⟨Tryz.underlying21⟩
theorem T21 : TyIs Tryz.prog 21 1 false := ⟨by kernel_rfl, _, Tryz.underlying21, rfl⟩
theorem B21 : TyBytes Tryz.prog 21 4 := ⟨Tryz.t21, by kernel_rfl, rfl⟩
theorem Z21 : ZeroOK Tryz.prog 21 (.v (.int .i32 0)) := ⟨Tryz.t21, _, by kernel_rfl, rfl, rfl, fun _ _ _ => repV0 rfl⟩
instance : TI Tryz.prog 21 1 false := ⟨T21⟩
instance : BI Tryz.prog 21 4 := ⟨B21⟩
instance : ZI Tryz.prog 21 (.v (.int .i32 0)) := ⟨Z21⟩
instance : UN Tryz.prog 22 (.slice 3) := ⟨Tryz.underlying22⟩
theorem T22 : TyIs Tryz.prog 22 1 false := ⟨by kernel_rfl, _, Tryz.underlying22, rfl⟩
theorem B22 : TyBytes Tryz.prog 22 24 := ⟨Tryz.t22, by kernel_rfl, rfl⟩
theorem Z22 : ZeroOK Tryz.prog 22 (.v (.slice none 0 0)) := ⟨Tryz.t22, _, by kernel_rfl, rfl, rfl, fun _ _ _ => repV0 rfl⟩
instance : TI Tryz.prog 22 1 false := ⟨T22⟩
instance : BI Tryz.prog 22 24 := ⟨B22⟩
instance : ZI Tryz.prog 22 (.v (.slice none 0 0)) := ⟨Z22⟩
instance : UN Tryz.prog 25 (.slice 33) := ⟨Tryz.underlying25⟩
theorem T25 : TyIs Tryz.prog 25 1 false := ⟨by kernel_rfl, _, Tryz.underlying25, rfl⟩
theorem B25 : TyBytes Tryz.prog 25 24 := ⟨Tryz.t25, by kernel_rfl, rfl⟩
theorem Z25 : ZeroOK Tryz.prog 25 (.v (.slice none 0 0)) := ⟨Tryz.t25, _, by kernel_rfl, rfl, rfl, fun _ _ _ => repV0 rfl⟩
instance : TI Tryz.prog 25 1 false := ⟨T25⟩
instance : BI Tryz.prog 25 24 := ⟨B25⟩
instance : ZI Tryz.prog 25 (.v (.slice none 0 0)) := ⟨Z25⟩
theorem T27 : TyIs Tryz.prog 27 3 true := ⟨by kernel_rfl, _, Tryz.underlying27, rfl⟩
theorem B27 : TyBytes Tryz.prog 27 40 := ⟨Tryz.t27, by kernel_rfl, rfl⟩
theorem Z27 : ZeroOK Tryz.prog 27 (.agg [.v (.int .i64 0), .v (.int .i64 0), .v (.slice none 0 0)]) := ⟨Tryz.t27, _, by kernel_rfl, rfl, rfl, fun _ _ _ => repAgg0 (repFs1 (c1 := [.int .i64 0]) rfl (repV0 rfl) (repFs1 (c1 := [.int .i64 0]) rfl (repV0 rfl) (repFs1 (c1 := [.slice none 0 0]) rfl (repV0 rfl) (repFs0))))⟩
instance : TI Tryz.prog 27 3 true := ⟨T27⟩
instance : BI Tryz.prog 27 40 := ⟨B27⟩
instance : ZI Tryz.prog 27 (.agg [.v (.int .i64 0), .v (.int .i64 0), .v (.slice none 0 0)]) := ⟨Z27⟩
theorem SL27 : StructLay Tryz.prog 27 [(1, false), (1, false), (1, false)] := ⟨_, Tryz.underlying27, ⟨rfl, T3, ⟨rfl, T3, ⟨rfl, T25, trivial⟩⟩⟩, by decide⟩
instance : SI Tryz.prog 27 [(1, false), (1, false), (1, false)] := ⟨SL27⟩
theorem T28 : TyIs Tryz.prog 28 1 false := ⟨by kernel_rfl, _, Tryz.underlying28, rfl⟩
theorem B28 : TyBytes Tryz.prog 28 8 := ⟨Tryz.t28, by kernel_rfl, rfl⟩
theorem Z28 : ZeroOK Tryz.prog 28 (.v (.pointer none)) := ⟨Tryz.t28, _, by kernel_rfl, rfl, rfl, fun _ _ _ => repV0 rfl⟩
instance : TI Tryz.prog 28 1 false := ⟨T28⟩
instance : BI Tryz.prog 28 8 := ⟨B28⟩
instance : ZI Tryz.prog 28 (.v (.pointer none)) := ⟨Z28⟩
instance : UN Tryz.prog 31 (.slice 114) := ⟨Tryz.underlying31⟩
theorem T31 : TyIs Tryz.prog 31 1 false := ⟨by kernel_rfl, _, Tryz.underlying31, rfl⟩
theorem B31 : TyBytes Tryz.prog 31 24 := ⟨Tryz.t31, by kernel_rfl, rfl⟩
theorem Z31 : ZeroOK Tryz.prog 31 (.list 1 []) := ⟨Tryz.t31, _, by kernel_rfl, rfl, rfl, fun _ _ _ => repNil0 1⟩
instance : TI Tryz.prog 31 1 false := ⟨T31⟩
instance : BI Tryz.prog 31 24 := ⟨B31⟩
instance : ZI Tryz.prog 31 (.list 1 []) := ⟨Z31⟩
theorem T33 : TyIs Tryz.prog 33 3 true := ⟨by kernel_rfl, _, Tryz.underlying33, rfl⟩
theorem B33 : TyBytes Tryz.prog 33 56 := ⟨Tryz.t33, by kernel_rfl, rfl⟩
theorem Z33 : ZeroOK Tryz.prog 33 (ratL 0) := ⟨Tryz.t33, _, by kernel_rfl, rfl, ratE.pure 0, fun _ _ _ => repRat0⟩
theorem Z33a : ZeroOK Tryz.prog 33 (.agg [.v (.bool false), .list 1 [], .list 1 []]) := ratL_zero ▸ Z33
instance : TI Tryz.prog 33 3 true := ⟨T33⟩
instance : BI Tryz.prog 33 56 := ⟨B33⟩
instance : ZI Tryz.prog 33 (.agg [.v (.bool false), .list 1 [], .list 1 []]) := ⟨Z33a⟩
theorem SL33 : StructLay Tryz.prog 33 [(1, false), (1, false), (1, false)] := ⟨_, Tryz.underlying33, ⟨rfl, T4, ⟨rfl, T31, ⟨rfl, T31, trivial⟩⟩⟩, by decide⟩
instance : SI Tryz.prog 33 [(1, false), (1, false), (1, false)] := ⟨SL33⟩
instance : UN Tryz.prog 38 (.slice 33) := ⟨Tryz.underlying38⟩
theorem T38 : TyIs Tryz.prog 38 1 false := ⟨by kernel_rfl, _, Tryz.underlying38, rfl⟩
theorem B38 : TyBytes Tryz.prog 38 24 := ⟨Tryz.t38, by kernel_rfl, rfl⟩
theorem Z38 : ZeroOK Tryz.prog 38 (.v (.slice none 0 0)) := ⟨Tryz.t38, _, by kernel_rfl, rfl, rfl, fun _ _ _ => repV0 rfl⟩
instance : TI Tryz.prog 38 1 false := ⟨T38⟩
instance : BI Tryz.prog 38 24 := ⟨B38⟩
instance : ZI Tryz.prog 38 (.v (.slice none 0 0)) := ⟨Z38⟩
instance : UN Tryz.prog 44 (.int .i64) := ⟨Tryz.underlying44⟩
theorem T44 : TyIs Tryz.prog 44 1 false := ⟨by kernel_rfl, _, Tryz.underlying44, rfl⟩
theorem B44 : TyBytes Tryz.prog 44 8 := ⟨Tryz.t44, by kernel_rfl, rfl⟩
theorem Z44 : ZeroOK Tryz.prog 44 (.v (.int .i64 0)) := ⟨Tryz.t44, _, by kernel_rfl, rfl, rfl, fun _ _ _ => repV0 rfl⟩
instance : TI Tryz.prog 44 1 false := ⟨T44⟩
instance : BI Tryz.prog 44 8 := ⟨B44⟩
instance : ZI Tryz.prog 44 (.v (.int .i64 0)) := ⟨Z44⟩
theorem T55 : TyIs Tryz.prog 55 6 true := ⟨by kernel_rfl, _, Tryz.underlying55, rfl⟩
theorem B55 : TyBytes Tryz.prog 55 112 := ⟨Tryz.t55, by kernel_rfl, rfl⟩
theorem Z55 : ZeroOK Tryz.prog 55 (.agg [ratL 0, ratL 0]) := ⟨Tryz.t55, _, by kernel_rfl, rfl, by simp [LV.pure, pures, ratE.pure], fun _ _ _ => repAgg0 (repFs1 (c1 := [.bool false, .slice none 0 0, .slice none 0 0]) (by rw [ratE.csize]; rfl) (repRat0) (repFs1 (c1 := [.bool false, .slice none 0 0, .slice none 0 0]) (by rw [ratE.csize]; rfl) (repRat0) (repFs0)))⟩
instance : TI Tryz.prog 55 6 true := ⟨T55⟩
instance : BI Tryz.prog 55 112 := ⟨B55⟩
instance : ZI Tryz.prog 55 (.agg [ratL 0, ratL 0]) := ⟨Z55⟩
theorem SL55 : StructLay Tryz.prog 55 [(3, true), (3, true)] := ⟨_, Tryz.underlying55, ⟨rfl, T33, ⟨rfl, T33, trivial⟩⟩, by decide⟩
instance : SI Tryz.prog 55 [(3, true), (3, true)] := ⟨SL55⟩
theorem T78 : TyIs Tryz.prog 78 2 true := ⟨by kernel_rfl, _, Tryz.underlying78, rfl⟩
theorem B78 : TyBytes Tryz.prog 78 32 := ⟨Tryz.t78, by kernel_rfl, rfl⟩
theorem Z78 : ZeroOK Tryz.prog 78 (.agg [.v (.slice none 0 0), .v (.int .i64 0)]) := ⟨Tryz.t78, _, by kernel_rfl, rfl, rfl, fun _ _ _ => repAgg0 (repFs1 (c1 := [.slice none 0 0]) rfl (repV0 rfl) (repFs1 (c1 := [.int .i64 0]) rfl (repV0 rfl) (repFs0)))⟩
instance : TI Tryz.prog 78 2 true := ⟨T78⟩
instance : BI Tryz.prog 78 32 := ⟨B78⟩
instance : ZI Tryz.prog 78 (.agg [.v (.slice none 0 0), .v (.int .i64 0)]) := ⟨Z78⟩
theorem SL78 : StructLay Tryz.prog 78 [(1, false), (1, false)] := ⟨_, Tryz.underlying78, ⟨rfl, T22, ⟨rfl, T3, trivial⟩⟩, by decide⟩
instance : SI Tryz.prog 78 [(1, false), (1, false)] := ⟨SL78⟩
instance : UN Tryz.prog 86 (.slice 38) := ⟨Tryz.underlying86⟩
theorem T86 : TyIs Tryz.prog 86 1 false := ⟨by kernel_rfl, _, Tryz.underlying86, rfl⟩
theorem B86 : TyBytes Tryz.prog 86 24 := ⟨Tryz.t86, by kernel_rfl, rfl⟩
theorem Z86 : ZeroOK Tryz.prog 86 (.v (.slice none 0 0)) := ⟨Tryz.t86, _, by kernel_rfl, rfl, rfl, fun _ _ _ => repV0 rfl⟩
instance : TI Tryz.prog 86 1 false := ⟨T86⟩
instance : BI Tryz.prog 86 24 := ⟨B86⟩
instance : ZI Tryz.prog 86 (.v (.slice none 0 0)) := ⟨Z86⟩
instance : UN Tryz.prog 99 (.slice 2) := ⟨Tryz.underlying99⟩
theorem T99 : TyIs Tryz.prog 99 1 false := ⟨by kernel_rfl, _, Tryz.underlying99, rfl⟩
theorem B99 : TyBytes Tryz.prog 99 24 := ⟨Tryz.t99, by kernel_rfl, rfl⟩
theorem Z99 : ZeroOK Tryz.prog 99 (.v (.slice none 0 0)) := ⟨Tryz.t99, _, by kernel_rfl, rfl, rfl, fun _ _ _ => repV0 rfl⟩
instance : TI Tryz.prog 99 1 false := ⟨T99⟩
instance : BI Tryz.prog 99 24 := ⟨B99⟩
instance : ZI Tryz.prog 99 (.v (.slice none 0 0)) := ⟨Z99⟩
instance : UN Tryz.prog 114 (.int .u32) := ⟨Tryz.underlying114⟩
theorem T114 : TyIs Tryz.prog 114 1 false := ⟨by kernel_rfl, _, Tryz.underlying114, rfl⟩
theorem B114 : TyBytes Tryz.prog 114 4 := ⟨Tryz.t114, by kernel_rfl, rfl⟩
theorem Z114 : ZeroOK Tryz.prog 114 (.v (.int .u32 0)) := ⟨Tryz.t114, _, by kernel_rfl, rfl, rfl, fun _ _ _ => repV0 rfl⟩
instance : TI Tryz.prog 114 1 false := ⟨T114⟩
instance : BI Tryz.prog 114 4 := ⟨B114⟩
instance : ZI Tryz.prog 114 (.v (.int .u32 0)) := ⟨Z114⟩
instance : UN Tryz.prog 117 (.int .u64) := ⟨Tryz.underlying117⟩
theorem T117 : TyIs Tryz.prog 117 1 false := ⟨by kernel_rfl, _, Tryz.underlying117, rfl⟩
theorem B117 : TyBytes Tryz.prog 117 8 := ⟨Tryz.t117, by kernel_rfl, rfl⟩
theorem Z117 : ZeroOK Tryz.prog 117 (.v (.int .u64 0)) := ⟨Tryz.t117, _, by kernel_rfl, rfl, rfl, fun _ _ _ => repV0 rfl⟩
instance : TI Tryz.prog 117 1 false := ⟨T117⟩
instance : BI Tryz.prog 117 8 := ⟨B117⟩
instance : ZI Tryz.prog 117 (.v (.int .u64 0)) := ⟨Z117⟩
instance : UN Tryz.prog 132 (.int .u64) := ⟨Tryz.underlying132⟩
theorem T132 : TyIs Tryz.prog 132 1 false := ⟨by kernel_rfl, _, Tryz.underlying132, rfl⟩
theorem B132 : TyBytes Tryz.prog 132 8 := ⟨Tryz.t132, by kernel_rfl, rfl⟩
theorem Z132 : ZeroOK Tryz.prog 132 (.v (.int .u64 0)) := ⟨Tryz.t132, _, by kernel_rfl, rfl, rfl, fun _ _ _ => repV0 rfl⟩
instance : TI Tryz.prog 132 1 false := ⟨T132⟩
instance : BI Tryz.prog 132 8 := ⟨B132⟩
instance : ZI Tryz.prog 132 (.v (.int .u64 0)) := ⟨Z132⟩
instance : UN Tryz.prog 137 (.slice 5) := ⟨Tryz.underlying137⟩
theorem T137 : TyIs Tryz.prog 137 1 false := ⟨by kernel_rfl, _, Tryz.underlying137, rfl⟩
theorem B137 : TyBytes Tryz.prog 137 24 := ⟨Tryz.t137, by kernel_rfl, rfl⟩
theorem Z137 : ZeroOK Tryz.prog 137 (.v (.slice none 0 0)) := ⟨Tryz.t137, _, by kernel_rfl, rfl, rfl, fun _ _ _ => repV0 rfl⟩
instance : TI Tryz.prog 137 1 false := ⟨T137⟩
instance : BI Tryz.prog 137 24 := ⟨B137⟩
instance : ZI Tryz.prog 137 (.v (.slice none 0 0)) := ⟨Z137⟩
theorem T161 : TyIs Tryz.prog 161 1 false := ⟨by kernel_rfl, _, Tryz.underlying161, rfl⟩
theorem B161 : TyBytes Tryz.prog 161 8 := ⟨Tryz.t161, by kernel_rfl, rfl⟩
theorem Z161 : ZeroOK Tryz.prog 161 (.v (.pointer none)) := ⟨Tryz.t161, _, by kernel_rfl, rfl, rfl, fun _ _ _ => repV0 rfl⟩
instance : TI Tryz.prog 161 1 false := ⟨T161⟩
instance : BI Tryz.prog 161 8 := ⟨B161⟩
instance : ZI Tryz.prog 161 (.v (.pointer none)) := ⟨Z161⟩
theorem Z55s : ZeroOK Tryz.prog 55 (spL (0, 0)) := by rw [spL_eq]; exact Z55
instance : EC Tryz.prog 2 i64L 1 false 0 := ⟨i64E, Z2, T2⟩
instance : EC Tryz.prog 3 i64L 1 false 0 := ⟨i64E, Z3, T3⟩
instance : EC Tryz.prog 33 ratL 3 true 0 := ⟨ratE, Z33, T33⟩
instance : EC Tryz.prog 44 i64L 1 false 0 := ⟨i64E, Z44, T44⟩
instance : EC Tryz.prog 55 spL 6 true (0, 0) := ⟨spE, Z55s, T55⟩
instance : AE Tryz.prog 55 spL 6 true (0, 0) := ⟨spE, Z55s⟩
instance : EC Tryz.prog 114 u32L 1 false 0 := ⟨u32E, Z114, T114⟩
theorem ld2 {H : Heap} {ρ : Operand → LV} {op : Op} {x : LV} (h : OpP Tryz.prog H ρ op x := by first | exact .loadBm i64E rfl T2 | exact .loadEm i64E rfl rfl T2 om | exact .loadE rfl rfl rfl rfl rfl rfl T2) : OpP Tryz.prog H ρ op x := h
theorem ld3 {H : Heap} {ρ : Operand → LV} {op : Op} {x : LV} (h : OpP Tryz.prog H ρ op x := by first | exact .loadBm i64E rfl T3 | exact .loadEm i64E rfl rfl T3 om | exact .loadE rfl rfl rfl rfl rfl rfl T3) : OpP Tryz.prog H ρ op x := h
theorem ld4 {H : Heap} {ρ : Operand → LV} {op : Op} {x : LV} (h : OpP Tryz.prog H ρ op x := by first | exact .ldNeg rfl rfl rfl T4 | exact .loadE rfl rfl rfl rfl rfl rfl T4) : OpP Tryz.prog H ρ op x := h
theorem ld5 {H : Heap} {ρ : Operand → LV} {op : Op} {x : LV} (h : OpP Tryz.prog H ρ op x := by first | exact .loadBm u8E rfl T5 | exact .loadEm u8E rfl rfl T5 om | exact .loadE rfl rfl rfl rfl rfl rfl T5) : OpP Tryz.prog H ρ op x := h
theorem ld9 {H : Heap} {ρ : Operand → LV} {op : Op} {x : LV} (h : OpP Tryz.prog H ρ op x := by first | exact .loadE rfl rfl rfl rfl rfl rfl T9) : OpP Tryz.prog H ρ op x := h
theorem ld12 {H : Heap} {ρ : Operand → LV} {op : Op} {x : LV} (h : OpP Tryz.prog H ρ op x := by first | exact .loadBm u64E rfl T12 | exact .loadEm u64E rfl rfl T12 om | exact .loadE rfl rfl rfl rfl rfl rfl T12) : OpP Tryz.prog H ρ op x := h
theorem ld15 {H : Heap} {ρ : Operand → LV} {op : Op} {x : LV} (h : OpP Tryz.prog H ρ op x := by first | exact .loadE rfl rfl rfl rfl rfl rfl T15) : OpP Tryz.prog H ρ op x := h
theorem ld16 {H : Heap} {ρ : Operand → LV} {op : Op} {x : LV} (h : OpP Tryz.prog H ρ op x := by first | exact .loadE rfl rfl rfl rfl rfl rfl T16) : OpP Tryz.prog H ρ op x := h
theorem ld17 {H : Heap} {ρ : Operand → LV} {op : Op} {x : LV} (h : OpP Tryz.prog H ρ op x := by first | exact .loadE rfl rfl rfl rfl rfl rfl T17) : OpP Tryz.prog H ρ op x := h
theorem ld19 {H : Heap} {ρ : Operand → LV} {op : Op} {x : LV} (h : OpP Tryz.prog H ρ op x := by first | exact .loadE rfl rfl rfl rfl rfl rfl T19) : OpP Tryz.prog H ρ op x := h
theorem fa19 {H : Heap} {ρ : Operand → LV} {op : Op} {x : LV} (h : OpP Tryz.prog H ρ op x := by first | exact .fieldAddrE rfl SL19 (by decide) | exact .fieldAddrB rfl SL19 rfl) : OpP Tryz.prog H ρ op x := h
theorem ld21 {H : Heap} {ρ : Operand → LV} {op : Op} {x : LV} (h : OpP Tryz.prog H ρ op x := by first | exact .loadE rfl rfl rfl rfl rfl rfl T21) : OpP Tryz.prog H ρ op x := h
theorem ln22 {H : Heap} {ρ : Operand → LV} {op : Op} {x : LV} (h : OpP Tryz.prog H ρ op x := by first | exact .lenLm rfl rfl Tryz.underlying22 | exact .lenL rfl rfl Tryz.underlying22 | exact .lenR rfl rfl Tryz.underlying22 | exact .lenN rfl rfl Tryz.underlying22) : OpP Tryz.prog H ρ op x := h
theorem ix22 {H : Heap} {ρ : Operand → LV} {op : Op} {x : LV} (h : OpP Tryz.prog H ρ op x := by first | exact .idxLm i64E rfl Tryz.underlying22 T3 rfl om om | exact .idxR rfl Tryz.underlying22 T3 rfl om om) : OpP Tryz.prog H ρ op x := h
theorem ld22 {H : Heap} {ρ : Operand → LV} {op : Op} {x : LV} (h : OpP Tryz.prog H ρ op x := by first | exact .ldDen rfl rfl rfl T22 | exact .ldNum rfl rfl rfl T22 | exact .loadE rfl rfl rfl rfl rfl rfl T22) : OpP Tryz.prog H ρ op x := h
theorem ln25 {H : Heap} {ρ : Operand → LV} {op : Op} {x : LV} (h : OpP Tryz.prog H ρ op x := by first | exact .lenLm rfl rfl Tryz.underlying25 | exact .lenL rfl rfl Tryz.underlying25 | exact .lenR rfl rfl Tryz.underlying25 | exact .lenN rfl rfl Tryz.underlying25) : OpP Tryz.prog H ρ op x := h
theorem ix25 {H : Heap} {ρ : Operand → LV} {op : Op} {x : LV} (h : OpP Tryz.prog H ρ op x := by first | exact .idxLm ratE rfl Tryz.underlying25 T33 rfl om om | exact .idxR rfl Tryz.underlying25 T33 rfl om om) : OpP Tryz.prog H ρ op x := h
theorem ld25 {H : Heap} {ρ : Operand → LV} {op : Op} {x : LV} (h : OpP Tryz.prog H ρ op x := by first | exact .ldDen rfl rfl rfl T25 | exact .ldNum rfl rfl rfl T25 | exact .loadE rfl rfl rfl rfl rfl rfl T25) : OpP Tryz.prog H ρ op x := h
theorem ld27 {H : Heap} {ρ : Operand → LV} {op : Op} {x : LV} (h : OpP Tryz.prog H ρ op x := by first | exact .loadE rfl rfl rfl rfl rfl rfl T27) : OpP Tryz.prog H ρ op x := h
theorem fa27 {H : Heap} {ρ : Operand → LV} {op : Op} {x : LV} (h : OpP Tryz.prog H ρ op x := by first | exact .fieldAddrE rfl SL27 (by decide) | exact .fieldAddrB rfl SL27 rfl) : OpP Tryz.prog H ρ op x := h
theorem ld28 {H : Heap} {ρ : Operand → LV} {op : Op} {x : LV} (h : OpP Tryz.prog H ρ op x := by first | exact .loadE rfl rfl rfl rfl rfl rfl T28) : OpP Tryz.prog H ρ op x := h
theorem ln31 {H : Heap} {ρ : Operand → LV} {op : Op} {x : LV} (h : OpP Tryz.prog H ρ op x := by first | exact .lenLm rfl rfl Tryz.underlying31 | exact .lenL rfl rfl Tryz.underlying31 | exact .lenR rfl rfl Tryz.underlying31 | exact .lenN rfl rfl Tryz.underlying31) : OpP Tryz.prog H ρ op x := h
theorem ix31 {H : Heap} {ρ : Operand → LV} {op : Op} {x : LV} (h : OpP Tryz.prog H ρ op x := by first | exact .idxLm u32E rfl Tryz.underlying31 T114 rfl om om | exact .idxR rfl Tryz.underlying31 T114 rfl om om) : OpP Tryz.prog H ρ op x := h
theorem ld31 {H : Heap} {ρ : Operand → LV} {op : Op} {x : LV} (h : OpP Tryz.prog H ρ op x := by first | exact .ldDen rfl rfl rfl T31 | exact .ldNum rfl rfl rfl T31 | exact .loadE rfl rfl rfl rfl rfl rfl T31) : OpP Tryz.prog H ρ op x := h
theorem ld33 {H : Heap} {ρ : Operand → LV} {op : Op} {x : LV} (h : OpP Tryz.prog H ρ op x := by first | exact .loadBm ratE rfl T33 | exact .ldRat rfl rfl rfl T33 | exact .loadEm ratE rfl rfl T33 om | exact .ldLo rfl rfl rfl T33 | exact .ldHi rfl rfl rfl T33 | exact .loadE rfl rfl rfl rfl rfl rfl T33) : OpP Tryz.prog H ρ op x := h
theorem fa33 {H : Heap} {ρ : Operand → LV} {op : Op} {x : LV} (h : OpP Tryz.prog H ρ op x := by first | exact .fieldAddrE rfl SL33 (by decide) | exact .fieldAddrB rfl SL33 rfl) : OpP Tryz.prog H ρ op x := h
theorem sr33 {L L1 : St} {dst : Option Nat} {op : Op} (h : OpT Tryz.prog L dst op L1 := by first | exact .stRat rfl rfl rfl rfl T33 | exact .stR1 rfl rfl rfl T33 | exact .storeM ratE rfl rfl rfl T33 om | exact .store rfl rfl rfl rfl rfl rfl rfl T33 ne0) : OpT Tryz.prog L dst op L1 := h
theorem ln38 {H : Heap} {ρ : Operand → LV} {op : Op} {x : LV} (h : OpP Tryz.prog H ρ op x := by first | exact .lenLm rfl rfl Tryz.underlying38 | exact .lenL rfl rfl Tryz.underlying38 | exact .lenR rfl rfl Tryz.underlying38 | exact .lenN rfl rfl Tryz.underlying38) : OpP Tryz.prog H ρ op x := h
theorem ix38 {H : Heap} {ρ : Operand → LV} {op : Op} {x : LV} (h : OpP Tryz.prog H ρ op x := by first | exact .idxLm ratE rfl Tryz.underlying38 T33 rfl om om | exact .idxR rfl Tryz.underlying38 T33 rfl om om) : OpP Tryz.prog H ρ op x := h
theorem ld38 {H : Heap} {ρ : Operand → LV} {op : Op} {x : LV} (h : OpP Tryz.prog H ρ op x := by first | exact .ldDen rfl rfl rfl T38 | exact .ldNum rfl rfl rfl T38 | exact .loadE rfl rfl rfl rfl rfl rfl T38) : OpP Tryz.prog H ρ op x := h
theorem ld44 {H : Heap} {ρ : Operand → LV} {op : Op} {x : LV} (h : OpP Tryz.prog H ρ op x := by first | exact .loadBm i64E rfl T44 | exact .loadEm i64E rfl rfl T44 om | exact .loadE rfl rfl rfl rfl rfl rfl T44) : OpP Tryz.prog H ρ op x := h
theorem ld55 {H : Heap} {ρ : Operand → LV} {op : Op} {x : LV} (h : OpP Tryz.prog H ρ op x := by first | exact .loadBm spE rfl T55 | exact .ldSp rfl rfl rfl T55 | exact .loadEm spE rfl rfl T55 om | exact .loadE rfl rfl rfl rfl rfl rfl T55) : OpP Tryz.prog H ρ op x := h
theorem fa55 {H : Heap} {ρ : Operand → LV} {op : Op} {x : LV} (h : OpP Tryz.prog H ρ op x := by first | exact .fieldAddrE rfl SL55 (by decide) | exact .fieldAddrB rfl SL55 rfl) : OpP Tryz.prog H ρ op x := h
theorem ld78 {H : Heap} {ρ : Operand → LV} {op : Op} {x : LV} (h : OpP Tryz.prog H ρ op x := by first | exact .loadE rfl rfl rfl rfl rfl rfl T78) : OpP Tryz.prog H ρ op x := h
theorem fa78 {H : Heap} {ρ : Operand → LV} {op : Op} {x : LV} (h : OpP Tryz.prog H ρ op x := by first | exact .fieldAddrE rfl SL78 (by decide) | exact .fieldAddrB rfl SL78 rfl) : OpP Tryz.prog H ρ op x := h
theorem ln86 {H : Heap} {ρ : Operand → LV} {op : Op} {x : LV} (h : OpP Tryz.prog H ρ op x := by first | exact .lenLm rfl rfl Tryz.underlying86 | exact .lenL rfl rfl Tryz.underlying86 | exact .lenR rfl rfl Tryz.underlying86 | exact .lenN rfl rfl Tryz.underlying86) : OpP Tryz.prog H ρ op x := h
theorem ld86 {H : Heap} {ρ : Operand → LV} {op : Op} {x : LV} (h : OpP Tryz.prog H ρ op x := by first | exact .ldDen rfl rfl rfl T86 | exact .ldNum rfl rfl rfl T86 | exact .loadE rfl rfl rfl rfl rfl rfl T86) : OpP Tryz.prog H ρ op x := h
theorem ln99 {H : Heap} {ρ : Operand → LV} {op : Op} {x : LV} (h : OpP Tryz.prog H ρ op x := by first | exact .lenLm rfl rfl Tryz.underlying99 | exact .lenL rfl rfl Tryz.underlying99 | exact .lenR rfl rfl Tryz.underlying99 | exact .lenN rfl rfl Tryz.underlying99) : OpP Tryz.prog H ρ op x := h
theorem ix99 {H : Heap} {ρ : Operand → LV} {op : Op} {x : LV} (h : OpP Tryz.prog H ρ op x := by first | exact .idxLm i64E rfl Tryz.underlying99 T2 rfl om om | exact .idxR rfl Tryz.underlying99 T2 rfl om om) : OpP Tryz.prog H ρ op x := h
theorem ld99 {H : Heap} {ρ : Operand → LV} {op : Op} {x : LV} (h : OpP Tryz.prog H ρ op x := by first | exact .ldDen rfl rfl rfl T99 | exact .ldNum rfl rfl rfl T99 | exact .loadE rfl rfl rfl rfl rfl rfl T99) : OpP Tryz.prog H ρ op x := h
theorem ld114 {H : Heap} {ρ : Operand → LV} {op : Op} {x : LV} (h : OpP Tryz.prog H ρ op x := by first | exact .loadBm u32E rfl T114 | exact .loadEm u32E rfl rfl T114 om | exact .loadE rfl rfl rfl rfl rfl rfl T114) : OpP Tryz.prog H ρ op x := h
theorem ld117 {H : Heap} {ρ : Operand → LV} {op : Op} {x : LV} (h : OpP Tryz.prog H ρ op x := by first | exact .loadBm u64E rfl T117 | exact .loadEm u64E rfl rfl T117 om | exact .loadE rfl rfl rfl rfl rfl rfl T117) : OpP Tryz.prog H ρ op x := h
theorem ld132 {H : Heap} {ρ : Operand → LV} {op : Op} {x : LV} (h : OpP Tryz.prog H ρ op x := by first | exact .loadBm u64E rfl T132 | exact .loadEm u64E rfl rfl T132 om | exact .loadE rfl rfl rfl rfl rfl rfl T132) : OpP Tryz.prog H ρ op x := h
theorem ln137 {H : Heap} {ρ : Operand → LV} {op : Op} {x : LV} (h : OpP Tryz.prog H ρ op x := by first | exact .lenLm rfl rfl Tryz.underlying137 | exact .lenL rfl rfl Tryz.underlying137 | exact .lenR rfl rfl Tryz.underlying137 | exact .lenN rfl rfl Tryz.underlying137) : OpP Tryz.prog H ρ op x := h
theorem ix137 {H : Heap} {ρ : Operand → LV} {op : Op} {x : LV} (h : OpP Tryz.prog H ρ op x := by first | exact .idxLm u8E rfl Tryz.underlying137 T5 rfl om om | exact .idxR rfl Tryz.underlying137 T5 rfl om om) : OpP Tryz.prog H ρ op x := h
theorem ld137 {H : Heap} {ρ : Operand → LV} {op : Op} {x : LV} (h : OpP Tryz.prog H ρ op x := by first | exact .ldDen rfl rfl rfl T137 | exact .ldNum rfl rfl rfl T137 | exact .loadE rfl rfl rfl rfl rfl rfl T137) : OpP Tryz.prog H ρ op x := h
theorem ld161 {H : Heap} {ρ : Operand → LV} {op : Op} {x : LV} (h : OpP Tryz.prog H ρ op x := by first | exact .loadE rfl rfl rfl rfl rfl rfl T161) : OpP Tryz.prog H ρ op x := h
theorem sr55 {L L1 : St} {dst : Option Nat} {op : Op} (h : OpT Tryz.prog L dst op L1 := by exact .stSp rfl rfl rfl T55) : OpT Tryz.prog L dst op L1 := h
section
variable {f : FuncId} {fn : Func} {c : Code} {args : List LV} {r : LV}
theorem fnP (hf : Tryz.prog.funcs[f]? = some fn)
    (h : wpL Tryz.prog c (fun e L => match e with | .exit _ => False | _ => RetL Tryz.prog fn.results.toList L r []) (St.mk (fun t => args.getD t .any) (hp [])))
    (hb : fn.body = some c := by exact rfl) (hn : (fn.name == "runtime.NumGoroutine") = false := by decide +kernel) (hd : dstsOk fn.ntmps c = true := by decide +kernel) (hlen : args.length ≤ fn.ntmps := by exact Nat.le_of_ble_eq_true rfl) (ht : ∀ g, r.ren g = r := by exact tm0) : CallP Tryz.prog f args r := callP_of fol hf hb hn hd hlen ht h
theorem fnO {bs : List Blk} (hf : Tryz.prog.funcs[f]? = some fn)
    (h : wpL Tryz.prog c (fun e L => match e with | .exit _ => False | _ => RetL Tryz.prog fn.results.toList L r bs) (St.mk (fun t => args.getD t .any) (hp [])))
    (hb : fn.body = some c := by exact rfl) (hn : (fn.name == "runtime.NumGoroutine") = false := by decide +kernel) (hd : dstsOk fn.ntmps c = true := by decide +kernel) (hlen : args.length ≤ fn.ntmps := by exact Nat.le_of_ble_eq_true rfl) : CallOK Tryz.prog f args r bs := callO_of fol hf hb hn hd hlen h
theorem fnM {blk blk' : Blk} (hf : Tryz.prog.funcs[f]? = some fn)
    (h : wpL Tryz.prog c (fun e L => match e with | .exit _ => False | _ => RetM Tryz.prog fn.results.toList L r blk') (St.mk (fun t => args.getD t .any) (hp [(0, blk)])))
    (hb : fn.body = some c := by exact rfl) (hn : (fn.name == "runtime.NumGoroutine") = false := by decide +kernel) (hd : dstsOk fn.ntmps c = true := by decide +kernel) (hlen : args.length ≤ fn.ntmps := by exact Nat.le_of_ble_eq_true rfl) (hmt : blk.mt = true := by exact rfl) : CallOKM Tryz.prog f blk args r blk' := callM_of fol hf hb hn hd hlen hmt h
end
end Go.Proofs.YthhdcfhaldcheaaGreat
