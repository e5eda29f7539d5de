/- The types of this seat's translation. -/
import Derived.Test.YthhdcfhaldcheaaLgR
import Derived.Test.YthhdcfhaldcheaaChecked
set_option linter.unusedVariables false
set_option linter.unusedSimpArgs false
namespace Go.Proofs.Ythhdcfhaldcheaa
open Go.Lg
theorem fol : Try.prog.follows .mixedOrders = true := by kernel_rfl
theorem T2 : TyIs Try.prog 2 1 false := ⟨by kernel_rfl, _, Try.underlying2, rfl⟩
theorem B2 : TyBytes Try.prog 2 8 := ⟨Try.t2, by kernel_rfl, rfl⟩
theorem Z2 : ZeroOK Try.prog 2 (.v (.int .i64 0)) := ⟨Try.t2, _, by kernel_rfl, rfl, rfl, fun _ _ _ => repV0 rfl⟩
theorem T3 : TyIs Try.prog 3 1 false := ⟨by kernel_rfl, _, Try.underlying3, rfl⟩
theorem B3 : TyBytes Try.prog 3 8 := ⟨Try.t3, by kernel_rfl, rfl⟩
theorem Z3 : ZeroOK Try.prog 3 (.v (.int .i64 0)) := ⟨Try.t3, _, by kernel_rfl, rfl, rfl, fun _ _ _ => repV0 rfl⟩
theorem T4 : TyIs Try.prog 4 1 false := ⟨by kernel_rfl, _, Try.underlying4, rfl⟩
theorem B4 : TyBytes Try.prog 4 1 := ⟨Try.t4, by kernel_rfl, rfl⟩
theorem Z4 : ZeroOK Try.prog 4 (.v (.bool false)) := ⟨Try.t4, _, by kernel_rfl, rfl, rfl, fun _ _ _ => repV0 rfl⟩
theorem T5 : TyIs Try.prog 5 1 false := ⟨by kernel_rfl, _, Try.underlying5, rfl⟩
theorem B5 : TyBytes Try.prog 5 1 := ⟨Try.t5, by kernel_rfl, rfl⟩
theorem Z5 : ZeroOK Try.prog 5 (.v (.int .u8 0)) := ⟨Try.t5, _, by kernel_rfl, rfl, rfl, fun _ _ _ => repV0 rfl⟩
theorem T9 : TyIs Try.prog 9 1 false := ⟨by kernel_rfl, _, Try.underlying9, rfl⟩
theorem B9 : TyBytes Try.prog 9 16 := ⟨Try.t9, by kernel_rfl, rfl⟩
theorem Z9 : ZeroOK Try.prog 9 (.v (.string ⟨#[]⟩)) := ⟨Try.t9, _, by kernel_rfl, rfl, rfl, fun _ _ _ => repV0 rfl⟩
theorem T12 : TyIs Try.prog 12 1 false := ⟨by kernel_rfl, _, Try.underlying12, rfl⟩
theorem B12 : TyBytes Try.prog 12 8 := ⟨Try.t12, by kernel_rfl, rfl⟩
theorem Z12 : ZeroOK Try.prog 12 (.v (.int .u64 0)) := ⟨Try.t12, _, by kernel_rfl, rfl, rfl, fun _ _ _ => repV0 rfl⟩
theorem T15 : TyIs Try.prog 15 1 false := ⟨by kernel_rfl, _, Try.underlying15, rfl⟩
theorem B15 : TyBytes Try.prog 15 8 := ⟨Try.t15, by kernel_rfl, rfl⟩
theorem Z15 : ZeroOK Try.prog 15 (.v (.pointer none)) := ⟨Try.t15, _, by kernel_rfl, rfl, rfl, fun _ _ _ => repV0 rfl⟩
theorem T16 : TyIs Try.prog 16 1 false := ⟨by kernel_rfl, _, Try.underlying16, rfl⟩
theorem B16 : TyBytes Try.prog 16 8 := ⟨Try.t16, by kernel_rfl, rfl⟩
theorem Z16 : ZeroOK Try.prog 16 (.v (.pointer none)) := ⟨Try.t16, _, by kernel_rfl, rfl, rfl, fun _ _ _ => repV0 rfl⟩
theorem T17 : TyIs Try.prog 17 1 false := ⟨by kernel_rfl, _, Try.underlying17, rfl⟩
theorem B17 : TyBytes Try.prog 17 8 := ⟨Try.t17, by kernel_rfl, rfl⟩
theorem Z17 : ZeroOK Try.prog 17 (.v (.pointer none)) := ⟨Try.t17, _, by kernel_rfl, rfl, rfl, fun _ _ _ => repV0 rfl⟩
theorem T19 : TyIs Try.prog 19 1 true := ⟨by kernel_rfl, _, Try.underlying19, rfl⟩
theorem B19 : TyBytes Try.prog 19 8 := ⟨Try.t19, by kernel_rfl, rfl⟩
theorem Z19 : ZeroOK Try.prog 19 (.agg [.v (.pointer none)]) := ⟨Try.t19, _, by kernel_rfl, rfl, rfl, fun _ _ _ => repAgg0 (repFs1 (c1 := [.pointer none]) rfl (repV0 rfl) (repFs0))⟩
theorem SL19 : StructLay Try.prog 19 [(1, false)] := ⟨_, Try.underlying19, ⟨rfl, T17, trivial⟩, by decide⟩
theorem T21 : TyIs Try.prog 21 1 false := ⟨by kernel_rfl, _, Try.underlying21, rfl⟩
theorem B21 : TyBytes Try.prog 21 4 := ⟨Try.t21, by kernel_rfl, rfl⟩
theorem Z21 : ZeroOK Try.prog 21 (.v (.int .i32 0)) := ⟨Try.t21, _, by kernel_rfl, rfl, rfl, fun _ _ _ => repV0 rfl⟩
theorem T22 : TyIs Try.prog 22 1 false := ⟨by kernel_rfl, _, Try.underlying22, rfl⟩
theorem B22 : TyBytes Try.prog 22 24 := ⟨Try.t22, by kernel_rfl, rfl⟩
theorem Z22 : ZeroOK Try.prog 22 (.v (.slice none 0 0)) := ⟨Try.t22, _, by kernel_rfl, rfl, rfl, fun _ _ _ => repV0 rfl⟩
theorem T25 : TyIs Try.prog 25 1 false := ⟨by kernel_rfl, _, Try.underlying25, rfl⟩
theorem B25 : TyBytes Try.prog 25 24 := ⟨Try.t25, by kernel_rfl, rfl⟩
theorem Z25 : ZeroOK Try.prog 25 (.v (.slice none 0 0)) := ⟨Try.t25, _, by kernel_rfl, rfl, rfl, fun _ _ _ => repV0 rfl⟩
theorem T27 : TyIs Try.prog 27 3 true := ⟨by kernel_rfl, _, Try.underlying27, rfl⟩
theorem B27 : TyBytes Try.prog 27 40 := ⟨Try.t27, by kernel_rfl, rfl⟩
theorem Z27 : ZeroOK Try.prog 27 (.agg [.v (.int .i64 0), .v (.int .i64 0), .v (.slice none 0 0)]) := ⟨Try.t27, _, by kernel_rfl, rfl, rfl, fun _ _ _ => repAgg0 (repFs1 (c1 := [.int .i64 0]) rfl (repV0 rfl) (repFs1 (c1 := [.int .i64 0]) rfl (repV0 rfl) (repFs1 (c1 := [.slice none 0 0]) rfl (repV0 rfl) (repFs0))))⟩
theorem SL27 : StructLay Try.prog 27 [(1, false), (1, false), (1, false)] := ⟨_, Try.underlying27, ⟨rfl, T3, ⟨rfl, T3, ⟨rfl, T25, trivial⟩⟩⟩, by decide⟩
theorem T28 : TyIs Try.prog 28 1 false := ⟨by kernel_rfl, _, Try.underlying28, rfl⟩
theorem B28 : TyBytes Try.prog 28 8 := ⟨Try.t28, by kernel_rfl, rfl⟩
theorem Z28 : ZeroOK Try.prog 28 (.v (.pointer none)) := ⟨Try.t28, _, by kernel_rfl, rfl, rfl, fun _ _ _ => repV0 rfl⟩
theorem T31 : TyIs Try.prog 31 1 false := ⟨by kernel_rfl, _, Try.underlying31, rfl⟩
theorem B31 : TyBytes Try.prog 31 4 := ⟨Try.t31, by kernel_rfl, rfl⟩
theorem Z31 : ZeroOK Try.prog 31 (.v (.int .u32 0)) := ⟨Try.t31, _, by kernel_rfl, rfl, rfl, fun _ _ _ => repV0 rfl⟩
theorem T32 : TyIs Try.prog 32 1 false := ⟨by kernel_rfl, _, Try.underlying32, rfl⟩
theorem B32 : TyBytes Try.prog 32 24 := ⟨Try.t32, by kernel_rfl, rfl⟩
theorem Z32 : ZeroOK Try.prog 32 (.list 1 []) := ⟨Try.t32, _, by kernel_rfl, rfl, rfl, fun _ _ _ => repNil0 1⟩
theorem T34 : TyIs Try.prog 34 3 true := ⟨by kernel_rfl, _, Try.underlying34, rfl⟩
theorem B34 : TyBytes Try.prog 34 56 := ⟨Try.t34, by kernel_rfl, rfl⟩
theorem Z34 : ZeroOK Try.prog 34 (ratL 0) := ⟨Try.t34, _, by kernel_rfl, rfl, ratE.pure 0, fun _ _ _ => repRat0⟩
theorem Z34a : ZeroOK Try.prog 34 (.agg [.v (.bool false), .list 1 [], .list 1 []]) := ratL_zero ▸ Z34
theorem SL34 : StructLay Try.prog 34 [(1, false), (1, false), (1, false)] := ⟨_, Try.underlying34, ⟨rfl, T4, ⟨rfl, T32, ⟨rfl, T32, trivial⟩⟩⟩, by decide⟩
theorem T37 : TyIs Try.prog 37 1 false := ⟨by kernel_rfl, _, Try.underlying37, rfl⟩
theorem B37 : TyBytes Try.prog 37 24 := ⟨Try.t37, by kernel_rfl, rfl⟩
theorem Z37 : ZeroOK Try.prog 37 (.v (.slice none 0 0)) := ⟨Try.t37, _, by kernel_rfl, rfl, rfl, fun _ _ _ => repV0 rfl⟩
theorem T49 : TyIs Try.prog 49 1 false := ⟨by kernel_rfl, _, Try.underlying49, rfl⟩
theorem B49 : TyBytes Try.prog 49 8 := ⟨Try.t49, by kernel_rfl, rfl⟩
theorem Z49 : ZeroOK Try.prog 49 (.v (.int .i64 0)) := ⟨Try.t49, _, by kernel_rfl, rfl, rfl, fun _ _ _ => repV0 rfl⟩
theorem T67 : TyIs Try.prog 67 6 true := ⟨by kernel_rfl, _, Try.underlying67, rfl⟩
theorem B67 : TyBytes Try.prog 67 112 := ⟨Try.t67, by kernel_rfl, rfl⟩
theorem Z67 : ZeroOK Try.prog 67 (.agg [ratL 0, ratL 0]) := ⟨Try.t67, _, by kernel_rfl, rfl, by simp [LV.pure, pures, ratE.pure], fun _ _ _ => repAgg0 (repFs1 (c1 := [.bool false, .slice none 0 0, .slice none 0 0]) (by rw [ratE.csize]; rfl) (repRat0) (repFs1 (c1 := [.bool false, .slice none 0 0, .slice none 0 0]) (by rw [ratE.csize]; rfl) (repRat0) (repFs0)))⟩
theorem SL67 : StructLay Try.prog 67 [(3, true), (3, true)] := ⟨_, Try.underlying67, ⟨rfl, T34, ⟨rfl, T34, trivial⟩⟩, by decide⟩
theorem T79 : TyIs Try.prog 79 2 true := ⟨by kernel_rfl, _, Try.underlying79, rfl⟩
theorem B79 : TyBytes Try.prog 79 32 := ⟨Try.t79, by kernel_rfl, rfl⟩
theorem Z79 : ZeroOK Try.prog 79 (.agg [.v (.slice none 0 0), .v (.int .i64 0)]) := ⟨Try.t79, _, by kernel_rfl, rfl, rfl, fun _ _ _ => repAgg0 (repFs1 (c1 := [.slice none 0 0]) rfl (repV0 rfl) (repFs1 (c1 := [.int .i64 0]) rfl (repV0 rfl) (repFs0)))⟩
theorem SL79 : StructLay Try.prog 79 [(1, false), (1, false)] := ⟨_, Try.underlying79, ⟨rfl, T22, ⟨rfl, T3, trivial⟩⟩, by decide⟩
theorem T95 : TyIs Try.prog 95 1 false := ⟨by kernel_rfl, _, Try.underlying95, rfl⟩
theorem B95 : TyBytes Try.prog 95 24 := ⟨Try.t95, by kernel_rfl, rfl⟩
theorem Z95 : ZeroOK Try.prog 95 (.v (.slice none 0 0)) := ⟨Try.t95, _, by kernel_rfl, rfl, rfl, fun _ _ _ => repV0 rfl⟩
theorem T116 : TyIs Try.prog 116 1 false := ⟨by kernel_rfl, _, Try.underlying116, rfl⟩
theorem B116 : TyBytes Try.prog 116 8 := ⟨Try.t116, by kernel_rfl, rfl⟩
theorem Z116 : ZeroOK Try.prog 116 (.v (.int .u64 0)) := ⟨Try.t116, _, by kernel_rfl, rfl, rfl, fun _ _ _ => repV0 rfl⟩
theorem T121 : TyIs Try.prog 121 1 false := ⟨by kernel_rfl, _, Try.underlying121, rfl⟩
theorem B121 : TyBytes Try.prog 121 8 := ⟨Try.t121, by kernel_rfl, rfl⟩
theorem Z121 : ZeroOK Try.prog 121 (.v (.int .u64 0)) := ⟨Try.t121, _, by kernel_rfl, rfl, rfl, fun _ _ _ => repV0 rfl⟩
theorem T126 : TyIs Try.prog 126 1 false := ⟨by kernel_rfl, _, Try.underlying126, rfl⟩
theorem B126 : TyBytes Try.prog 126 24 := ⟨Try.t126, by kernel_rfl, rfl⟩
theorem Z126 : ZeroOK Try.prog 126 (.v (.slice none 0 0)) := ⟨Try.t126, _, by kernel_rfl, rfl, rfl, fun _ _ _ => repV0 rfl⟩
theorem T151 : TyIs Try.prog 151 1 false := ⟨by kernel_rfl, _, Try.underlying151, rfl⟩
theorem B151 : TyBytes Try.prog 151 8 := ⟨Try.t151, by kernel_rfl, rfl⟩
theorem Z151 : ZeroOK Try.prog 151 (.v (.pointer none)) := ⟨Try.t151, _, by kernel_rfl, rfl, rfl, fun _ _ _ => repV0 rfl⟩
theorem ld2 {H : Heap} {ρ : Operand → LV} {op : Op} {x : LV} (h : OpP Try.prog H ρ op x := by first | exact .loadBm i64E rfl T2 | exact .loadEm i64E rfl rfl T2 om | exact .loadE rfl rfl rfl rfl rfl rfl T2) : OpP Try.prog H ρ op x := h
theorem ld3 {H : Heap} {ρ : Operand → LV} {op : Op} {x : LV} (h : OpP Try.prog H ρ op x := by first | exact .loadBm i64E rfl T3 | exact .loadEm i64E rfl rfl T3 om | exact .loadE rfl rfl rfl rfl rfl rfl T3) : OpP Try.prog H ρ op x := h
theorem ld4 {H : Heap} {ρ : Operand → LV} {op : Op} {x : LV} (h : OpP Try.prog H ρ op x := by first | exact .ldNeg rfl rfl rfl T4 | exact .loadE rfl rfl rfl rfl rfl rfl T4) : OpP Try.prog H ρ op x := h
theorem ld5 {H : Heap} {ρ : Operand → LV} {op : Op} {x : LV} (h : OpP Try.prog H ρ op x := by first | exact .loadBm u8E rfl T5 | exact .loadEm u8E rfl rfl T5 om | exact .loadE rfl rfl rfl rfl rfl rfl T5) : OpP Try.prog H ρ op x := h
theorem ld9 {H : Heap} {ρ : Operand → LV} {op : Op} {x : LV} (h : OpP Try.prog H ρ op x := by first | exact .loadE rfl rfl rfl rfl rfl rfl T9) : OpP Try.prog H ρ op x := h
theorem ld12 {H : Heap} {ρ : Operand → LV} {op : Op} {x : LV} (h : OpP Try.prog H ρ op x := by first | exact .loadBm u64E rfl T12 | exact .loadEm u64E rfl rfl T12 om | exact .loadE rfl rfl rfl rfl rfl rfl T12) : OpP Try.prog H ρ op x := h
theorem ld15 {H : Heap} {ρ : Operand → LV} {op : Op} {x : LV} (h : OpP Try.prog H ρ op x := by first | exact .loadE rfl rfl rfl rfl rfl rfl T15) : OpP Try.prog H ρ op x := h
theorem ld16 {H : Heap} {ρ : Operand → LV} {op : Op} {x : LV} (h : OpP Try.prog H ρ op x := by first | exact .loadE rfl rfl rfl rfl rfl rfl T16) : OpP Try.prog H ρ op x := h
theorem ld17 {H : Heap} {ρ : Operand → LV} {op : Op} {x : LV} (h : OpP Try.prog H ρ op x := by first | exact .loadE rfl rfl rfl rfl rfl rfl T17) : OpP Try.prog H ρ op x := h
theorem ld19 {H : Heap} {ρ : Operand → LV} {op : Op} {x : LV} (h : OpP Try.prog H ρ op x := by first | exact .loadE rfl rfl rfl rfl rfl rfl T19) : OpP Try.prog H ρ op x := h
theorem fa19 {H : Heap} {ρ : Operand → LV} {op : Op} {x : LV} (h : OpP Try.prog H ρ op x := by first | exact .fieldAddrE rfl SL19 (by decide) | exact .fieldAddrB rfl SL19 rfl) : OpP Try.prog H ρ op x := h
theorem ld21 {H : Heap} {ρ : Operand → LV} {op : Op} {x : LV} (h : OpP Try.prog H ρ op x := by first | exact .loadE rfl rfl rfl rfl rfl rfl T21) : OpP Try.prog H ρ op x := h
theorem ln22 {H : Heap} {ρ : Operand → LV} {op : Op} {x : LV} (h : OpP Try.prog H ρ op x := by first | exact .lenLm rfl rfl Try.underlying22 | exact .lenL rfl rfl Try.underlying22 | exact .lenR rfl rfl Try.underlying22 | exact .lenN rfl rfl Try.underlying22) : OpP Try.prog H ρ op x := h
theorem ix22 {H : Heap} {ρ : Operand → LV} {op : Op} {x : LV} (h : OpP Try.prog H ρ op x := by first | exact .idxLm i64E rfl Try.underlying22 T3 rfl om om | exact .idxR rfl Try.underlying22 T3 rfl om om) : OpP Try.prog H ρ op x := h
theorem ld22 {H : Heap} {ρ : Operand → LV} {op : Op} {x : LV} (h : OpP Try.prog H ρ op x := by first | exact .ldDen rfl rfl rfl T22 | exact .ldNum rfl rfl rfl T22 | exact .loadE rfl rfl rfl rfl rfl rfl T22) : OpP Try.prog H ρ op x := h
theorem ln25 {H : Heap} {ρ : Operand → LV} {op : Op} {x : LV} (h : OpP Try.prog H ρ op x := by first | exact .lenLm rfl rfl Try.underlying25 | exact .lenL rfl rfl Try.underlying25 | exact .lenR rfl rfl Try.underlying25 | exact .lenN rfl rfl Try.underlying25) : OpP Try.prog H ρ op x := h
theorem ix25 {H : Heap} {ρ : Operand → LV} {op : Op} {x : LV} (h : OpP Try.prog H ρ op x := by first | exact .idxLm ratE rfl Try.underlying25 T34 rfl om om | exact .idxR rfl Try.underlying25 T34 rfl om om) : OpP Try.prog H ρ op x := h
theorem ld25 {H : Heap} {ρ : Operand → LV} {op : Op} {x : LV} (h : OpP Try.prog H ρ op x := by first | exact .ldDen rfl rfl rfl T25 | exact .ldNum rfl rfl rfl T25 | exact .loadE rfl rfl rfl rfl rfl rfl T25) : OpP Try.prog H ρ op x := h
theorem ld27 {H : Heap} {ρ : Operand → LV} {op : Op} {x : LV} (h : OpP Try.prog H ρ op x := by first | exact .loadE rfl rfl rfl rfl rfl rfl T27) : OpP Try.prog H ρ op x := h
theorem fa27 {H : Heap} {ρ : Operand → LV} {op : Op} {x : LV} (h : OpP Try.prog H ρ op x := by first | exact .fieldAddrE rfl SL27 (by decide) | exact .fieldAddrB rfl SL27 rfl) : OpP Try.prog H ρ op x := h
theorem ld28 {H : Heap} {ρ : Operand → LV} {op : Op} {x : LV} (h : OpP Try.prog H ρ op x := by first | exact .loadE rfl rfl rfl rfl rfl rfl T28) : OpP Try.prog H ρ op x := h
theorem ld31 {H : Heap} {ρ : Operand → LV} {op : Op} {x : LV} (h : OpP Try.prog H ρ op x := by first | exact .loadBm u32E rfl T31 | exact .loadEm u32E rfl rfl T31 om | exact .loadE rfl rfl rfl rfl rfl rfl T31) : OpP Try.prog H ρ op x := h
theorem ln32 {H : Heap} {ρ : Operand → LV} {op : Op} {x : LV} (h : OpP Try.prog H ρ op x := by first | exact .lenLm rfl rfl Try.underlying32 | exact .lenL rfl rfl Try.underlying32 | exact .lenR rfl rfl Try.underlying32 | exact .lenN rfl rfl Try.underlying32) : OpP Try.prog H ρ op x := h
theorem ix32 {H : Heap} {ρ : Operand → LV} {op : Op} {x : LV} (h : OpP Try.prog H ρ op x := by first | exact .idxLm u32E rfl Try.underlying32 T31 rfl om om | exact .idxR rfl Try.underlying32 T31 rfl om om) : OpP Try.prog H ρ op x := h
theorem ld32 {H : Heap} {ρ : Operand → LV} {op : Op} {x : LV} (h : OpP Try.prog H ρ op x := by first | exact .ldDen rfl rfl rfl T32 | exact .ldNum rfl rfl rfl T32 | exact .loadE rfl rfl rfl rfl rfl rfl T32) : OpP Try.prog H ρ op x := h
theorem ld34 {H : Heap} {ρ : Operand → LV} {op : Op} {x : LV} (h : OpP Try.prog H ρ op x := by first | exact .loadBm ratE rfl T34 | exact .ldRat rfl rfl rfl T34 | exact .loadEm ratE rfl rfl T34 om | exact .ldLo rfl rfl rfl T34 | exact .ldHi rfl rfl rfl T34 | exact .loadE rfl rfl rfl rfl rfl rfl T34) : OpP Try.prog H ρ op x := h
theorem fa34 {H : Heap} {ρ : Operand → LV} {op : Op} {x : LV} (h : OpP Try.prog H ρ op x := by first | exact .fieldAddrE rfl SL34 (by decide) | exact .fieldAddrB rfl SL34 rfl) : OpP Try.prog H ρ op x := h
theorem sr34 {L L1 : St} {dst : Option Nat} {op : Op} (h : OpT Try.prog L dst op L1 := by first | exact .stRat rfl rfl rfl rfl T34 | exact .stR1 rfl rfl rfl T34 | exact .storeM ratE rfl rfl rfl T34 om | exact .store rfl rfl rfl rfl rfl rfl rfl T34 ne0) : OpT Try.prog L dst op L1 := h
theorem ln37 {H : Heap} {ρ : Operand → LV} {op : Op} {x : LV} (h : OpP Try.prog H ρ op x := by first | exact .lenLm rfl rfl Try.underlying37 | exact .lenL rfl rfl Try.underlying37 | exact .lenR rfl rfl Try.underlying37 | exact .lenN rfl rfl Try.underlying37) : OpP Try.prog H ρ op x := h
theorem ix37 {H : Heap} {ρ : Operand → LV} {op : Op} {x : LV} (h : OpP Try.prog H ρ op x := by first | exact .idxLm ratE rfl Try.underlying37 T34 rfl om om | exact .idxR rfl Try.underlying37 T34 rfl om om) : OpP Try.prog H ρ op x := h
theorem ld37 {H : Heap} {ρ : Operand → LV} {op : Op} {x : LV} (h : OpP Try.prog H ρ op x := by first | exact .ldDen rfl rfl rfl T37 | exact .ldNum rfl rfl rfl T37 | exact .loadE rfl rfl rfl rfl rfl rfl T37) : OpP Try.prog H ρ op x := h
theorem ld49 {H : Heap} {ρ : Operand → LV} {op : Op} {x : LV} (h : OpP Try.prog H ρ op x := by first | exact .loadBm i64E rfl T49 | exact .loadEm i64E rfl rfl T49 om | exact .loadE rfl rfl rfl rfl rfl rfl T49) : OpP Try.prog H ρ op x := h
theorem ld67 {H : Heap} {ρ : Operand → LV} {op : Op} {x : LV} (h : OpP Try.prog H ρ op x := by first | exact .loadBm spE rfl T67 | exact .ldSp rfl rfl rfl T67 | exact .loadEm spE rfl rfl T67 om | exact .loadE rfl rfl rfl rfl rfl rfl T67) : OpP Try.prog H ρ op x := h
theorem fa67 {H : Heap} {ρ : Operand → LV} {op : Op} {x : LV} (h : OpP Try.prog H ρ op x := by first | exact .fieldAddrE rfl SL67 (by decide) | exact .fieldAddrB rfl SL67 rfl) : OpP Try.prog H ρ op x := h
theorem ld79 {H : Heap} {ρ : Operand → LV} {op : Op} {x : LV} (h : OpP Try.prog H ρ op x := by first | exact .loadE rfl rfl rfl rfl rfl rfl T79) : OpP Try.prog H ρ op x := h
theorem fa79 {H : Heap} {ρ : Operand → LV} {op : Op} {x : LV} (h : OpP Try.prog H ρ op x := by first | exact .fieldAddrE rfl SL79 (by decide) | exact .fieldAddrB rfl SL79 rfl) : OpP Try.prog H ρ op x := h
theorem ln95 {H : Heap} {ρ : Operand → LV} {op : Op} {x : LV} (h : OpP Try.prog H ρ op x := by first | exact .lenLm rfl rfl Try.underlying95 | exact .lenL rfl rfl Try.underlying95 | exact .lenR rfl rfl Try.underlying95 | exact .lenN rfl rfl Try.underlying95) : OpP Try.prog H ρ op x := h
theorem ix95 {H : Heap} {ρ : Operand → LV} {op : Op} {x : LV} (h : OpP Try.prog H ρ op x := by first | exact .idxLm i64E rfl Try.underlying95 T2 rfl om om | exact .idxR rfl Try.underlying95 T2 rfl om om) : OpP Try.prog H ρ op x := h
theorem ld95 {H : Heap} {ρ : Operand → LV} {op : Op} {x : LV} (h : OpP Try.prog H ρ op x := by first | exact .ldDen rfl rfl rfl T95 | exact .ldNum rfl rfl rfl T95 | exact .loadE rfl rfl rfl rfl rfl rfl T95) : OpP Try.prog H ρ op x := h
theorem ld116 {H : Heap} {ρ : Operand → LV} {op : Op} {x : LV} (h : OpP Try.prog H ρ op x := by first | exact .loadBm u64E rfl T116 | exact .loadEm u64E rfl rfl T116 om | exact .loadE rfl rfl rfl rfl rfl rfl T116) : OpP Try.prog H ρ op x := h
theorem ld121 {H : Heap} {ρ : Operand → LV} {op : Op} {x : LV} (h : OpP Try.prog H ρ op x := by first | exact .loadBm u64E rfl T121 | exact .loadEm u64E rfl rfl T121 om | exact .loadE rfl rfl rfl rfl rfl rfl T121) : OpP Try.prog H ρ op x := h
theorem ln126 {H : Heap} {ρ : Operand → LV} {op : Op} {x : LV} (h : OpP Try.prog H ρ op x := by first | exact .lenLm rfl rfl Try.underlying126 | exact .lenL rfl rfl Try.underlying126 | exact .lenR rfl rfl Try.underlying126 | exact .lenN rfl rfl Try.underlying126) : OpP Try.prog H ρ op x := h
theorem ix126 {H : Heap} {ρ : Operand → LV} {op : Op} {x : LV} (h : OpP Try.prog H ρ op x := by first | exact .idxLm u8E rfl Try.underlying126 T5 rfl om om | exact .idxR rfl Try.underlying126 T5 rfl om om) : OpP Try.prog H ρ op x := h
theorem ld126 {H : Heap} {ρ : Operand → LV} {op : Op} {x : LV} (h : OpP Try.prog H ρ op x := by first | exact .ldDen rfl rfl rfl T126 | exact .ldNum rfl rfl rfl T126 | exact .loadE rfl rfl rfl rfl rfl rfl T126) : OpP Try.prog H ρ op x := h
theorem ld151 {H : Heap} {ρ : Operand → LV} {op : Op} {x : LV} (h : OpP Try.prog H ρ op x := by first | exact .loadE rfl rfl rfl rfl rfl rfl T151) : OpP Try.prog H ρ op x := h
theorem Z67s : ZeroOK Try.prog 67 (spL (0, 0)) := by rw [spL_eq]; exact Z67
theorem sr67 {L L1 : St} {dst : Option Nat} {op : Op} (h : OpT Try.prog L dst op L1 := by exact .stSp rfl rfl rfl T67) : OpT Try.prog L dst op L1 := h
end Go.Proofs.Ythhdcfhaldcheaa
