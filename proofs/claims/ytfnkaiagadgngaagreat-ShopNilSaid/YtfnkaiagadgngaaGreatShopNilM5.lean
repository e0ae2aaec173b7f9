/- Part 5 of what the proof of ShopNil stands on: Tt, LnName, LnPlace, LnEq, LnTexts, LnField, LnSchemaP, LnLensP, LnSchema, LnSchema2, LnSchema3, LnHeavy, LnKeepP, LnLens2P, LnTables, LnLensS, LnLens, LnLens2, LnLens3, LnMerged, LnArr, LnApply, LnApplyR, Xg9, TrPlain, OpP, OpHv, OpCells, ShopNilWalk. -/
import Derived.KernelRfl
import Derived.Test.YtfnkaiagadgngaaGreatShopNilM4
set_option linter.unusedVariables false
set_option linter.unusedSimpArgs false
set_option maxHeartbeats 1000000
section
namespace Go.Vm.T
open Go.RowKit
theorem k_1 : tyOk Go.Proofs.Tryz.prog 1 (.one [.sc .nilFunc]) := ⟨by kernel_rfl, by kernel_rfl⟩
theorem k_2 : tyOk Go.Proofs.Tryz.prog 2 (.one [.sc (.int .i64 0)]) := ⟨by kernel_rfl, by kernel_rfl⟩
theorem k_3 : tyOk Go.Proofs.Tryz.prog 3 (.one [.sc (.int .i64 0)]) := ⟨by kernel_rfl, by kernel_rfl⟩
theorem k_4 : tyOk Go.Proofs.Tryz.prog 4 (.one [.sc (.bool false)]) := ⟨by kernel_rfl, by kernel_rfl⟩
theorem k_5 : tyOk Go.Proofs.Tryz.prog 5 (.one [.sc (.int .u8 0)]) := ⟨by kernel_rfl, by kernel_rfl⟩
theorem k_6 : tyOk Go.Proofs.Tryz.prog 6 (.one [.sc (.int .u8 0)]) := ⟨by kernel_rfl, by kernel_rfl⟩
theorem k_7 : tyOk Go.Proofs.Tryz.prog 7 (.agg [(0, 1), (1, 1), (2, 1), (3, 1)] [.sc (.int .i64 0), .sc (.int .i64 0), .sc (.bool false), .sc (.int .u8 0)]) := ⟨by kernel_rfl, by kernel_rfl, by kernel_rfl⟩
theorem k_8 : tyOk Go.Proofs.Tryz.prog 8 (.agg [(0, 1), (1, 1), (2, 1), (3, 1)] [.sc (.int .i64 0), .sc (.int .i64 0), .sc (.bool false), .sc (.int .u8 0)]) := ⟨by kernel_rfl, by kernel_rfl, by kernel_rfl⟩
theorem k_9 : tyOk Go.Proofs.Tryz.prog 9 (.str) := ⟨by kernel_rfl, by kernel_rfl, by kernel_rfl⟩
theorem k_10 : tyOk Go.Proofs.Tryz.prog 10 (.str) := ⟨by kernel_rfl, by kernel_rfl, by kernel_rfl⟩
theorem k_11 : tyOk Go.Proofs.Tryz.prog 11 (.str) := ⟨by kernel_rfl, by kernel_rfl, by kernel_rfl⟩
theorem k_12 : tyOk Go.Proofs.Tryz.prog 12 (.one [.sc (.int .u64 0)]) := ⟨by kernel_rfl, by kernel_rfl⟩
theorem k_13 : tyOk Go.Proofs.Tryz.prog 13 (.agg [(0, 1), (1, 1)] [.sc (.string ⟨#[]⟩), .sc (.int .u64 0)]) := ⟨by kernel_rfl, by kernel_rfl, by kernel_rfl⟩
theorem k_14 : tyOk Go.Proofs.Tryz.prog 14 (.agg [(0, 1), (1, 1)] [.sc (.string ⟨#[]⟩), .sc (.int .u64 0)]) := ⟨by kernel_rfl, by kernel_rfl, by kernel_rfl⟩
theorem k_15 : tyOk Go.Proofs.Tryz.prog 15 (.one [.sc (.pointer none)]) := ⟨by kernel_rfl, by kernel_rfl⟩
theorem k_16 : tyOk Go.Proofs.Tryz.prog 16 (.one [.sc (.pointer none)]) := ⟨by kernel_rfl, by kernel_rfl⟩
theorem k_17 : tyOk Go.Proofs.Tryz.prog 17 (.one [.sc (.pointer none)]) := ⟨by kernel_rfl, by kernel_rfl⟩
theorem k_18 : tyOk Go.Proofs.Tryz.prog 18 (.agg [(0, 1)] [.sc (.pointer none)]) := ⟨by kernel_rfl, by kernel_rfl, by kernel_rfl⟩
theorem k_19 : tyOk Go.Proofs.Tryz.prog 19 (.agg [(0, 1)] [.sc (.pointer none)]) := ⟨by kernel_rfl, by kernel_rfl, by kernel_rfl⟩
theorem k_21 : tyOk Go.Proofs.Tryz.prog 21 (.one [.sc (.int .i32 0)]) := ⟨by kernel_rfl, by kernel_rfl⟩
theorem k_22 : tyOk Go.Proofs.Tryz.prog 22 (.slice 115 29 408) := ⟨by kernel_rfl, by kernel_rfl, by kernel_rfl, by kernel_rfl⟩
theorem k_23 : tyOk Go.Proofs.Tryz.prog 23 (.slice 36 12 144) := ⟨by kernel_rfl, by kernel_rfl, by kernel_rfl, by kernel_rfl⟩
theorem k_24 : tyOk Go.Proofs.Tryz.prog 24 (.one [.sc .nilFunc]) := ⟨by kernel_rfl, by kernel_rfl⟩
theorem k_25 : tyOk Go.Proofs.Tryz.prog 25 (.one [.sc .nilFunc]) := ⟨by kernel_rfl, by kernel_rfl⟩
theorem k_26 : tyOk Go.Proofs.Tryz.prog 26 (.one [.sc (.pointer none)]) := ⟨by kernel_rfl, by kernel_rfl⟩
theorem k_27 : tyOk Go.Proofs.Tryz.prog 27 (.one [.sc (.pointer none)]) := ⟨by kernel_rfl, by kernel_rfl⟩
theorem k_29 : tyOk Go.Proofs.Tryz.prog 29 (.one [.sc .nilFunc]) := ⟨by kernel_rfl, by kernel_rfl⟩
theorem k_30 : tyOk Go.Proofs.Tryz.prog 30 (.arr 6 3 1 [.sc (.int .i64 0), .sc (.int .i64 0), .sc (.int .i64 0), .sc (.int .i64 0), .sc (.int .i64 0), .sc (.int .i64 0)]) := ⟨by kernel_rfl, by kernel_rfl, by kernel_rfl⟩
theorem k_31 : tyOk Go.Proofs.Tryz.prog 31 (.arr 6 3 1 [.sc (.int .i64 0), .sc (.int .i64 0), .sc (.int .i64 0), .sc (.int .i64 0), .sc (.int .i64 0), .sc (.int .i64 0)]) := ⟨by kernel_rfl, by kernel_rfl, by kernel_rfl⟩
theorem k_32 : tyOk Go.Proofs.Tryz.prog 32 (.slice 45 2 16) := ⟨by kernel_rfl, by kernel_rfl, by kernel_rfl, by kernel_rfl⟩
theorem k_33 : tyOk Go.Proofs.Tryz.prog 33 (.slice 76 20 264) := ⟨by kernel_rfl, by kernel_rfl, by kernel_rfl, by kernel_rfl⟩
theorem k_34 : tyOk Go.Proofs.Tryz.prog 34 (.slice 79 15 176) := ⟨by kernel_rfl, by kernel_rfl, by kernel_rfl, by kernel_rfl⟩
theorem k_35 : tyOk Go.Proofs.Tryz.prog 35 (.agg [(0, 1), (1, 1), (2, 1), (3, 6), (9, 1), (10, 1), (11, 1)] [.sc (.int .i64 0), .sc (.int .i64 0), .sc (.int .i64 0), .sc (.int .i64 0), .sc (.int .i64 0), .sc (.int .i64 0), .sc (.int .i64 0), .sc (.int .i64 0), .sc (.int .i64 0), .row [], .row [], .row []]) := ⟨by kernel_rfl, by kernel_rfl, by kernel_rfl⟩
theorem k_36 : tyOk Go.Proofs.Tryz.prog 36 (.agg [(0, 1), (1, 1), (2, 1), (3, 6), (9, 1), (10, 1), (11, 1)] [.sc (.int .i64 0), .sc (.int .i64 0), .sc (.int .i64 0), .sc (.int .i64 0), .sc (.int .i64 0), .sc (.int .i64 0), .sc (.int .i64 0), .sc (.int .i64 0), .sc (.int .i64 0), .row [], .row [], .row []]) := ⟨by kernel_rfl, by kernel_rfl, by kernel_rfl⟩
theorem k_37 : tyOk Go.Proofs.Tryz.prog 37 (.one [.sc (.int .i64 0)]) := ⟨by kernel_rfl, by kernel_rfl⟩
theorem k_39 : tyOk Go.Proofs.Tryz.prog 39 (.one [.sc .nilFunc]) := ⟨by kernel_rfl, by kernel_rfl⟩
theorem k_41 : tyOk Go.Proofs.Tryz.prog 41 (.one [.sc .nilFunc]) := ⟨by kernel_rfl, by kernel_rfl⟩
theorem k_42 : tyOk Go.Proofs.Tryz.prog 42 (.one [.sc .nilFunc]) := ⟨by kernel_rfl, by kernel_rfl⟩
theorem k_43 : tyOk Go.Proofs.Tryz.prog 43 (.one [.sc .nilFunc]) := ⟨by kernel_rfl, by kernel_rfl⟩
theorem k_44 : tyOk Go.Proofs.Tryz.prog 44 (.agg [(0, 1), (1, 1)] [.sc (.int .i64 0), .sc (.int .i64 0)]) := ⟨by kernel_rfl, by kernel_rfl, by kernel_rfl⟩
theorem k_45 : tyOk Go.Proofs.Tryz.prog 45 (.agg [(0, 1), (1, 1)] [.sc (.int .i64 0), .sc (.int .i64 0)]) := ⟨by kernel_rfl, by kernel_rfl, by kernel_rfl⟩
theorem k_46 : tyOk Go.Proofs.Tryz.prog 46 (.agg [(0, 1), (1, 2), (3, 1), (4, 1)] [.sc (.int .i64 0), .sc (.int .i64 0), .sc (.int .i64 0), .row [], .row []]) := ⟨by kernel_rfl, by kernel_rfl, by kernel_rfl⟩
theorem k_47 : tyOk Go.Proofs.Tryz.prog 47 (.agg [(0, 1), (1, 2), (3, 1), (4, 1)] [.sc (.int .i64 0), .sc (.int .i64 0), .sc (.int .i64 0), .row [], .row []]) := ⟨by kernel_rfl, by kernel_rfl, by kernel_rfl⟩
theorem k_48 : tyOk Go.Proofs.Tryz.prog 48 (.slice 5 1 1) := ⟨by kernel_rfl, by kernel_rfl, by kernel_rfl, by kernel_rfl⟩
theorem k_49 : tyOk Go.Proofs.Tryz.prog 49 (.slice 48 1 24) := ⟨by kernel_rfl, by kernel_rfl, by kernel_rfl, by kernel_rfl⟩
theorem k_50 : tyOk Go.Proofs.Tryz.prog 50 (.agg [(0, 1), (1, 1), (2, 1), (3, 1)] [.sc (.int .i64 0), .row [], .row [], .sc (.int .i64 0)]) := ⟨by kernel_rfl, by kernel_rfl, by kernel_rfl⟩
theorem k_51 : tyOk Go.Proofs.Tryz.prog 51 (.agg [(0, 1), (1, 1), (2, 1), (3, 1)] [.sc (.int .i64 0), .row [], .row [], .sc (.int .i64 0)]) := ⟨by kernel_rfl, by kernel_rfl, by kernel_rfl⟩
theorem k_52 : tyOk Go.Proofs.Tryz.prog 52 (.agg [(0, 4), (4, 1), (5, 1)] [.sc (.int .i64 0), .row [], .row [], .sc (.int .i64 0), .sc (.int .i64 0), .sc (.int .i64 0)]) := ⟨by kernel_rfl, by kernel_rfl, by kernel_rfl⟩
theorem k_53 : tyOk Go.Proofs.Tryz.prog 53 (.agg [(0, 4), (4, 1), (5, 1)] [.sc (.int .i64 0), .row [], .row [], .sc (.int .i64 0), .sc (.int .i64 0), .sc (.int .i64 0)]) := ⟨by kernel_rfl, by kernel_rfl, by kernel_rfl⟩
theorem k_54 : tyOk Go.Proofs.Tryz.prog 54 (.slice 47 5 72) := ⟨by kernel_rfl, by kernel_rfl, by kernel_rfl, by kernel_rfl⟩
theorem k_55 : tyOk Go.Proofs.Tryz.prog 55 (.agg [(0, 5), (5, 6), (11, 1)] [.sc (.int .i64 0), .sc (.int .i64 0), .sc (.int .i64 0), .row [], .row [], .sc (.int .i64 0), .row [], .row [], .sc (.int .i64 0), .sc (.int .i64 0), .sc (.int .i64 0), .row []]) := ⟨by kernel_rfl, by kernel_rfl, by kernel_rfl⟩
theorem k_56 : tyOk Go.Proofs.Tryz.prog 56 (.agg [(0, 5), (5, 6), (11, 1)] [.sc (.int .i64 0), .sc (.int .i64 0), .sc (.int .i64 0), .row [], .row [], .sc (.int .i64 0), .row [], .row [], .sc (.int .i64 0), .sc (.int .i64 0), .sc (.int .i64 0), .row []]) := ⟨by kernel_rfl, by kernel_rfl, by kernel_rfl⟩
theorem k_57 : tyOk Go.Proofs.Tryz.prog 57 (.one [.sc .nilFunc]) := ⟨by kernel_rfl, by kernel_rfl⟩
theorem k_58 : tyOk Go.Proofs.Tryz.prog 58 (.one [.sc .nilFunc]) := ⟨by kernel_rfl, by kernel_rfl⟩
theorem k_59 : tyOk Go.Proofs.Tryz.prog 59 (.one [.sc .nilFunc]) := ⟨by kernel_rfl, by kernel_rfl⟩
theorem k_60 : tyOk Go.Proofs.Tryz.prog 60 (.one [.sc .nilFunc]) := ⟨by kernel_rfl, by kernel_rfl⟩
theorem k_61 : tyOk Go.Proofs.Tryz.prog 61 (.one [.sc .nilFunc]) := ⟨by kernel_rfl, by kernel_rfl⟩
theorem k_62 : tyOk Go.Proofs.Tryz.prog 62 (.one [.sc .nilFunc]) := ⟨by kernel_rfl, by kernel_rfl⟩
theorem k_64 : tyOk Go.Proofs.Tryz.prog 64 (.one [.sc .nilFunc]) := ⟨by kernel_rfl, by kernel_rfl⟩
theorem k_65 : tyOk Go.Proofs.Tryz.prog 65 (.one [.sc .nilFunc]) := ⟨by kernel_rfl, by kernel_rfl⟩
theorem k_66 : tyOk Go.Proofs.Tryz.prog 66 (.one [.sc .nilFunc]) := ⟨by kernel_rfl, by kernel_rfl⟩
theorem k_67 : tyOk Go.Proofs.Tryz.prog 67 (.agg [(0, 1), (1, 1), (2, 1)] [.sc (.int .i64 0), .sc (.string ⟨#[]⟩), .sc (.string ⟨#[]⟩)]) := ⟨by kernel_rfl, by kernel_rfl, by kernel_rfl⟩
theorem k_68 : tyOk Go.Proofs.Tryz.prog 68 (.agg [(0, 1), (1, 1), (2, 1)] [.sc (.int .i64 0), .sc (.string ⟨#[]⟩), .sc (.string ⟨#[]⟩)]) := ⟨by kernel_rfl, by kernel_rfl, by kernel_rfl⟩
theorem k_69 : tyOk Go.Proofs.Tryz.prog 69 (.slice 9 1 16) := ⟨by kernel_rfl, by kernel_rfl, by kernel_rfl, by kernel_rfl⟩
theorem k_70 : tyOk Go.Proofs.Tryz.prog 70 (.agg [(0, 3), (3, 1), (4, 1), (5, 1), (6, 1)] [.sc (.int .i64 0), .sc (.string ⟨#[]⟩), .sc (.string ⟨#[]⟩), .sc (.int .i64 0), .sc (.string ⟨#[]⟩), .row [], .sc (.int .i64 0)]) := ⟨by kernel_rfl, by kernel_rfl, by kernel_rfl⟩
theorem k_71 : tyOk Go.Proofs.Tryz.prog 71 (.agg [(0, 3), (3, 1), (4, 1), (5, 1), (6, 1)] [.sc (.int .i64 0), .sc (.string ⟨#[]⟩), .sc (.string ⟨#[]⟩), .sc (.int .i64 0), .sc (.string ⟨#[]⟩), .row [], .sc (.int .i64 0)]) := ⟨by kernel_rfl, by kernel_rfl, by kernel_rfl⟩
theorem k_72 : tyOk Go.Proofs.Tryz.prog 72 (.slice 290 2 32) := ⟨by kernel_rfl, by kernel_rfl, by kernel_rfl, by kernel_rfl⟩
theorem k_73 : tyOk Go.Proofs.Tryz.prog 73 (.agg [(0, 1), (1, 3), (4, 1), (5, 1), (6, 1), (7, 7), (14, 1), (15, 1)] [.sc (.int .i64 0), .sc (.int .i64 0), .sc (.string ⟨#[]⟩), .sc (.string ⟨#[]⟩), .sc (.string ⟨#[]⟩), .sc (.string ⟨#[]⟩), .sc (.int .i64 0), .sc (.int .i64 0), .sc (.string ⟨#[]⟩), .sc (.string ⟨#[]⟩), .sc (.int .i64 0), .sc (.string ⟨#[]⟩), .row [], .sc (.int .i64 0), .row [], .row []]) := ⟨by kernel_rfl, by kernel_rfl, by kernel_rfl⟩
theorem k_74 : tyOk Go.Proofs.Tryz.prog 74 (.agg [(0, 1), (1, 3), (4, 1), (5, 1), (6, 1), (7, 7), (14, 1), (15, 1)] [.sc (.int .i64 0), .sc (.int .i64 0), .sc (.string ⟨#[]⟩), .sc (.string ⟨#[]⟩), .sc (.string ⟨#[]⟩), .sc (.string ⟨#[]⟩), .sc (.int .i64 0), .sc (.int .i64 0), .sc (.string ⟨#[]⟩), .sc (.string ⟨#[]⟩), .sc (.int .i64 0), .sc (.string ⟨#[]⟩), .row [], .sc (.int .i64 0), .row [], .row []]) := ⟨by kernel_rfl, by kernel_rfl, by kernel_rfl⟩
theorem k_75 : tyOk Go.Proofs.Tryz.prog 75 (.agg [(0, 2), (2, 2), (4, 16)] [.sc (.int .i64 0), .sc (.int .i64 0), .sc (.int .i64 0), .sc (.int .i64 0), .sc (.int .i64 0), .sc (.int .i64 0), .sc (.string ⟨#[]⟩), .sc (.string ⟨#[]⟩), .sc (.string ⟨#[]⟩), .sc (.string ⟨#[]⟩), .sc (.int .i64 0), .sc (.int .i64 0), .sc (.string ⟨#[]⟩), .sc (.string ⟨#[]⟩), .sc (.int .i64 0), .sc (.string ⟨#[]⟩), .row [], .sc (.int .i64 0), .row [], .row []]) := ⟨by kernel_rfl, by kernel_rfl, by kernel_rfl⟩
theorem k_76 : tyOk Go.Proofs.Tryz.prog 76 (.agg [(0, 2), (2, 2), (4, 16)] [.sc (.int .i64 0), .sc (.int .i64 0), .sc (.int .i64 0), .sc (.int .i64 0), .sc (.int .i64 0), .sc (.int .i64 0), .sc (.string ⟨#[]⟩), .sc (.string ⟨#[]⟩), .sc (.string ⟨#[]⟩), .sc (.string ⟨#[]⟩), .sc (.int .i64 0), .sc (.int .i64 0), .sc (.string ⟨#[]⟩), .sc (.string ⟨#[]⟩), .sc (.int .i64 0), .sc (.string ⟨#[]⟩), .row [], .sc (.int .i64 0), .row [], .row []]) := ⟨by kernel_rfl, by kernel_rfl, by kernel_rfl⟩
theorem k_77 : tyOk Go.Proofs.Tryz.prog 77 (.one [.sc .nilFunc]) := ⟨by kernel_rfl, by kernel_rfl⟩
theorem k_78 : tyOk Go.Proofs.Tryz.prog 78 (.agg [(0, 2), (2, 2), (4, 1), (5, 1), (6, 1), (7, 1), (8, 3), (11, 1), (12, 1), (13, 1), (14, 1)] [.sc (.int .i64 0), .sc (.int .i64 0), .sc (.int .i64 0), .sc (.int .i64 0), .sc (.int .i64 0), .sc (.string ⟨#[]⟩), .sc (.int .i64 0), .sc (.string ⟨#[]⟩), .sc (.int .i64 0), .sc (.string ⟨#[]⟩), .sc (.string ⟨#[]⟩), .sc (.int .i64 0), .sc (.bool false), .sc (.string ⟨#[]⟩), .row []]) := ⟨by kernel_rfl, by kernel_rfl, by kernel_rfl⟩
theorem k_79 : tyOk Go.Proofs.Tryz.prog 79 (.agg [(0, 2), (2, 2), (4, 1), (5, 1), (6, 1), (7, 1), (8, 3), (11, 1), (12, 1), (13, 1), (14, 1)] [.sc (.int .i64 0), .sc (.int .i64 0), .sc (.int .i64 0), .sc (.int .i64 0), .sc (.int .i64 0), .sc (.string ⟨#[]⟩), .sc (.int .i64 0), .sc (.string ⟨#[]⟩), .sc (.int .i64 0), .sc (.string ⟨#[]⟩), .sc (.string ⟨#[]⟩), .sc (.int .i64 0), .sc (.bool false), .sc (.string ⟨#[]⟩), .row []]) := ⟨by kernel_rfl, by kernel_rfl, by kernel_rfl⟩
theorem k_80 : tyOk Go.Proofs.Tryz.prog 80 (.one [.sc .nilFunc]) := ⟨by kernel_rfl, by kernel_rfl⟩
theorem k_81 : tyOk Go.Proofs.Tryz.prog 81 (.one [.sc (.pointer none)]) := ⟨by kernel_rfl, by kernel_rfl⟩
theorem k_82 : tyOk Go.Proofs.Tryz.prog 82 (.one [.sc .nilFunc]) := ⟨by kernel_rfl, by kernel_rfl⟩
theorem k_83 : tyOk Go.Proofs.Tryz.prog 83 (.one [.sc .nilFunc]) := ⟨by kernel_rfl, by kernel_rfl⟩
theorem k_84 : tyOk Go.Proofs.Tryz.prog 84 (.agg [(0, 1), (1, 1), (2, 1), (3, 3), (6, 1), (7, 1), (8, 2), (10, 16)] [.sc (.int .i64 0), .sc (.string ⟨#[]⟩), .sc (.string ⟨#[]⟩), .sc (.int .i64 0), .sc (.string ⟨#[]⟩), .sc (.string ⟨#[]⟩), .sc (.int .i64 0), .sc (.string ⟨#[]⟩), .sc (.int .i64 0), .sc (.int .i64 0), .sc (.int .i64 0), .sc (.int .i64 0), .sc (.string ⟨#[]⟩), .sc (.string ⟨#[]⟩), .sc (.string ⟨#[]⟩), .sc (.string ⟨#[]⟩), .sc (.int .i64 0), .sc (.int .i64 0), .sc (.string ⟨#[]⟩), .sc (.string ⟨#[]⟩), .sc (.int .i64 0), .sc (.string ⟨#[]⟩), .row [], .sc (.int .i64 0), .row [], .row []]) := ⟨by kernel_rfl, by kernel_rfl, by kernel_rfl⟩
theorem k_85 : tyOk Go.Proofs.Tryz.prog 85 (.agg [(0, 1), (1, 1), (2, 1), (3, 3), (6, 1), (7, 1), (8, 2), (10, 16)] [.sc (.int .i64 0), .sc (.string ⟨#[]⟩), .sc (.string ⟨#[]⟩), .sc (.int .i64 0), .sc (.string ⟨#[]⟩), .sc (.string ⟨#[]⟩), .sc (.int .i64 0), .sc (.string ⟨#[]⟩), .sc (.int .i64 0), .sc (.int .i64 0), .sc (.int .i64 0), .sc (.int .i64 0), .sc (.string ⟨#[]⟩), .sc (.string ⟨#[]⟩), .sc (.string ⟨#[]⟩), .sc (.string ⟨#[]⟩), .sc (.int .i64 0), .sc (.int .i64 0), .sc (.string ⟨#[]⟩), .sc (.string ⟨#[]⟩), .sc (.int .i64 0), .sc (.string ⟨#[]⟩), .row [], .sc (.int .i64 0), .row [], .row []]) := ⟨by kernel_rfl, by kernel_rfl, by kernel_rfl⟩
theorem k_86 : tyOk Go.Proofs.Tryz.prog 86 (.slice 233 5 72) := ⟨by kernel_rfl, by kernel_rfl, by kernel_rfl, by kernel_rfl⟩
theorem k_87 : tyOk Go.Proofs.Tryz.prog 87 (.slice 164 2 40) := ⟨by kernel_rfl, by kernel_rfl, by kernel_rfl, by kernel_rfl⟩
theorem k_88 : tyOk Go.Proofs.Tryz.prog 88 (.agg [(0, 1), (1, 1)] [.row [], .row []]) := ⟨by kernel_rfl, by kernel_rfl, by kernel_rfl⟩
theorem k_89 : tyOk Go.Proofs.Tryz.prog 89 (.agg [(0, 1), (1, 1)] [.row [], .row []]) := ⟨by kernel_rfl, by kernel_rfl, by kernel_rfl⟩
theorem k_90 : tyOk Go.Proofs.Tryz.prog 90 (.agg [(0, 1), (1, 2), (3, 2)] [.sc (.int .i64 0), .sc (.int .i64 0), .sc (.int .i64 0), .row [], .row []]) := ⟨by kernel_rfl, by kernel_rfl, by kernel_rfl⟩
theorem k_91 : tyOk Go.Proofs.Tryz.prog 91 (.agg [(0, 1), (1, 2), (3, 2)] [.sc (.int .i64 0), .sc (.int .i64 0), .sc (.int .i64 0), .row [], .row []]) := ⟨by kernel_rfl, by kernel_rfl, by kernel_rfl⟩
theorem k_92 : tyOk Go.Proofs.Tryz.prog 92 (.one [.sc .nilFunc]) := ⟨by kernel_rfl, by kernel_rfl⟩
theorem k_93 : tyOk Go.Proofs.Tryz.prog 93 (.one [.sc .nilFunc]) := ⟨by kernel_rfl, by kernel_rfl⟩
theorem k_94 : tyOk Go.Proofs.Tryz.prog 94 (.one [.sc .nilFunc]) := ⟨by kernel_rfl, by kernel_rfl⟩
theorem k_95 : tyOk Go.Proofs.Tryz.prog 95 (.one [.sc (.pointer none)]) := ⟨by kernel_rfl, by kernel_rfl⟩
theorem k_97 : tyOk Go.Proofs.Tryz.prog 97 (.one [.sc .nilFunc]) := ⟨by kernel_rfl, by kernel_rfl⟩
theorem k_99 : tyOk Go.Proofs.Tryz.prog 99 (.one [.sc .nilFunc]) := ⟨by kernel_rfl, by kernel_rfl⟩
theorem k_100 : tyOk Go.Proofs.Tryz.prog 100 (.one [.sc (.pointer none)]) := ⟨by kernel_rfl, by kernel_rfl⟩
theorem k_102 : tyOk Go.Proofs.Tryz.prog 102 (.one [.sc .nilFunc]) := ⟨by kernel_rfl, by kernel_rfl⟩
theorem k_103 : tyOk Go.Proofs.Tryz.prog 103 (.one [.sc (.int .u32 0)]) := ⟨by kernel_rfl, by kernel_rfl⟩
theorem k_104 : tyOk Go.Proofs.Tryz.prog 104 (.arrB 256 103 1) := ⟨by kernel_rfl, by kernel_rfl⟩
theorem k_105 : tyOk Go.Proofs.Tryz.prog 105 (.arrB 256 103 1) := ⟨by kernel_rfl, by kernel_rfl⟩
theorem k_106 : tyOk Go.Proofs.Tryz.prog 106 (.one [.sc .nilFunc]) := ⟨by kernel_rfl, by kernel_rfl⟩
theorem k_107 : tyOk Go.Proofs.Tryz.prog 107 (.one [.sc .nilFunc]) := ⟨by kernel_rfl, by kernel_rfl⟩
theorem k_109 : tyOk Go.Proofs.Tryz.prog 109 (.one [.sc .nilFunc]) := ⟨by kernel_rfl, by kernel_rfl⟩
theorem k_110 : tyOk Go.Proofs.Tryz.prog 110 (.one [.sc .nilFunc]) := ⟨by kernel_rfl, by kernel_rfl⟩
theorem k_111 : tyOk Go.Proofs.Tryz.prog 111 (.one [.sc .nilFunc]) := ⟨by kernel_rfl, by kernel_rfl⟩
theorem k_113 : tyOk Go.Proofs.Tryz.prog 113 (.one [.sc .nilFunc]) := ⟨by kernel_rfl, by kernel_rfl⟩
theorem k_114 : tyOk Go.Proofs.Tryz.prog 114 (.agg [(0, 1), (1, 26), (27, 1), (28, 1)] [.sc (.int .i64 0), .sc (.int .i64 0), .sc (.string ⟨#[]⟩), .sc (.string ⟨#[]⟩), .sc (.int .i64 0), .sc (.string ⟨#[]⟩), .sc (.string ⟨#[]⟩), .sc (.int .i64 0), .sc (.string ⟨#[]⟩), .sc (.int .i64 0), .sc (.int .i64 0), .sc (.int .i64 0), .sc (.int .i64 0), .sc (.string ⟨#[]⟩), .sc (.string ⟨#[]⟩), .sc (.string ⟨#[]⟩), .sc (.string ⟨#[]⟩), .sc (.int .i64 0), .sc (.int .i64 0), .sc (.string ⟨#[]⟩), .sc (.string ⟨#[]⟩), .sc (.int .i64 0), .sc (.string ⟨#[]⟩), .row [], .sc (.int .i64 0), .row [], .row [], .row [], .row []]) := ⟨by kernel_rfl, by kernel_rfl, by kernel_rfl⟩
theorem k_115 : tyOk Go.Proofs.Tryz.prog 115 (.agg [(0, 1), (1, 26), (27, 1), (28, 1)] [.sc (.int .i64 0), .sc (.int .i64 0), .sc (.string ⟨#[]⟩), .sc (.string ⟨#[]⟩), .sc (.int .i64 0), .sc (.string ⟨#[]⟩), .sc (.string ⟨#[]⟩), .sc (.int .i64 0), .sc (.string ⟨#[]⟩), .sc (.int .i64 0), .sc (.int .i64 0), .sc (.int .i64 0), .sc (.int .i64 0), .sc (.string ⟨#[]⟩), .sc (.string ⟨#[]⟩), .sc (.string ⟨#[]⟩), .sc (.string ⟨#[]⟩), .sc (.int .i64 0), .sc (.int .i64 0), .sc (.string ⟨#[]⟩), .sc (.string ⟨#[]⟩), .sc (.int .i64 0), .sc (.string ⟨#[]⟩), .row [], .sc (.int .i64 0), .row [], .row [], .row [], .row []]) := ⟨by kernel_rfl, by kernel_rfl, by kernel_rfl⟩
theorem k_116 : tyOk Go.Proofs.Tryz.prog 116 (.one [.sc .nilFunc]) := ⟨by kernel_rfl, by kernel_rfl⟩
theorem k_117 : tyOk Go.Proofs.Tryz.prog 117 (.one [.sc .nilFunc]) := ⟨by kernel_rfl, by kernel_rfl⟩
theorem k_119 : tyOk Go.Proofs.Tryz.prog 119 (.one [.sc .nilFunc]) := ⟨by kernel_rfl, by kernel_rfl⟩
theorem k_120 : tyOk Go.Proofs.Tryz.prog 120 (.one [.sc .nilFunc]) := ⟨by kernel_rfl, by kernel_rfl⟩
theorem k_121 : tyOk Go.Proofs.Tryz.prog 121 (.one [.sc .nilFunc]) := ⟨by kernel_rfl, by kernel_rfl⟩
theorem k_122 : tyOk Go.Proofs.Tryz.prog 122 (.one [.sc .nilFunc]) := ⟨by kernel_rfl, by kernel_rfl⟩
theorem k_123 : tyOk Go.Proofs.Tryz.prog 123 (.one [.sc .nilFunc]) := ⟨by kernel_rfl, by kernel_rfl⟩
theorem k_124 : tyOk Go.Proofs.Tryz.prog 124 (.slice 3 1 8) := ⟨by kernel_rfl, by kernel_rfl, by kernel_rfl, by kernel_rfl⟩
theorem k_125 : tyOk Go.Proofs.Tryz.prog 125 (.one [.sc .nilFunc]) := ⟨by kernel_rfl, by kernel_rfl⟩
theorem k_126 : tyOk Go.Proofs.Tryz.prog 126 (.one [.sc .nilFunc]) := ⟨by kernel_rfl, by kernel_rfl⟩
theorem k_127 : tyOk Go.Proofs.Tryz.prog 127 (.one [.sc .nilFunc]) := ⟨by kernel_rfl, by kernel_rfl⟩
theorem k_128 : tyOk Go.Proofs.Tryz.prog 128 (.one [.sc .nilFunc]) := ⟨by kernel_rfl, by kernel_rfl⟩
theorem k_129 : tyOk Go.Proofs.Tryz.prog 129 (.one [.sc .nilFunc]) := ⟨by kernel_rfl, by kernel_rfl⟩
theorem k_130 : tyOk Go.Proofs.Tryz.prog 130 (.one [.sc .nilFunc]) := ⟨by kernel_rfl, by kernel_rfl⟩
theorem k_131 : tyOk Go.Proofs.Tryz.prog 131 (.one [.sc .nilFunc]) := ⟨by kernel_rfl, by kernel_rfl⟩
theorem k_132 : tyOk Go.Proofs.Tryz.prog 132 (.one [.sc .nilFunc]) := ⟨by kernel_rfl, by kernel_rfl⟩
theorem k_133 : tyOk Go.Proofs.Tryz.prog 133 (.one [.sc (.pointer none)]) := ⟨by kernel_rfl, by kernel_rfl⟩
theorem k_134 : tyOk Go.Proofs.Tryz.prog 134 (.one [.sc .nilFunc]) := ⟨by kernel_rfl, by kernel_rfl⟩
theorem k_135 : tyOk Go.Proofs.Tryz.prog 135 (.one [.sc .nilFunc]) := ⟨by kernel_rfl, by kernel_rfl⟩
theorem k_136 : tyOk Go.Proofs.Tryz.prog 136 (.one [.sc .nilFunc]) := ⟨by kernel_rfl, by kernel_rfl⟩
theorem k_137 : tyOk Go.Proofs.Tryz.prog 137 (.one [.sc .nilFunc]) := ⟨by kernel_rfl, by kernel_rfl⟩
theorem k_138 : tyOk Go.Proofs.Tryz.prog 138 (.one [.sc .nilFunc]) := ⟨by kernel_rfl, by kernel_rfl⟩
theorem k_139 : tyOk Go.Proofs.Tryz.prog 139 (.one [.sc .nilFunc]) := ⟨by kernel_rfl, by kernel_rfl⟩
theorem k_140 : tyOk Go.Proofs.Tryz.prog 140 (.one [.sc .nilFunc]) := ⟨by kernel_rfl, by kernel_rfl⟩
theorem k_141 : tyOk Go.Proofs.Tryz.prog 141 (.one [.sc .nilFunc]) := ⟨by kernel_rfl, by kernel_rfl⟩
theorem k_142 : tyOk Go.Proofs.Tryz.prog 142 (.one [.sc .nilFunc]) := ⟨by kernel_rfl, by kernel_rfl⟩
theorem k_143 : tyOk Go.Proofs.Tryz.prog 143 (.one [.sc .nilFunc]) := ⟨by kernel_rfl, by kernel_rfl⟩
theorem k_144 : tyOk Go.Proofs.Tryz.prog 144 (.one [.sc .nilFunc]) := ⟨by kernel_rfl, by kernel_rfl⟩
theorem k_145 : tyOk Go.Proofs.Tryz.prog 145 (.one [.sc .nilFunc]) := ⟨by kernel_rfl, by kernel_rfl⟩
theorem k_146 : tyOk Go.Proofs.Tryz.prog 146 (.one [.sc .nilFunc]) := ⟨by kernel_rfl, by kernel_rfl⟩
theorem k_147 : tyOk Go.Proofs.Tryz.prog 147 (.one [.sc .nilFunc]) := ⟨by kernel_rfl, by kernel_rfl⟩
theorem k_148 : tyOk Go.Proofs.Tryz.prog 148 (.one [.sc .nilFunc]) := ⟨by kernel_rfl, by kernel_rfl⟩
theorem k_149 : tyOk Go.Proofs.Tryz.prog 149 (.agg [(0, 1), (1, 1), (2, 1), (3, 2), (5, 1), (6, 1), (7, 1)] [.sc (.pointer none), .sc (.pointer none), .sc (.int .i64 0), .sc (.int .i64 0), .sc (.int .i64 0), .sc (.pointer none), .sc (.pointer none), .sc (.bool false)]) := ⟨by kernel_rfl, by kernel_rfl, by kernel_rfl⟩
theorem k_150 : tyOk Go.Proofs.Tryz.prog 150 (.agg [(0, 1), (1, 1), (2, 1), (3, 2), (5, 1), (6, 1), (7, 1)] [.sc (.pointer none), .sc (.pointer none), .sc (.int .i64 0), .sc (.int .i64 0), .sc (.int .i64 0), .sc (.pointer none), .sc (.pointer none), .sc (.bool false)]) := ⟨by kernel_rfl, by kernel_rfl, by kernel_rfl⟩
theorem k_151 : tyOk Go.Proofs.Tryz.prog 151 (.arr 6 34 1 [.row [], .row [], .row [], .row [], .row [], .row []]) := ⟨by kernel_rfl, by kernel_rfl, by kernel_rfl⟩
theorem k_152 : tyOk Go.Proofs.Tryz.prog 152 (.agg [(0, 6)] [.row [], .row [], .row [], .row [], .row [], .row []]) := ⟨by kernel_rfl, by kernel_rfl, by kernel_rfl⟩
theorem k_153 : tyOk Go.Proofs.Tryz.prog 153 (.agg [(0, 6)] [.row [], .row [], .row [], .row [], .row [], .row []]) := ⟨by kernel_rfl, by kernel_rfl, by kernel_rfl⟩
theorem k_154 : tyOk Go.Proofs.Tryz.prog 154 (.slice 71 7 96) := ⟨by kernel_rfl, by kernel_rfl, by kernel_rfl, by kernel_rfl⟩
theorem k_156 : tyOk Go.Proofs.Tryz.prog 156 (.one [.sc .nilFunc]) := ⟨by kernel_rfl, by kernel_rfl⟩
theorem k_157 : tyOk Go.Proofs.Tryz.prog 157 (.one [.sc .nilFunc]) := ⟨by kernel_rfl, by kernel_rfl⟩
theorem k_158 : tyOk Go.Proofs.Tryz.prog 158 (.one [.sc .nilFunc]) := ⟨by kernel_rfl, by kernel_rfl⟩
theorem k_159 : tyOk Go.Proofs.Tryz.prog 159 (.one [.sc .nilFunc]) := ⟨by kernel_rfl, by kernel_rfl⟩
theorem k_161 : tyOk Go.Proofs.Tryz.prog 161 (.one [.sc .nilFunc]) := ⟨by kernel_rfl, by kernel_rfl⟩
theorem k_162 : tyOk Go.Proofs.Tryz.prog 162 (.one [.sc .nilFunc]) := ⟨by kernel_rfl, by kernel_rfl⟩
theorem k_163 : tyOk Go.Proofs.Tryz.prog 163 (.agg [(0, 1), (1, 1)] [.sc (.string ⟨#[]⟩), .row []]) := ⟨by kernel_rfl, by kernel_rfl, by kernel_rfl⟩
theorem k_164 : tyOk Go.Proofs.Tryz.prog 164 (.agg [(0, 1), (1, 1)] [.sc (.string ⟨#[]⟩), .row []]) := ⟨by kernel_rfl, by kernel_rfl, by kernel_rfl⟩
theorem k_165 : tyOk Go.Proofs.Tryz.prog 165 (.arr 4 48 1 [.row [], .row [], .row [], .row []]) := ⟨by kernel_rfl, by kernel_rfl, by kernel_rfl⟩
theorem k_166 : tyOk Go.Proofs.Tryz.prog 166 (.slice 242 4 48) := ⟨by kernel_rfl, by kernel_rfl, by kernel_rfl, by kernel_rfl⟩
theorem k_167 : tyOk Go.Proofs.Tryz.prog 167 (.agg [(0, 1), (1, 4), (5, 4), (9, 1), (10, 1), (11, 1), (12, 1), (13, 1), (14, 1)] [.sc (.int .i64 0), .row [], .row [], .row [], .row [], .row [], .row [], .row [], .row [], .row [], .sc (.int .i64 0), .sc (.int .i64 0), .sc (.bool false), .sc (.int .i64 0), .sc (.bool false)]) := ⟨by kernel_rfl, by kernel_rfl, by kernel_rfl⟩
theorem k_168 : tyOk Go.Proofs.Tryz.prog 168 (.agg [(0, 1), (1, 4), (5, 4), (9, 1), (10, 1), (11, 1), (12, 1), (13, 1), (14, 1)] [.sc (.int .i64 0), .row [], .row [], .row [], .row [], .row [], .row [], .row [], .row [], .row [], .sc (.int .i64 0), .sc (.int .i64 0), .sc (.bool false), .sc (.int .i64 0), .sc (.bool false)]) := ⟨by kernel_rfl, by kernel_rfl, by kernel_rfl⟩
theorem k_169 : tyOk Go.Proofs.Tryz.prog 169 (.one [.sc .nilFunc]) := ⟨by kernel_rfl, by kernel_rfl⟩
theorem k_170 : tyOk Go.Proofs.Tryz.prog 170 (.one [.sc .nilFunc]) := ⟨by kernel_rfl, by kernel_rfl⟩
theorem k_171 : tyOk Go.Proofs.Tryz.prog 171 (.one [.sc .nilFunc]) := ⟨by kernel_rfl, by kernel_rfl⟩
theorem k_172 : tyOk Go.Proofs.Tryz.prog 172 (.one [.sc (.pointer none)]) := ⟨by kernel_rfl, by kernel_rfl⟩
theorem k_173 : tyOk Go.Proofs.Tryz.prog 173 (.one [.sc (.pointer none)]) := ⟨by kernel_rfl, by kernel_rfl⟩
theorem k_176 : tyOk Go.Proofs.Tryz.prog 176 (.one [.sc .nilFunc]) := ⟨by kernel_rfl, by kernel_rfl⟩
theorem k_178 : tyOk Go.Proofs.Tryz.prog 178 (.one [.sc .nilFunc]) := ⟨by kernel_rfl, by kernel_rfl⟩
theorem k_179 : tyOk Go.Proofs.Tryz.prog 179 (.one [.sc .nilFunc]) := ⟨by kernel_rfl, by kernel_rfl⟩
theorem k_180 : tyOk Go.Proofs.Tryz.prog 180 (.one [.sc .nilFunc]) := ⟨by kernel_rfl, by kernel_rfl⟩
theorem k_181 : tyOk Go.Proofs.Tryz.prog 181 (.one [.sc .nilFunc]) := ⟨by kernel_rfl, by kernel_rfl⟩
theorem k_182 : tyOk Go.Proofs.Tryz.prog 182 (.one [.sc .nilFunc]) := ⟨by kernel_rfl, by kernel_rfl⟩
theorem k_183 : tyOk Go.Proofs.Tryz.prog 183 (.one [.sc .nilFunc]) := ⟨by kernel_rfl, by kernel_rfl⟩
theorem k_185 : tyOk Go.Proofs.Tryz.prog 185 (.one [.sc .nilFunc]) := ⟨by kernel_rfl, by kernel_rfl⟩
theorem k_186 : tyOk Go.Proofs.Tryz.prog 186 (.one [.sc .nilFunc]) := ⟨by kernel_rfl, by kernel_rfl⟩
theorem k_187 : tyOk Go.Proofs.Tryz.prog 187 (.one [.sc .nilFunc]) := ⟨by kernel_rfl, by kernel_rfl⟩
theorem k_189 : tyOk Go.Proofs.Tryz.prog 189 (.one [.sc .nilFunc]) := ⟨by kernel_rfl, by kernel_rfl⟩
theorem k_190 : tyOk Go.Proofs.Tryz.prog 190 (.one [.sc .nilFunc]) := ⟨by kernel_rfl, by kernel_rfl⟩
theorem k_191 : tyOk Go.Proofs.Tryz.prog 191 (.one [.sc .nilFunc]) := ⟨by kernel_rfl, by kernel_rfl⟩
theorem k_192 : tyOk Go.Proofs.Tryz.prog 192 (.one [.sc .nilFunc]) := ⟨by kernel_rfl, by kernel_rfl⟩
theorem k_193 : tyOk Go.Proofs.Tryz.prog 193 (.one [.sc .nilFunc]) := ⟨by kernel_rfl, by kernel_rfl⟩
theorem k_194 : tyOk Go.Proofs.Tryz.prog 194 (.one [.sc .nilFunc]) := ⟨by kernel_rfl, by kernel_rfl⟩
theorem k_195 : tyOk Go.Proofs.Tryz.prog 195 (.one [.sc .nilFunc]) := ⟨by kernel_rfl, by kernel_rfl⟩
theorem k_196 : tyOk Go.Proofs.Tryz.prog 196 (.agg [(0, 20), (20, 1), (21, 1), (22, 1)] [.sc (.int .i64 0), .sc (.int .i64 0), .sc (.int .i64 0), .sc (.int .i64 0), .sc (.int .i64 0), .sc (.int .i64 0), .sc (.string ⟨#[]⟩), .sc (.string ⟨#[]⟩), .sc (.string ⟨#[]⟩), .sc (.string ⟨#[]⟩), .sc (.int .i64 0), .sc (.int .i64 0), .sc (.string ⟨#[]⟩), .sc (.string ⟨#[]⟩), .sc (.int .i64 0), .sc (.string ⟨#[]⟩), .row [], .sc (.int .i64 0), .row [], .row [], .sc (.int .i64 0), .row [], .sc (.int .i64 0)]) := ⟨by kernel_rfl, by kernel_rfl, by kernel_rfl⟩
theorem k_197 : tyOk Go.Proofs.Tryz.prog 197 (.agg [(0, 20), (20, 1), (21, 1), (22, 1)] [.sc (.int .i64 0), .sc (.int .i64 0), .sc (.int .i64 0), .sc (.int .i64 0), .sc (.int .i64 0), .sc (.int .i64 0), .sc (.string ⟨#[]⟩), .sc (.string ⟨#[]⟩), .sc (.string ⟨#[]⟩), .sc (.string ⟨#[]⟩), .sc (.int .i64 0), .sc (.int .i64 0), .sc (.string ⟨#[]⟩), .sc (.string ⟨#[]⟩), .sc (.int .i64 0), .sc (.string ⟨#[]⟩), .row [], .sc (.int .i64 0), .row [], .row [], .sc (.int .i64 0), .row [], .sc (.int .i64 0)]) := ⟨by kernel_rfl, by kernel_rfl, by kernel_rfl⟩
theorem k_198 : tyOk Go.Proofs.Tryz.prog 198 (.one [.sc .nilFunc]) := ⟨by kernel_rfl, by kernel_rfl⟩
theorem k_199 : tyOk Go.Proofs.Tryz.prog 199 (.one [.sc .nilFunc]) := ⟨by kernel_rfl, by kernel_rfl⟩
theorem k_200 : tyOk Go.Proofs.Tryz.prog 200 (.one [.sc (.map none)]) := ⟨by kernel_rfl, by kernel_rfl⟩
theorem k_201 : tyOk Go.Proofs.Tryz.prog 201 (.agg [(0, 1)] [.sc (.map none)]) := ⟨by kernel_rfl, by kernel_rfl, by kernel_rfl⟩
theorem k_202 : tyOk Go.Proofs.Tryz.prog 202 (.agg [(0, 1)] [.sc (.map none)]) := ⟨by kernel_rfl, by kernel_rfl, by kernel_rfl⟩
theorem k_203 : tyOk Go.Proofs.Tryz.prog 203 (.one [.sc .nilFunc]) := ⟨by kernel_rfl, by kernel_rfl⟩
theorem k_204 : tyOk Go.Proofs.Tryz.prog 204 (.one [.sc .nilFunc]) := ⟨by kernel_rfl, by kernel_rfl⟩
theorem k_205 : tyOk Go.Proofs.Tryz.prog 205 (.one [.sc .nilFunc]) := ⟨by kernel_rfl, by kernel_rfl⟩
theorem k_206 : tyOk Go.Proofs.Tryz.prog 206 (.one [.sc .nilFunc]) := ⟨by kernel_rfl, by kernel_rfl⟩
theorem k_207 : tyOk Go.Proofs.Tryz.prog 207 (.one [.sc .nilFunc]) := ⟨by kernel_rfl, by kernel_rfl⟩
theorem k_208 : tyOk Go.Proofs.Tryz.prog 208 (.one [.sc (.map none)]) := ⟨by kernel_rfl, by kernel_rfl⟩
theorem k_209 : tyOk Go.Proofs.Tryz.prog 209 (.agg [] []) := ⟨by kernel_rfl, by kernel_rfl, by kernel_rfl⟩
theorem k_211 : tyOk Go.Proofs.Tryz.prog 211 (.one [.sc .nilFunc]) := ⟨by kernel_rfl, by kernel_rfl⟩
theorem k_212 : tyOk Go.Proofs.Tryz.prog 212 (.one [.sc .nilFunc]) := ⟨by kernel_rfl, by kernel_rfl⟩
theorem k_213 : tyOk Go.Proofs.Tryz.prog 213 (.one [.sc .nilFunc]) := ⟨by kernel_rfl, by kernel_rfl⟩
theorem k_214 : tyOk Go.Proofs.Tryz.prog 214 (.one [.sc .nilFunc]) := ⟨by kernel_rfl, by kernel_rfl⟩
theorem k_215 : tyOk Go.Proofs.Tryz.prog 215 (.one [.sc .nilFunc]) := ⟨by kernel_rfl, by kernel_rfl⟩
theorem k_216 : tyOk Go.Proofs.Tryz.prog 216 (.one [.sc .nilFunc]) := ⟨by kernel_rfl, by kernel_rfl⟩
theorem k_218 : tyOk Go.Proofs.Tryz.prog 218 (.one [.sc .nilFunc]) := ⟨by kernel_rfl, by kernel_rfl⟩
theorem k_219 : tyOk Go.Proofs.Tryz.prog 219 (.one [.sc .nilFunc]) := ⟨by kernel_rfl, by kernel_rfl⟩
theorem k_220 : tyOk Go.Proofs.Tryz.prog 220 (.one [.sc .nilFunc]) := ⟨by kernel_rfl, by kernel_rfl⟩
theorem k_221 : tyOk Go.Proofs.Tryz.prog 221 (.one [.sc .nilFunc]) := ⟨by kernel_rfl, by kernel_rfl⟩
theorem k_222 : tyOk Go.Proofs.Tryz.prog 222 (.one [.sc .nilFunc]) := ⟨by kernel_rfl, by kernel_rfl⟩
theorem k_223 : tyOk Go.Proofs.Tryz.prog 223 (.one [.sc .nilFunc]) := ⟨by kernel_rfl, by kernel_rfl⟩
theorem k_224 : tyOk Go.Proofs.Tryz.prog 224 (.one [.sc .nilFunc]) := ⟨by kernel_rfl, by kernel_rfl⟩
theorem k_225 : tyOk Go.Proofs.Tryz.prog 225 (.one [.sc .nilFunc]) := ⟨by kernel_rfl, by kernel_rfl⟩
theorem k_226 : tyOk Go.Proofs.Tryz.prog 226 (.slice 74 16 232) := ⟨by kernel_rfl, by kernel_rfl, by kernel_rfl, by kernel_rfl⟩
theorem k_228 : tyOk Go.Proofs.Tryz.prog 228 (.one [.sc .nilFunc]) := ⟨by kernel_rfl, by kernel_rfl⟩
theorem k_229 : tyOk Go.Proofs.Tryz.prog 229 (.one [.sc .nilFunc]) := ⟨by kernel_rfl, by kernel_rfl⟩
theorem k_230 : tyOk Go.Proofs.Tryz.prog 230 (.one [.sc .nilFunc]) := ⟨by kernel_rfl, by kernel_rfl⟩
theorem k_231 : tyOk Go.Proofs.Tryz.prog 231 (.one [.sc .nilFunc]) := ⟨by kernel_rfl, by kernel_rfl⟩
theorem k_232 : tyOk Go.Proofs.Tryz.prog 232 (.agg [(0, 3), (3, 1), (4, 1)] [.sc (.int .i64 0), .sc (.string ⟨#[]⟩), .sc (.string ⟨#[]⟩), .sc (.int .i64 0), .row []]) := ⟨by kernel_rfl, by kernel_rfl, by kernel_rfl⟩
theorem k_233 : tyOk Go.Proofs.Tryz.prog 233 (.agg [(0, 3), (3, 1), (4, 1)] [.sc (.int .i64 0), .sc (.string ⟨#[]⟩), .sc (.string ⟨#[]⟩), .sc (.int .i64 0), .row []]) := ⟨by kernel_rfl, by kernel_rfl, by kernel_rfl⟩
theorem k_234 : tyOk Go.Proofs.Tryz.prog 234 (.one [.sc .nilFunc]) := ⟨by kernel_rfl, by kernel_rfl⟩
theorem k_235 : tyOk Go.Proofs.Tryz.prog 235 (.one [.sc (.int .u64 0)]) := ⟨by kernel_rfl, by kernel_rfl⟩
theorem k_236 : tyOk Go.Proofs.Tryz.prog 236 (.one [.sc (.pointer none)]) := ⟨by kernel_rfl, by kernel_rfl⟩
theorem k_237 : tyOk Go.Proofs.Tryz.prog 237 (.one [.sc .nilFunc]) := ⟨by kernel_rfl, by kernel_rfl⟩
theorem k_238 : tyOk Go.Proofs.Tryz.prog 238 (.one [.sc .nilFunc]) := ⟨by kernel_rfl, by kernel_rfl⟩
theorem k_239 : tyOk Go.Proofs.Tryz.prog 239 (.one [.sc .nilFunc]) := ⟨by kernel_rfl, by kernel_rfl⟩
theorem k_240 : tyOk Go.Proofs.Tryz.prog 240 (.one [.sc .nilFunc]) := ⟨by kernel_rfl, by kernel_rfl⟩
theorem k_241 : tyOk Go.Proofs.Tryz.prog 241 (.agg [(0, 1), (1, 1), (2, 1), (3, 1)] [.sc (.int .i64 0), .sc (.bool false), .sc (.int .i64 0), .row []]) := ⟨by kernel_rfl, by kernel_rfl, by kernel_rfl⟩
theorem k_242 : tyOk Go.Proofs.Tryz.prog 242 (.agg [(0, 1), (1, 1), (2, 1), (3, 1)] [.sc (.int .i64 0), .sc (.bool false), .sc (.int .i64 0), .row []]) := ⟨by kernel_rfl, by kernel_rfl, by kernel_rfl⟩
theorem k_244 : tyOk Go.Proofs.Tryz.prog 244 (.one [.sc .nilFunc]) := ⟨by kernel_rfl, by kernel_rfl⟩
theorem k_246 : tyOk Go.Proofs.Tryz.prog 246 (.one [.sc .nilFunc]) := ⟨by kernel_rfl, by kernel_rfl⟩
theorem k_251 : tyOk Go.Proofs.Tryz.prog 251 (.one [.sc .nilFunc]) := ⟨by kernel_rfl, by kernel_rfl⟩
theorem k_252 : tyOk Go.Proofs.Tryz.prog 252 (.one [.sc .nilFunc]) := ⟨by kernel_rfl, by kernel_rfl⟩
theorem k_253 : tyOk Go.Proofs.Tryz.prog 253 (.one [.sc .nilFunc]) := ⟨by kernel_rfl, by kernel_rfl⟩
theorem k_254 : tyOk Go.Proofs.Tryz.prog 254 (.agg [(0, 1), (1, 1), (2, 1), (3, 1), (4, 2), (6, 6), (12, 3), (15, 1)] [.sc (.int .i64 0), .sc (.int .i64 0), .sc (.string ⟨#[]⟩), .sc (.bool false), .sc (.int .i64 0), .sc (.int .i64 0), .sc (.int .i64 0), .sc (.int .i64 0), .sc (.int .i64 0), .sc (.int .i64 0), .sc (.int .i64 0), .sc (.int .i64 0), .sc (.int .i64 0), .sc (.string ⟨#[]⟩), .sc (.string ⟨#[]⟩), .sc (.int .i64 0)]) := ⟨by kernel_rfl, by kernel_rfl, by kernel_rfl⟩
theorem k_255 : tyOk Go.Proofs.Tryz.prog 255 (.agg [(0, 1), (1, 1), (2, 1), (3, 1), (4, 2), (6, 6), (12, 3), (15, 1)] [.sc (.int .i64 0), .sc (.int .i64 0), .sc (.string ⟨#[]⟩), .sc (.bool false), .sc (.int .i64 0), .sc (.int .i64 0), .sc (.int .i64 0), .sc (.int .i64 0), .sc (.int .i64 0), .sc (.int .i64 0), .sc (.int .i64 0), .sc (.int .i64 0), .sc (.int .i64 0), .sc (.string ⟨#[]⟩), .sc (.string ⟨#[]⟩), .sc (.int .i64 0)]) := ⟨by kernel_rfl, by kernel_rfl, by kernel_rfl⟩
theorem k_257 : tyOk Go.Proofs.Tryz.prog 257 (.one [.sc .nilFunc]) := ⟨by kernel_rfl, by kernel_rfl⟩
theorem k_259 : tyOk Go.Proofs.Tryz.prog 259 (.one [.sc .nilFunc]) := ⟨by kernel_rfl, by kernel_rfl⟩
theorem k_261 : tyOk Go.Proofs.Tryz.prog 261 (.one [.sc .nilFunc]) := ⟨by kernel_rfl, by kernel_rfl⟩
theorem k_263 : tyOk Go.Proofs.Tryz.prog 263 (.one [.sc .nilFunc]) := ⟨by kernel_rfl, by kernel_rfl⟩
theorem k_265 : tyOk Go.Proofs.Tryz.prog 265 (.one [.sc .nilFunc]) := ⟨by kernel_rfl, by kernel_rfl⟩
theorem k_266 : tyOk Go.Proofs.Tryz.prog 266 (.one [.sc .nilFunc]) := ⟨by kernel_rfl, by kernel_rfl⟩
theorem k_267 : tyOk Go.Proofs.Tryz.prog 267 (.one [.sc .nilFunc]) := ⟨by kernel_rfl, by kernel_rfl⟩
theorem k_268 : tyOk Go.Proofs.Tryz.prog 268 (.one [.sc .nilFunc]) := ⟨by kernel_rfl, by kernel_rfl⟩
theorem k_269 : tyOk Go.Proofs.Tryz.prog 269 (.one [.sc (.pointer none)]) := ⟨by kernel_rfl, by kernel_rfl⟩
theorem k_270 : tyOk Go.Proofs.Tryz.prog 270 (.one [.sc .nilFunc]) := ⟨by kernel_rfl, by kernel_rfl⟩
theorem k_271 : tyOk Go.Proofs.Tryz.prog 271 (.one [.sc .nilFunc]) := ⟨by kernel_rfl, by kernel_rfl⟩
theorem k_272 : tyOk Go.Proofs.Tryz.prog 272 (.one [.sc .nilFunc]) := ⟨by kernel_rfl, by kernel_rfl⟩
theorem k_273 : tyOk Go.Proofs.Tryz.prog 273 (.one [.sc .nilFunc]) := ⟨by kernel_rfl, by kernel_rfl⟩
theorem k_274 : tyOk Go.Proofs.Tryz.prog 274 (.one [.sc .nilFunc]) := ⟨by kernel_rfl, by kernel_rfl⟩
theorem k_275 : tyOk Go.Proofs.Tryz.prog 275 (.one [.sc .nilFunc]) := ⟨by kernel_rfl, by kernel_rfl⟩
theorem k_276 : tyOk Go.Proofs.Tryz.prog 276 (.one [.sc .nilFunc]) := ⟨by kernel_rfl, by kernel_rfl⟩
theorem k_277 : tyOk Go.Proofs.Tryz.prog 277 (.one [.sc .nilFunc]) := ⟨by kernel_rfl, by kernel_rfl⟩
theorem k_278 : tyOk Go.Proofs.Tryz.prog 278 (.one [.sc .nilFunc]) := ⟨by kernel_rfl, by kernel_rfl⟩
theorem k_279 : tyOk Go.Proofs.Tryz.prog 279 (.one [.sc .nilFunc]) := ⟨by kernel_rfl, by kernel_rfl⟩
theorem k_280 : tyOk Go.Proofs.Tryz.prog 280 (.one [.sc .nilFunc]) := ⟨by kernel_rfl, by kernel_rfl⟩
theorem k_281 : tyOk Go.Proofs.Tryz.prog 281 (.one [.sc .nilFunc]) := ⟨by kernel_rfl, by kernel_rfl⟩
theorem k_282 : tyOk Go.Proofs.Tryz.prog 282 (.one [.sc .nilFunc]) := ⟨by kernel_rfl, by kernel_rfl⟩
theorem k_283 : tyOk Go.Proofs.Tryz.prog 283 (.one [.sc .nilFunc]) := ⟨by kernel_rfl, by kernel_rfl⟩
theorem k_284 : tyOk Go.Proofs.Tryz.prog 284 (.one [.sc .nilFunc]) := ⟨by kernel_rfl, by kernel_rfl⟩
theorem k_285 : tyOk Go.Proofs.Tryz.prog 285 (.one [.sc .nilFunc]) := ⟨by kernel_rfl, by kernel_rfl⟩
theorem k_286 : tyOk Go.Proofs.Tryz.prog 286 (.one [.sc .nilFunc]) := ⟨by kernel_rfl, by kernel_rfl⟩
theorem k_288 : tyOk Go.Proofs.Tryz.prog 288 (.one [.sc .nilFunc]) := ⟨by kernel_rfl, by kernel_rfl⟩
theorem k_289 : tyOk Go.Proofs.Tryz.prog 289 (.agg [(0, 1), (1, 1)] [.sc (.string ⟨#[]⟩), .sc (.string ⟨#[]⟩)]) := ⟨by kernel_rfl, by kernel_rfl, by kernel_rfl⟩
theorem k_290 : tyOk Go.Proofs.Tryz.prog 290 (.agg [(0, 1), (1, 1)] [.sc (.string ⟨#[]⟩), .sc (.string ⟨#[]⟩)]) := ⟨by kernel_rfl, by kernel_rfl, by kernel_rfl⟩
theorem k_291 : tyOk Go.Proofs.Tryz.prog 291 (.one [.sc .nilFunc]) := ⟨by kernel_rfl, by kernel_rfl⟩
theorem k_292 : tyOk Go.Proofs.Tryz.prog 292 (.one [.sc .nilFunc]) := ⟨by kernel_rfl, by kernel_rfl⟩
theorem k_293 : tyOk Go.Proofs.Tryz.prog 293 (.one [.sc .nilFunc]) := ⟨by kernel_rfl, by kernel_rfl⟩
theorem k_295 : tyOk Go.Proofs.Tryz.prog 295 (.one [.sc .nilFunc]) := ⟨by kernel_rfl, by kernel_rfl⟩
theorem k_296 : tyOk Go.Proofs.Tryz.prog 296 (.one [.sc .nilFunc]) := ⟨by kernel_rfl, by kernel_rfl⟩
theorem k_297 : tyOk Go.Proofs.Tryz.prog 297 (.one [.sc .nilFunc]) := ⟨by kernel_rfl, by kernel_rfl⟩
theorem k_298 : tyOk Go.Proofs.Tryz.prog 298 (.one [.sc .nilFunc]) := ⟨by kernel_rfl, by kernel_rfl⟩
theorem k_299 : tyOk Go.Proofs.Tryz.prog 299 (.one [.sc .nilFunc]) := ⟨by kernel_rfl, by kernel_rfl⟩
theorem k_300 : tyOk Go.Proofs.Tryz.prog 300 (.one [.sc .nilFunc]) := ⟨by kernel_rfl, by kernel_rfl⟩
theorem k_301 : tyOk Go.Proofs.Tryz.prog 301 (.agg [(0, 1), (1, 2), (3, 1), (4, 1), (5, 26)] [.sc (.pointer none), .sc (.int .i64 0), .sc (.int .i64 0), .row [], .row [], .sc (.int .i64 0), .sc (.string ⟨#[]⟩), .sc (.string ⟨#[]⟩), .sc (.int .i64 0), .sc (.string ⟨#[]⟩), .sc (.string ⟨#[]⟩), .sc (.int .i64 0), .sc (.string ⟨#[]⟩), .sc (.int .i64 0), .sc (.int .i64 0), .sc (.int .i64 0), .sc (.int .i64 0), .sc (.string ⟨#[]⟩), .sc (.string ⟨#[]⟩), .sc (.string ⟨#[]⟩), .sc (.string ⟨#[]⟩), .sc (.int .i64 0), .sc (.int .i64 0), .sc (.string ⟨#[]⟩), .sc (.string ⟨#[]⟩), .sc (.int .i64 0), .sc (.string ⟨#[]⟩), .row [], .sc (.int .i64 0), .row [], .row []]) := ⟨by kernel_rfl, by kernel_rfl, by kernel_rfl⟩
theorem k_302 : tyOk Go.Proofs.Tryz.prog 302 (.agg [(0, 1), (1, 2), (3, 1), (4, 1), (5, 26)] [.sc (.pointer none), .sc (.int .i64 0), .sc (.int .i64 0), .row [], .row [], .sc (.int .i64 0), .sc (.string ⟨#[]⟩), .sc (.string ⟨#[]⟩), .sc (.int .i64 0), .sc (.string ⟨#[]⟩), .sc (.string ⟨#[]⟩), .sc (.int .i64 0), .sc (.string ⟨#[]⟩), .sc (.int .i64 0), .sc (.int .i64 0), .sc (.int .i64 0), .sc (.int .i64 0), .sc (.string ⟨#[]⟩), .sc (.string ⟨#[]⟩), .sc (.string ⟨#[]⟩), .sc (.string ⟨#[]⟩), .sc (.int .i64 0), .sc (.int .i64 0), .sc (.string ⟨#[]⟩), .sc (.string ⟨#[]⟩), .sc (.int .i64 0), .sc (.string ⟨#[]⟩), .row [], .sc (.int .i64 0), .row [], .row []]) := ⟨by kernel_rfl, by kernel_rfl, by kernel_rfl⟩
theorem k_303 : tyOk Go.Proofs.Tryz.prog 303 (.one [.sc .nilFunc]) := ⟨by kernel_rfl, by kernel_rfl⟩
theorem k_304 : tyOk Go.Proofs.Tryz.prog 304 (.one [.sc .nilFunc]) := ⟨by kernel_rfl, by kernel_rfl⟩
theorem k_305 : tyOk Go.Proofs.Tryz.prog 305 (.one [.sc (.pointer none)]) := ⟨by kernel_rfl, by kernel_rfl⟩
theorem k_307 : tyOk Go.Proofs.Tryz.prog 307 (.one [.sc .nilFunc]) := ⟨by kernel_rfl, by kernel_rfl⟩
theorem k_308 : tyOk Go.Proofs.Tryz.prog 308 (.one [.sc .nilFunc]) := ⟨by kernel_rfl, by kernel_rfl⟩
theorem k_309 : tyOk Go.Proofs.Tryz.prog 309 (.one [.sc .nilFunc]) := ⟨by kernel_rfl, by kernel_rfl⟩
theorem k_311 : tyOk Go.Proofs.Tryz.prog 311 (.one [.sc .nilFunc]) := ⟨by kernel_rfl, by kernel_rfl⟩
theorem k_312 : tyOk Go.Proofs.Tryz.prog 312 (.slice 68 3 40) := ⟨by kernel_rfl, by kernel_rfl, by kernel_rfl, by kernel_rfl⟩
theorem k_313 : tyOk Go.Proofs.Tryz.prog 313 (.one [.sc .nilFunc]) := ⟨by kernel_rfl, by kernel_rfl⟩
theorem k_314 : tyOk Go.Proofs.Tryz.prog 314 (.one [.sc .nilFunc]) := ⟨by kernel_rfl, by kernel_rfl⟩
theorem k_315 : tyOk Go.Proofs.Tryz.prog 315 (.one [.sc .nilFunc]) := ⟨by kernel_rfl, by kernel_rfl⟩
theorem k_316 : tyOk Go.Proofs.Tryz.prog 316 (.one [.sc .nilFunc]) := ⟨by kernel_rfl, by kernel_rfl⟩
theorem k_317 : tyOk Go.Proofs.Tryz.prog 317 (.one [.sc .nilFunc]) := ⟨by kernel_rfl, by kernel_rfl⟩
theorem k_318 : tyOk Go.Proofs.Tryz.prog 318 (.one [.sc .nilFunc]) := ⟨by kernel_rfl, by kernel_rfl⟩
theorem k_319 : tyOk Go.Proofs.Tryz.prog 319 (.one [.sc (.map none)]) := ⟨by kernel_rfl, by kernel_rfl⟩
theorem k_320 : tyOk Go.Proofs.Tryz.prog 320 (.one [.sc .nilFunc]) := ⟨by kernel_rfl, by kernel_rfl⟩
theorem k_321 : tyOk Go.Proofs.Tryz.prog 321 (.agg [(0, 1), (1, 3)] [.sc (.string ⟨#[]⟩), .sc (.int .i64 0), .sc (.string ⟨#[]⟩), .sc (.string ⟨#[]⟩)]) := ⟨by kernel_rfl, by kernel_rfl, by kernel_rfl⟩
theorem k_322 : tyOk Go.Proofs.Tryz.prog 322 (.agg [(0, 1), (1, 3)] [.sc (.string ⟨#[]⟩), .sc (.int .i64 0), .sc (.string ⟨#[]⟩), .sc (.string ⟨#[]⟩)]) := ⟨by kernel_rfl, by kernel_rfl, by kernel_rfl⟩
theorem k_323 : tyOk Go.Proofs.Tryz.prog 323 (.one [.sc .nilFunc]) := ⟨by kernel_rfl, by kernel_rfl⟩
theorem k_324 : tyOk Go.Proofs.Tryz.prog 324 (.one [.sc .nilFunc]) := ⟨by kernel_rfl, by kernel_rfl⟩
theorem k_325 : tyOk Go.Proofs.Tryz.prog 325 (.slice 329 3 24) := ⟨by kernel_rfl, by kernel_rfl, by kernel_rfl, by kernel_rfl⟩
theorem k_327 : tyOk Go.Proofs.Tryz.prog 327 (.one [.sc .nilFunc]) := ⟨by kernel_rfl, by kernel_rfl⟩
theorem k_328 : tyOk Go.Proofs.Tryz.prog 328 (.agg [(0, 2), (2, 1)] [.sc (.int .i64 0), .sc (.int .i64 0), .sc (.bool false)]) := ⟨by kernel_rfl, by kernel_rfl, by kernel_rfl⟩
theorem k_329 : tyOk Go.Proofs.Tryz.prog 329 (.agg [(0, 2), (2, 1)] [.sc (.int .i64 0), .sc (.int .i64 0), .sc (.bool false)]) := ⟨by kernel_rfl, by kernel_rfl, by kernel_rfl⟩
theorem k_331 : tyOk Go.Proofs.Tryz.prog 331 (.one [.sc .nilFunc]) := ⟨by kernel_rfl, by kernel_rfl⟩
theorem k_332 : tyOk Go.Proofs.Tryz.prog 332 (.one [.sc .nilFunc]) := ⟨by kernel_rfl, by kernel_rfl⟩
theorem k_333 : tyOk Go.Proofs.Tryz.prog 333 (.one [.sc .nilFunc]) := ⟨by kernel_rfl, by kernel_rfl⟩
theorem k_335 : tyOk Go.Proofs.Tryz.prog 335 (.one [.sc .nilFunc]) := ⟨by kernel_rfl, by kernel_rfl⟩
theorem k_336 : tyOk Go.Proofs.Tryz.prog 336 (.agg [(0, 1), (1, 1), (2, 1), (3, 1)] [.row [], .sc (.int .i64 0), .sc (.int .i64 0), .sc (.bool false)]) := ⟨by kernel_rfl, by kernel_rfl, by kernel_rfl⟩
theorem k_337 : tyOk Go.Proofs.Tryz.prog 337 (.agg [(0, 1), (1, 1), (2, 1), (3, 1)] [.row [], .sc (.int .i64 0), .sc (.int .i64 0), .sc (.bool false)]) := ⟨by kernel_rfl, by kernel_rfl, by kernel_rfl⟩
theorem k_339 : tyOk Go.Proofs.Tryz.prog 339 (.one [.sc .nilFunc]) := ⟨by kernel_rfl, by kernel_rfl⟩
theorem k_341 : tyOk Go.Proofs.Tryz.prog 341 (.one [.sc .nilFunc]) := ⟨by kernel_rfl, by kernel_rfl⟩
theorem k_342 : tyOk Go.Proofs.Tryz.prog 342 (.one [.sc .nilFunc]) := ⟨by kernel_rfl, by kernel_rfl⟩
theorem k_343 : tyOk Go.Proofs.Tryz.prog 343 (.one [.sc .nilFunc]) := ⟨by kernel_rfl, by kernel_rfl⟩
theorem k_344 : tyOk Go.Proofs.Tryz.prog 344 (.one [.sc .nilFunc]) := ⟨by kernel_rfl, by kernel_rfl⟩
theorem k_346 : tyOk Go.Proofs.Tryz.prog 346 (.one [.sc .nilFunc]) := ⟨by kernel_rfl, by kernel_rfl⟩
theorem k_347 : tyOk Go.Proofs.Tryz.prog 347 (.one [.sc (.int .u64 0)]) := ⟨by kernel_rfl, by kernel_rfl⟩
theorem k_348 : tyOk Go.Proofs.Tryz.prog 348 (.one [.sc .nilFunc]) := ⟨by kernel_rfl, by kernel_rfl⟩
theorem k_349 : tyOk Go.Proofs.Tryz.prog 349 (.one [.sc .nilFunc]) := ⟨by kernel_rfl, by kernel_rfl⟩
theorem k_350 : tyOk Go.Proofs.Tryz.prog 350 (.one [.sc .nilFunc]) := ⟨by kernel_rfl, by kernel_rfl⟩
theorem k_352 : tyOk Go.Proofs.Tryz.prog 352 (.one [.sc .nilFunc]) := ⟨by kernel_rfl, by kernel_rfl⟩
theorem k_354 : tyOk Go.Proofs.Tryz.prog 354 (.one [.sc .nilFunc]) := ⟨by kernel_rfl, by kernel_rfl⟩
theorem k_355 : tyOk Go.Proofs.Tryz.prog 355 (.slice 255 16 152) := ⟨by kernel_rfl, by kernel_rfl, by kernel_rfl, by kernel_rfl⟩
theorem k_357 : tyOk Go.Proofs.Tryz.prog 357 (.one [.sc .nilFunc]) := ⟨by kernel_rfl, by kernel_rfl⟩
theorem k_358 : tyOk Go.Proofs.Tryz.prog 358 (.one [.sc .nilFunc]) := ⟨by kernel_rfl, by kernel_rfl⟩
theorem k_359 : tyOk Go.Proofs.Tryz.prog 359 (.one [.sc .nilFunc]) := ⟨by kernel_rfl, by kernel_rfl⟩
theorem k_360 : tyOk Go.Proofs.Tryz.prog 360 (.one [.sc .nilFunc]) := ⟨by kernel_rfl, by kernel_rfl⟩
theorem k_361 : tyOk Go.Proofs.Tryz.prog 361 (.one [.sc .nilFunc]) := ⟨by kernel_rfl, by kernel_rfl⟩
theorem k_362 : tyOk Go.Proofs.Tryz.prog 362 (.one [.sc .nilFunc]) := ⟨by kernel_rfl, by kernel_rfl⟩
theorem k_363 : tyOk Go.Proofs.Tryz.prog 363 (.one [.sc .nilFunc]) := ⟨by kernel_rfl, by kernel_rfl⟩
theorem k_364 : tyOk Go.Proofs.Tryz.prog 364 (.one [.sc .nilFunc]) := ⟨by kernel_rfl, by kernel_rfl⟩
theorem k_365 : tyOk Go.Proofs.Tryz.prog 365 (.one [.sc .nilFunc]) := ⟨by kernel_rfl, by kernel_rfl⟩
theorem k_366 : tyOk Go.Proofs.Tryz.prog 366 (.one [.sc .nilFunc]) := ⟨by kernel_rfl, by kernel_rfl⟩
theorem k_367 : tyOk Go.Proofs.Tryz.prog 367 (.one [.sc .nilFunc]) := ⟨by kernel_rfl, by kernel_rfl⟩
theorem k_368 : tyOk Go.Proofs.Tryz.prog 368 (.one [.sc .nilFunc]) := ⟨by kernel_rfl, by kernel_rfl⟩
theorem k_370 : tyOk Go.Proofs.Tryz.prog 370 (.one [.sc .nilFunc]) := ⟨by kernel_rfl, by kernel_rfl⟩
theorem k_371 : tyOk Go.Proofs.Tryz.prog 371 (.one [.sc .nilFunc]) := ⟨by kernel_rfl, by kernel_rfl⟩
theorem k_372 : tyOk Go.Proofs.Tryz.prog 372 (.one [.sc .nilFunc]) := ⟨by kernel_rfl, by kernel_rfl⟩
theorem k_373 : tyOk Go.Proofs.Tryz.prog 373 (.one [.sc .nilFunc]) := ⟨by kernel_rfl, by kernel_rfl⟩
theorem k_374 : tyOk Go.Proofs.Tryz.prog 374 (.one [.sc .nilFunc]) := ⟨by kernel_rfl, by kernel_rfl⟩
theorem k_376 : tyOk Go.Proofs.Tryz.prog 376 (.one [.sc .nilFunc]) := ⟨by kernel_rfl, by kernel_rfl⟩
theorem k_377 : tyOk Go.Proofs.Tryz.prog 377 (.one [.sc .nilFunc]) := ⟨by kernel_rfl, by kernel_rfl⟩
theorem k_378 : tyOk Go.Proofs.Tryz.prog 378 (.one [.sc .nilFunc]) := ⟨by kernel_rfl, by kernel_rfl⟩
theorem k_379 : tyOk Go.Proofs.Tryz.prog 379 (.one [.sc .nilFunc]) := ⟨by kernel_rfl, by kernel_rfl⟩
theorem k_380 : tyOk Go.Proofs.Tryz.prog 380 (.one [.sc .nilFunc]) := ⟨by kernel_rfl, by kernel_rfl⟩
theorem k_381 : tyOk Go.Proofs.Tryz.prog 381 (.one [.sc .nilFunc]) := ⟨by kernel_rfl, by kernel_rfl⟩
theorem k_382 : tyOk Go.Proofs.Tryz.prog 382 (.one [.sc .nilFunc]) := ⟨by kernel_rfl, by kernel_rfl⟩
theorem k_383 : tyOk Go.Proofs.Tryz.prog 383 (.one [.sc .nilFunc]) := ⟨by kernel_rfl, by kernel_rfl⟩
theorem k_384 : tyOk Go.Proofs.Tryz.prog 384 (.one [.sc .nilFunc]) := ⟨by kernel_rfl, by kernel_rfl⟩
theorem k_385 : tyOk Go.Proofs.Tryz.prog 385 (.one [.sc .nilFunc]) := ⟨by kernel_rfl, by kernel_rfl⟩
theorem k_386 : tyOk Go.Proofs.Tryz.prog 386 (.one [.sc .nilFunc]) := ⟨by kernel_rfl, by kernel_rfl⟩
theorem k_387 : tyOk Go.Proofs.Tryz.prog 387 (.one [.sc .nilFunc]) := ⟨by kernel_rfl, by kernel_rfl⟩
theorem k_388 : tyOk Go.Proofs.Tryz.prog 388 (.one [.sc .nilFunc]) := ⟨by kernel_rfl, by kernel_rfl⟩
theorem k_389 : tyOk Go.Proofs.Tryz.prog 389 (.one [.sc .nilFunc]) := ⟨by kernel_rfl, by kernel_rfl⟩
theorem k_390 : tyOk Go.Proofs.Tryz.prog 390 (.one [.sc .nilFunc]) := ⟨by kernel_rfl, by kernel_rfl⟩
theorem k_391 : tyOk Go.Proofs.Tryz.prog 391 (.one [.sc .nilFunc]) := ⟨by kernel_rfl, by kernel_rfl⟩
theorem k_393 : tyOk Go.Proofs.Tryz.prog 393 (.one [.sc .nilFunc]) := ⟨by kernel_rfl, by kernel_rfl⟩
theorem k_394 : tyOk Go.Proofs.Tryz.prog 394 (.one [.sc .nilFunc]) := ⟨by kernel_rfl, by kernel_rfl⟩
theorem k_395 : tyOk Go.Proofs.Tryz.prog 395 (.one [.sc .nilFunc]) := ⟨by kernel_rfl, by kernel_rfl⟩
theorem k_396 : tyOk Go.Proofs.Tryz.prog 396 (.one [.sc .nilFunc]) := ⟨by kernel_rfl, by kernel_rfl⟩
theorem k_397 : tyOk Go.Proofs.Tryz.prog 397 (.one [.sc .nilFunc]) := ⟨by kernel_rfl, by kernel_rfl⟩
theorem k_399 : tyOk Go.Proofs.Tryz.prog 399 (.one [.sc .nilFunc]) := ⟨by kernel_rfl, by kernel_rfl⟩
theorem k_400 : tyOk Go.Proofs.Tryz.prog 400 (.one [.sc .nilFunc]) := ⟨by kernel_rfl, by kernel_rfl⟩
theorem k_401 : tyOk Go.Proofs.Tryz.prog 401 (.one [.sc .nilFunc]) := ⟨by kernel_rfl, by kernel_rfl⟩
theorem k_402 : tyOk Go.Proofs.Tryz.prog 402 (.one [.sc .nilFunc]) := ⟨by kernel_rfl, by kernel_rfl⟩
theorem k_403 : tyOk Go.Proofs.Tryz.prog 403 (.one [.sc .nilFunc]) := ⟨by kernel_rfl, by kernel_rfl⟩
theorem k_404 : tyOk Go.Proofs.Tryz.prog 404 (.one [.sc .nilFunc]) := ⟨by kernel_rfl, by kernel_rfl⟩
theorem k_405 : tyOk Go.Proofs.Tryz.prog 405 (.one [.sc .nilFunc]) := ⟨by kernel_rfl, by kernel_rfl⟩
theorem k_406 : tyOk Go.Proofs.Tryz.prog 406 (.one [.sc .nilFunc]) := ⟨by kernel_rfl, by kernel_rfl⟩
theorem k_407 : tyOk Go.Proofs.Tryz.prog 407 (.one [.sc .nilFunc]) := ⟨by kernel_rfl, by kernel_rfl⟩
theorem k_408 : tyOk Go.Proofs.Tryz.prog 408 (.one [.sc .nilFunc]) := ⟨by kernel_rfl, by kernel_rfl⟩
theorem k_410 : tyOk Go.Proofs.Tryz.prog 410 (.one [.sc .nilFunc]) := ⟨by kernel_rfl, by kernel_rfl⟩
theorem k_412 : tyOk Go.Proofs.Tryz.prog 412 (.one [.sc .nilFunc]) := ⟨by kernel_rfl, by kernel_rfl⟩
theorem k_413 : tyOk Go.Proofs.Tryz.prog 413 (.one [.sc .nilFunc]) := ⟨by kernel_rfl, by kernel_rfl⟩
theorem k_414 : tyOk Go.Proofs.Tryz.prog 414 (.one [.sc .nilFunc]) := ⟨by kernel_rfl, by kernel_rfl⟩
theorem k_415 : tyOk Go.Proofs.Tryz.prog 415 (.one [.sc .nilFunc]) := ⟨by kernel_rfl, by kernel_rfl⟩
theorem k_416 : tyOk Go.Proofs.Tryz.prog 416 (.one [.sc .nilFunc]) := ⟨by kernel_rfl, by kernel_rfl⟩
theorem k_418 : tyOk Go.Proofs.Tryz.prog 418 (.one [.sc .nilFunc]) := ⟨by kernel_rfl, by kernel_rfl⟩
theorem k_420 : tyOk Go.Proofs.Tryz.prog 420 (.one [.sc .nilFunc]) := ⟨by kernel_rfl, by kernel_rfl⟩
theorem k_421 : tyOk Go.Proofs.Tryz.prog 421 (.one [.sc .nilFunc]) := ⟨by kernel_rfl, by kernel_rfl⟩
theorem k_422 : tyOk Go.Proofs.Tryz.prog 422 (.one [.sc .nilFunc]) := ⟨by kernel_rfl, by kernel_rfl⟩
theorem k_423 : tyOk Go.Proofs.Tryz.prog 423 (.one [.sc .nilFunc]) := ⟨by kernel_rfl, by kernel_rfl⟩
theorem k_424 : tyOk Go.Proofs.Tryz.prog 424 (.one [.sc .nilFunc]) := ⟨by kernel_rfl, by kernel_rfl⟩
theorem k_425 : tyOk Go.Proofs.Tryz.prog 425 (.one [.sc .nilFunc]) := ⟨by kernel_rfl, by kernel_rfl⟩
theorem k_427 : tyOk Go.Proofs.Tryz.prog 427 (.one [.sc .nilFunc]) := ⟨by kernel_rfl, by kernel_rfl⟩
theorem k_429 : tyOk Go.Proofs.Tryz.prog 429 (.one [.sc .nilFunc]) := ⟨by kernel_rfl, by kernel_rfl⟩
theorem k_431 : tyOk Go.Proofs.Tryz.prog 431 (.one [.sc .nilFunc]) := ⟨by kernel_rfl, by kernel_rfl⟩
theorem k_432 : tyOk Go.Proofs.Tryz.prog 432 (.one [.sc .nilFunc]) := ⟨by kernel_rfl, by kernel_rfl⟩
theorem k_433 : tyOk Go.Proofs.Tryz.prog 433 (.one [.sc .nilFunc]) := ⟨by kernel_rfl, by kernel_rfl⟩
theorem k_434 : tyOk Go.Proofs.Tryz.prog 434 (.one [.sc .nilFunc]) := ⟨by kernel_rfl, by kernel_rfl⟩
theorem k_435 : tyOk Go.Proofs.Tryz.prog 435 (.one [.sc .nilFunc]) := ⟨by kernel_rfl, by kernel_rfl⟩
theorem k_436 : tyOk Go.Proofs.Tryz.prog 436 (.one [.sc .nilFunc]) := ⟨by kernel_rfl, by kernel_rfl⟩
theorem k_437 : tyOk Go.Proofs.Tryz.prog 437 (.one [.sc .nilFunc]) := ⟨by kernel_rfl, by kernel_rfl⟩
theorem k_438 : tyOk Go.Proofs.Tryz.prog 438 (.one [.sc .nilFunc]) := ⟨by kernel_rfl, by kernel_rfl⟩
theorem k_440 : tyOk Go.Proofs.Tryz.prog 440 (.one [.sc .nilFunc]) := ⟨by kernel_rfl, by kernel_rfl⟩
theorem k_441 : tyOk Go.Proofs.Tryz.prog 441 (.one [.sc .nilFunc]) := ⟨by kernel_rfl, by kernel_rfl⟩
theorem k_442 : tyOk Go.Proofs.Tryz.prog 442 (.one [.sc .nilFunc]) := ⟨by kernel_rfl, by kernel_rfl⟩
theorem k_443 : tyOk Go.Proofs.Tryz.prog 443 (.one [.sc (.int .i64 0)]) := ⟨by kernel_rfl, by kernel_rfl⟩
theorem k_445 : tyOk Go.Proofs.Tryz.prog 445 (.one [.sc .nilFunc]) := ⟨by kernel_rfl, by kernel_rfl⟩
theorem k_446 : tyOk Go.Proofs.Tryz.prog 446 (.one [.sc .nilFunc]) := ⟨by kernel_rfl, by kernel_rfl⟩
theorem k_447 : tyOk Go.Proofs.Tryz.prog 447 (.one [.sc .nilFunc]) := ⟨by kernel_rfl, by kernel_rfl⟩
theorem k_449 : tyOk Go.Proofs.Tryz.prog 449 (.one [.sc .nilFunc]) := ⟨by kernel_rfl, by kernel_rfl⟩
theorem k_450 : tyOk Go.Proofs.Tryz.prog 450 (.one [.sc .nilFunc]) := ⟨by kernel_rfl, by kernel_rfl⟩
theorem k_451 : tyOk Go.Proofs.Tryz.prog 451 (.one [.sc .nilFunc]) := ⟨by kernel_rfl, by kernel_rfl⟩
theorem k_452 : tyOk Go.Proofs.Tryz.prog 452 (.one [.sc .nilFunc]) := ⟨by kernel_rfl, by kernel_rfl⟩
theorem k_453 : tyOk Go.Proofs.Tryz.prog 453 (.one [.sc .nilFunc]) := ⟨by kernel_rfl, by kernel_rfl⟩
theorem k_454 : tyOk Go.Proofs.Tryz.prog 454 (.one [.sc .nilFunc]) := ⟨by kernel_rfl, by kernel_rfl⟩
theorem k_455 : tyOk Go.Proofs.Tryz.prog 455 (.one [.sc .nilFunc]) := ⟨by kernel_rfl, by kernel_rfl⟩
theorem k_456 : tyOk Go.Proofs.Tryz.prog 456 (.one [.sc .nilFunc]) := ⟨by kernel_rfl, by kernel_rfl⟩
theorem k_457 : tyOk Go.Proofs.Tryz.prog 457 (.one [.sc (.complex .f64 0 0)]) := ⟨by kernel_rfl, by kernel_rfl⟩
theorem k_459 : tyOk Go.Proofs.Tryz.prog 459 (.one [.sc .nilFunc]) := ⟨by kernel_rfl, by kernel_rfl⟩
theorem k_460 : tyOk Go.Proofs.Tryz.prog 460 (.one [.sc .nilFunc]) := ⟨by kernel_rfl, by kernel_rfl⟩
theorem k_462 : tyOk Go.Proofs.Tryz.prog 462 (.one [.sc .nilFunc]) := ⟨by kernel_rfl, by kernel_rfl⟩
theorem k_463 : tyOk Go.Proofs.Tryz.prog 463 (.one [.sc .nilFunc]) := ⟨by kernel_rfl, by kernel_rfl⟩
theorem k_464 : tyOk Go.Proofs.Tryz.prog 464 (.one [.sc .nilFunc]) := ⟨by kernel_rfl, by kernel_rfl⟩
theorem k_465 : tyOk Go.Proofs.Tryz.prog 465 (.one [.sc .nilFunc]) := ⟨by kernel_rfl, by kernel_rfl⟩
theorem k_467 : tyOk Go.Proofs.Tryz.prog 467 (.one [.sc .nilFunc]) := ⟨by kernel_rfl, by kernel_rfl⟩
theorem k_468 : tyOk Go.Proofs.Tryz.prog 468 (.one [.sc .nilFunc]) := ⟨by kernel_rfl, by kernel_rfl⟩
theorem k_469 : tyOk Go.Proofs.Tryz.prog 469 (.one [.sc (.int .u64 0)]) := ⟨by kernel_rfl, by kernel_rfl⟩
theorem k_470 : tyOk Go.Proofs.Tryz.prog 470 (.one [.sc .nilFunc]) := ⟨by kernel_rfl, by kernel_rfl⟩
theorem k_471 : tyOk Go.Proofs.Tryz.prog 471 (.one [.sc .nilFunc]) := ⟨by kernel_rfl, by kernel_rfl⟩
theorem k_472 : tyOk Go.Proofs.Tryz.prog 472 (.one [.sc .nilFunc]) := ⟨by kernel_rfl, by kernel_rfl⟩
theorem k_473 : tyOk Go.Proofs.Tryz.prog 473 (.one [.sc (.pointer none)]) := ⟨by kernel_rfl, by kernel_rfl⟩
theorem k_474 : tyOk Go.Proofs.Tryz.prog 474 (.one [.sc .nilFunc]) := ⟨by kernel_rfl, by kernel_rfl⟩
theorem k_475 : tyOk Go.Proofs.Tryz.prog 475 (.one [.sc .nilFunc]) := ⟨by kernel_rfl, by kernel_rfl⟩
theorem k_476 : tyOk Go.Proofs.Tryz.prog 476 (.one [.sc .nilFunc]) := ⟨by kernel_rfl, by kernel_rfl⟩
theorem k_477 : tyOk Go.Proofs.Tryz.prog 477 (.one [.sc .nilFunc]) := ⟨by kernel_rfl, by kernel_rfl⟩
theorem k_478 : tyOk Go.Proofs.Tryz.prog 478 (.one [.sc (.float .f64 0)]) := ⟨by kernel_rfl, by kernel_rfl⟩
theorem k_479 : tyOk Go.Proofs.Tryz.prog 479 (.one [.sc .nilFunc]) := ⟨by kernel_rfl, by kernel_rfl⟩
theorem k_480 : tyOk Go.Proofs.Tryz.prog 480 (.one [.sc .nilFunc]) := ⟨by kernel_rfl, by kernel_rfl⟩
theorem k_481 : tyOk Go.Proofs.Tryz.prog 481 (.one [.sc .nilFunc]) := ⟨by kernel_rfl, by kernel_rfl⟩
theorem k_482 : tyOk Go.Proofs.Tryz.prog 482 (.one [.sc .nilFunc]) := ⟨by kernel_rfl, by kernel_rfl⟩
theorem k_483 : tyOk Go.Proofs.Tryz.prog 483 (.one [.sc .nilFunc]) := ⟨by kernel_rfl, by kernel_rfl⟩
theorem k_484 : tyOk Go.Proofs.Tryz.prog 484 (.one [.sc .nilFunc]) := ⟨by kernel_rfl, by kernel_rfl⟩
theorem k_485 : tyOk Go.Proofs.Tryz.prog 485 (.one [.sc .nilFunc]) := ⟨by kernel_rfl, by kernel_rfl⟩
theorem k_486 : tyOk Go.Proofs.Tryz.prog 486 (.one [.sc .nilFunc]) := ⟨by kernel_rfl, by kernel_rfl⟩
theorem k_487 : tyOk Go.Proofs.Tryz.prog 487 (.one [.sc .nilFunc]) := ⟨by kernel_rfl, by kernel_rfl⟩
theorem k_488 : tyOk Go.Proofs.Tryz.prog 488 (.one [.sc (.pointer none)]) := ⟨by kernel_rfl, by kernel_rfl⟩
theorem k_490 : tyOk Go.Proofs.Tryz.prog 490 (.one [.sc .nilFunc]) := ⟨by kernel_rfl, by kernel_rfl⟩
theorem k_491 : tyOk Go.Proofs.Tryz.prog 491 (.one [.sc .nilFunc]) := ⟨by kernel_rfl, by kernel_rfl⟩
theorem k_492 : tyOk Go.Proofs.Tryz.prog 492 (.one [.sc .nilFunc]) := ⟨by kernel_rfl, by kernel_rfl⟩
theorem k_493 : tyOk Go.Proofs.Tryz.prog 493 (.one [.sc .nilFunc]) := ⟨by kernel_rfl, by kernel_rfl⟩
theorem k_495 : tyOk Go.Proofs.Tryz.prog 495 (.one [.sc .nilFunc]) := ⟨by kernel_rfl, by kernel_rfl⟩
theorem k_496 : tyOk Go.Proofs.Tryz.prog 496 (.one [.sc .nilFunc]) := ⟨by kernel_rfl, by kernel_rfl⟩
theorem k_497 : tyOk Go.Proofs.Tryz.prog 497 (.arr 2 478 1 [.sc (.float .f64 0), .sc (.float .f64 0)]) := ⟨by kernel_rfl, by kernel_rfl, by kernel_rfl⟩
theorem k_498 : tyOk Go.Proofs.Tryz.prog 498 (.one [.sc .nilFunc]) := ⟨by kernel_rfl, by kernel_rfl⟩
theorem k_499 : tyOk Go.Proofs.Tryz.prog 499 (.one [.sc .nilFunc]) := ⟨by kernel_rfl, by kernel_rfl⟩
theorem k_500 : tyOk Go.Proofs.Tryz.prog 500 (.one [.sc .nilFunc]) := ⟨by kernel_rfl, by kernel_rfl⟩
theorem k_501 : tyOk Go.Proofs.Tryz.prog 501 (.one [.sc .nilFunc]) := ⟨by kernel_rfl, by kernel_rfl⟩
theorem k_502 : tyOk Go.Proofs.Tryz.prog 502 (.one [.sc .nilFunc]) := ⟨by kernel_rfl, by kernel_rfl⟩
theorem k_503 : tyOk Go.Proofs.Tryz.prog 503 (.one [.sc .nilFunc]) := ⟨by kernel_rfl, by kernel_rfl⟩
theorem k_504 : tyOk Go.Proofs.Tryz.prog 504 (.one [.sc .nilFunc]) := ⟨by kernel_rfl, by kernel_rfl⟩
theorem k_505 : tyOk Go.Proofs.Tryz.prog 505 (.agg [(0, 1), (1, 1), (2, 1), (3, 1)] [.sc (.pointer none), .sc (.pointer none), .sc (.pointer none), .sc (.string ⟨#[]⟩)]) := ⟨by kernel_rfl, by kernel_rfl, by kernel_rfl⟩
theorem k_506 : tyOk Go.Proofs.Tryz.prog 506 (.agg [(0, 1), (1, 1), (2, 1), (3, 1)] [.sc (.pointer none), .sc (.pointer none), .sc (.pointer none), .sc (.string ⟨#[]⟩)]) := ⟨by kernel_rfl, by kernel_rfl, by kernel_rfl⟩
theorem k_507 : tyOk Go.Proofs.Tryz.prog 507 (.arr 0 16 1 []) := ⟨by kernel_rfl, by kernel_rfl, by kernel_rfl⟩
theorem k_508 : tyOk Go.Proofs.Tryz.prog 508 (.agg [(0, 0)] []) := ⟨by kernel_rfl, by kernel_rfl, by kernel_rfl⟩
theorem k_509 : tyOk Go.Proofs.Tryz.prog 509 (.agg [(0, 0)] []) := ⟨by kernel_rfl, by kernel_rfl, by kernel_rfl⟩
theorem k_510 : tyOk Go.Proofs.Tryz.prog 510 (.one [.sc (.int .u8 0)]) := ⟨by kernel_rfl, by kernel_rfl⟩
theorem k_511 : tyOk Go.Proofs.Tryz.prog 511 (.one [.sc (.int .u8 0)]) := ⟨by kernel_rfl, by kernel_rfl⟩
theorem k_512 : tyOk Go.Proofs.Tryz.prog 512 (.one [.sc .nilFunc]) := ⟨by kernel_rfl, by kernel_rfl⟩
theorem k_513 : tyOk Go.Proofs.Tryz.prog 513 (.one [.sc (.pointer none)]) := ⟨by kernel_rfl, by kernel_rfl⟩
theorem k_514 : tyOk Go.Proofs.Tryz.prog 514 (.one [.sc (.int .i32 0)]) := ⟨by kernel_rfl, by kernel_rfl⟩
theorem k_515 : tyOk Go.Proofs.Tryz.prog 515 (.one [.sc (.int .i32 0)]) := ⟨by kernel_rfl, by kernel_rfl⟩
theorem k_516 : tyOk Go.Proofs.Tryz.prog 516 (.agg [(0, 1), (1, 1), (2, 1), (3, 1), (4, 1), (5, 1), (6, 1), (7, 1), (8, 1), (9, 1), (10, 1)] [.sc (.int .u64 0), .sc (.int .u64 0), .sc (.int .u32 0), .sc (.int .u8 0), .sc (.int .u8 0), .sc (.int .u8 0), .sc (.int .u8 0), .sc .nilFunc, .sc (.pointer none), .sc (.int .i32 0), .sc (.int .i32 0)]) := ⟨by kernel_rfl, by kernel_rfl, by kernel_rfl⟩
theorem k_517 : tyOk Go.Proofs.Tryz.prog 517 (.agg [(0, 1), (1, 1), (2, 1), (3, 1), (4, 1), (5, 1), (6, 1), (7, 1), (8, 1), (9, 1), (10, 1)] [.sc (.int .u64 0), .sc (.int .u64 0), .sc (.int .u32 0), .sc (.int .u8 0), .sc (.int .u8 0), .sc (.int .u8 0), .sc (.int .u8 0), .sc .nilFunc, .sc (.pointer none), .sc (.int .i32 0), .sc (.int .i32 0)]) := ⟨by kernel_rfl, by kernel_rfl, by kernel_rfl⟩
theorem sm {p : TyI → Prop} {a : TyI} (h : p a) : ∀ i, some a = some i → p i := fun i e => by injection e with e; subst e; exact h
theorem nn {p : TyI → Prop} : ∀ i, (none : Option TyI) = some i → p i := fun i e => by cases e
def tt : TT := .node (none) (.node (some (.one [.sc .nilFunc])) (.node (some (.one [.sc (.int .i64 0)])) (.node (some (.agg [(0, 1), (1, 1), (2, 1), (3, 1)] [.sc (.int .i64 0), .sc (.int .i64 0), .sc (.bool false), .sc (.int .u8 0)])) (.node (some (.one [.sc (.pointer none)])) (.node (some (.arr 6 3 1 [.sc (.int .i64 0), .sc (.int .i64 0), .sc (.int .i64 0), .sc (.int .i64 0), .sc (.int .i64 0), .sc (.int .i64 0)])) (.node (none) (.node (some (.one [.sc .nilFunc])) (.node (some (.agg [(0, 1), (1, 1), (2, 1), (3, 1), (4, 2), (6, 6), (12, 3), (15, 1)] [.sc (.int .i64 0), .sc (.int .i64 0), .sc (.string ⟨#[]⟩), .sc (.bool false), .sc (.int .i64 0), .sc (.int .i64 0), .sc (.int .i64 0), .sc (.int .i64 0), .sc (.int .i64 0), .sc (.int .i64 0), .sc (.int .i64 0), .sc (.int .i64 0), .sc (.int .i64 0), .sc (.string ⟨#[]⟩), .sc (.string ⟨#[]⟩), .sc (.int .i64 0)])) (.node (some (.one [.sc (.int .u8 0)])) (.leaf) (.leaf)) (.leaf)) (.node (some (.one [.sc .nilFunc])) (.leaf) (.leaf))) (.node (some (.one [.sc .nilFunc])) (.node (some (.one [.sc (.map none)])) (.leaf) (.leaf)) (.node (some (.one [.sc .nilFunc])) (.leaf) (.leaf)))) (.node (some (.one [.sc (.pointer none)])) (.node (some (.one [.sc .nilFunc])) (.leaf) (.node (some (.one [.sc .nilFunc])) (.leaf) (.leaf))) (.node (some (.one [.sc .nilFunc])) (.leaf) (.node (some (.one [.sc .nilFunc])) (.leaf) (.leaf))))) (.node (some (.agg [(0, 1), (1, 2), (3, 1), (4, 1)] [.sc (.int .i64 0), .sc (.int .i64 0), .sc (.int .i64 0), .row [], .row []])) (.node (some (.agg [(0, 2), (2, 2), (4, 1), (5, 1), (6, 1), (7, 1), (8, 3), (11, 1), (12, 1), (13, 1), (14, 1)] [.sc (.int .i64 0), .sc (.int .i64 0), .sc (.int .i64 0), .sc (.int .i64 0), .sc (.int .i64 0), .sc (.string ⟨#[]⟩), .sc (.int .i64 0), .sc (.string ⟨#[]⟩), .sc (.int .i64 0), .sc (.string ⟨#[]⟩), .sc (.string ⟨#[]⟩), .sc (.int .i64 0), .sc (.bool false), .sc (.string ⟨#[]⟩), .row []])) (.node (some (.one [.sc .nilFunc])) (.node (some (.one [.sc .nilFunc])) (.leaf) (.leaf)) (.node (some (.one [.sc .nilFunc])) (.leaf) (.leaf))) (.node (some (.one [.sc .nilFunc])) (.node (some (.one [.sc .nilFunc])) (.leaf) (.leaf)) (.node (some (.one [.sc .nilFunc])) (.leaf) (.leaf)))) (.node (some (.one [.sc .nilFunc])) (.node (none) (.node (some (.one [.sc .nilFunc])) (.leaf) (.leaf)) (.node (some (.one [.sc .nilFunc])) (.leaf) (.leaf))) (.node (some (.one [.sc .nilFunc])) (.node (some (.one [.sc .nilFunc])) (.leaf) (.leaf)) (.node (some (.one [.sc .nilFunc])) (.leaf) (.leaf)))))) (.node (some (.slice 36 12 144)) (.node (some (.one [.sc .nilFunc])) (.node (some (.agg [(0, 3), (3, 1), (4, 1), (5, 1), (6, 1)] [.sc (.int .i64 0), .sc (.string ⟨#[]⟩), .sc (.string ⟨#[]⟩), .sc (.int .i64 0), .sc (.string ⟨#[]⟩), .row [], .sc (.int .i64 0)])) (.node (some (.one [.sc .nilFunc])) (.node (some (.one [.sc .nilFunc])) (.leaf) (.leaf)) (.node (some (.one [.sc .nilFunc])) (.leaf) (.leaf))) (.node (some (.one [.sc .nilFunc])) (.node (some (.one [.sc .nilFunc])) (.leaf) (.leaf)) (.node (some (.one [.sc .nilFunc])) (.leaf) (.leaf)))) (.node (some (.one [.sc (.int .u32 0)])) (.node (some (.agg [(0, 1), (1, 4), (5, 4), (9, 1), (10, 1), (11, 1), (12, 1), (13, 1), (14, 1)] [.sc (.int .i64 0), .row [], .row [], .row [], .row [], .row [], .row [], .row [], .row [], .row [], .sc (.int .i64 0), .sc (.int .i64 0), .sc (.bool false), .sc (.int .i64 0), .sc (.bool false)])) (.node (some (.one [.sc .nilFunc])) (.leaf) (.leaf)) (.node (some (.one [.sc .nilFunc])) (.leaf) (.leaf))) (.node (some (.one [.sc .nilFunc])) (.node (some (.one [.sc .nilFunc])) (.leaf) (.leaf)) (.node (some (.one [.sc .nilFunc])) (.leaf) (.leaf))))) (.node (some (.agg [(0, 5), (5, 6), (11, 1)] [.sc (.int .i64 0), .sc (.int .i64 0), .sc (.int .i64 0), .row [], .row [], .sc (.int .i64 0), .row [], .row [], .sc (.int .i64 0), .sc (.int .i64 0), .sc (.int .i64 0), .row []])) (.node (some (.slice 164 2 40)) (.node (some (.arr 6 34 1 [.row [], .row [], .row [], .row [], .row [], .row []])) (.node (some (.one [.sc .nilFunc])) (.leaf) (.leaf)) (.node (some (.one [.sc .nilFunc])) (.leaf) (.leaf))) (.node (some (.one [.sc .nilFunc])) (.node (some (.one [.sc .nilFunc])) (.leaf) (.leaf)) (.node (some (.one [.sc .nilFunc])) (.leaf) (.leaf)))) (.node (some (.one [.sc .nilFunc])) (.node (some (.one [.sc .nilFunc])) (.node (some (.one [.sc .nilFunc])) (.leaf) (.leaf)) (.leaf)) (.node (none) (.leaf) (.node (some (.one [.sc .nilFunc])) (.leaf) (.leaf))))))) (.node (some (.str)) (.node (some (.agg [(0, 1)] [.sc (.pointer none)])) (.node (some (.agg [(0, 1), (1, 1), (2, 1), (3, 6), (9, 1), (10, 1), (11, 1)] [.sc (.int .i64 0), .sc (.int .i64 0), .sc (.int .i64 0), .sc (.int .i64 0), .sc (.int .i64 0), .sc (.int .i64 0), .sc (.int .i64 0), .sc (.int .i64 0), .sc (.int .i64 0), .row [], .row [], .row []])) (.node (some (.agg [(0, 1), (1, 1), (2, 1)] [.sc (.int .i64 0), .sc (.string ⟨#[]⟩), .sc (.string ⟨#[]⟩)])) (.node (some (.one [.sc .nilFunc])) (.node (some (.one [.sc .nilFunc])) (.node (some (.one [.sc (.int .i32 0)])) (.leaf) (.leaf)) (.leaf)) (.node (some (.one [.sc .nilFunc])) (.leaf) (.leaf))) (.node (some (.one [.sc .nilFunc])) (.node (some (.one [.sc .nilFunc])) (.leaf) (.leaf)) (.node (some (.one [.sc .nilFunc])) (.leaf) (.leaf)))) (.node (some (.one [.sc .nilFunc])) (.node (some (.agg [(0, 1), (1, 1)] [.sc (.string ⟨#[]⟩), .row []])) (.node (some (.one [.sc .nilFunc])) (.leaf) (.leaf)) (.leaf)) (.node (none) (.node (some (.slice 255 16 152)) (.leaf) (.leaf)) (.node (some (.one [.sc .nilFunc])) (.leaf) (.leaf))))) (.node (some (.agg [(0, 1), (1, 1), (2, 1), (3, 1)] [.sc (.int .i64 0), .row [], .row [], .sc (.int .i64 0)])) (.node (some (.one [.sc .nilFunc])) (.node (some (.one [.sc .nilFunc])) (.node (some (.one [.sc .nilFunc])) (.leaf) (.leaf)) (.node (some (.one [.sc .nilFunc])) (.leaf) (.leaf))) (.node (some (.one [.sc .nilFunc])) (.node (some (.one [.sc .nilFunc])) (.leaf) (.leaf)) (.node (some (.one [.sc .nilFunc])) (.leaf) (.leaf)))) (.node (some (.agg [(0, 1), (1, 26), (27, 1), (28, 1)] [.sc (.int .i64 0), .sc (.int .i64 0), .sc (.string ⟨#[]⟩), .sc (.string ⟨#[]⟩), .sc (.int .i64 0), .sc (.string ⟨#[]⟩), .sc (.string ⟨#[]⟩), .sc (.int .i64 0), .sc (.string ⟨#[]⟩), .sc (.int .i64 0), .sc (.int .i64 0), .sc (.int .i64 0), .sc (.int .i64 0), .sc (.string ⟨#[]⟩), .sc (.string ⟨#[]⟩), .sc (.string ⟨#[]⟩), .sc (.string ⟨#[]⟩), .sc (.int .i64 0), .sc (.int .i64 0), .sc (.string ⟨#[]⟩), .sc (.string ⟨#[]⟩), .sc (.int .i64 0), .sc (.string ⟨#[]⟩), .row [], .sc (.int .i64 0), .row [], .row [], .row [], .row []])) (.node (some (.one [.sc .nilFunc])) (.node (some (.one [.sc .nilFunc])) (.leaf) (.leaf)) (.node (some (.one [.sc .nilFunc])) (.leaf) (.leaf))) (.node (none) (.node (some (.one [.sc .nilFunc])) (.leaf) (.leaf)) (.node (some (.one [.sc .nilFunc])) (.leaf) (.leaf)))))) (.node (some (.one [.sc (.pointer none)])) (.node (some (.one [.sc .nilFunc])) (.node (some (.agg [(0, 2), (2, 2), (4, 16)] [.sc (.int .i64 0), .sc (.int .i64 0), .sc (.int .i64 0), .sc (.int .i64 0), .sc (.int .i64 0), .sc (.int .i64 0), .sc (.string ⟨#[]⟩), .sc (.string ⟨#[]⟩), .sc (.string ⟨#[]⟩), .sc (.string ⟨#[]⟩), .sc (.int .i64 0), .sc (.int .i64 0), .sc (.string ⟨#[]⟩), .sc (.string ⟨#[]⟩), .sc (.int .i64 0), .sc (.string ⟨#[]⟩), .row [], .sc (.int .i64 0), .row [], .row []])) (.node (some (.one [.sc .nilFunc])) (.node (some (.one [.sc .nilFunc])) (.leaf) (.leaf)) (.node (some (.one [.sc .nilFunc])) (.leaf) (.leaf))) (.node (some (.one [.sc .nilFunc])) (.node (some (.one [.sc .nilFunc])) (.leaf) (.leaf)) (.node (some (.one [.sc .nilFunc])) (.leaf) (.leaf)))) (.node (some (.one [.sc .nilFunc])) (.node (some (.one [.sc .nilFunc])) (.node (some (.one [.sc .nilFunc])) (.leaf) (.leaf)) (.node (some (.one [.sc .nilFunc])) (.leaf) (.leaf))) (.node (some (.one [.sc (.int .u64 0)])) (.node (some (.one [.sc .nilFunc])) (.leaf) (.leaf)) (.node (some (.one [.sc .nilFunc])) (.leaf) (.leaf))))) (.node (some (.one [.sc .nilFunc])) (.node (some (.agg [(0, 1), (1, 2), (3, 2)] [.sc (.int .i64 0), .sc (.int .i64 0), .sc (.int .i64 0), .row [], .row []])) (.node (none) (.node (some (.one [.sc .nilFunc])) (.leaf) (.leaf)) (.leaf)) (.node (some (.one [.sc .nilFunc])) (.node (some (.one [.sc (.int .u64 0)])) (.leaf) (.leaf)) (.node (some (.one [.sc .nilFunc])) (.leaf) (.leaf)))) (.node (some (.one [.sc .nilFunc])) (.node (some (.one [.sc .nilFunc])) (.node (some (.one [.sc .nilFunc])) (.leaf) (.leaf)) (.node (some (.one [.sc (.int .i64 0)])) (.leaf) (.leaf))) (.node (some (.one [.sc .nilFunc])) (.node (some (.one [.sc .nilFunc])) (.leaf) (.leaf)) (.node (some (.arr 0 16 1 [])) (.leaf) (.leaf)))))))) (.node (some (.one [.sc (.int .u8 0)])) (.node (some (.str)) (.node (some (.one [.sc (.pointer none)])) (.node (some (.slice 76 20 264)) (.node (some (.one [.sc .nilFunc])) (.node (some (.one [.sc .nilFunc])) (.node (some (.one [.sc .nilFunc])) (.node (some (.one [.sc (.pointer none)])) (.leaf) (.leaf)) (.leaf)) (.node (some (.one [.sc .nilFunc])) (.leaf) (.leaf))) (.node (some (.one [.sc .nilFunc])) (.node (some (.agg [(0, 1), (1, 3)] [.sc (.string ⟨#[]⟩), .sc (.int .i64 0), .sc (.string ⟨#[]⟩), .sc (.string ⟨#[]⟩)])) (.leaf) (.leaf)) (.node (some (.one [.sc .nilFunc])) (.leaf) (.leaf)))) (.node (some (.one [.sc .nilFunc])) (.node (some (.one [.sc .nilFunc])) (.node (some (.agg [(0, 1), (1, 1)] [.sc (.string ⟨#[]⟩), .sc (.string ⟨#[]⟩)])) (.leaf) (.leaf)) (.leaf)) (.node (some (.one [.sc .nilFunc])) (.leaf) (.node (some (.one [.sc .nilFunc])) (.leaf) (.leaf))))) (.node (some (.slice 48 1 24)) (.node (some (.one [.sc (.pointer none)])) (.node (some (.one [.sc .nilFunc])) (.node (some (.one [.sc .nilFunc])) (.leaf) (.leaf)) (.node (some (.one [.sc .nilFunc])) (.leaf) (.leaf))) (.node (some (.agg [] [])) (.node (some (.agg [(0, 1), (1, 1), (2, 1), (3, 1)] [.row [], .sc (.int .i64 0), .sc (.int .i64 0), .sc (.bool false)])) (.leaf) (.leaf)) (.node (some (.one [.sc .nilFunc])) (.leaf) (.leaf)))) (.node (some (.one [.sc .nilFunc])) (.node (none) (.node (some (.one [.sc (.pointer none)])) (.leaf) (.leaf)) (.node (some (.one [.sc .nilFunc])) (.leaf) (.leaf))) (.node (some (.agg [(0, 1), (1, 1), (2, 1), (3, 1)] [.sc (.int .i64 0), .sc (.bool false), .sc (.int .i64 0), .row []])) (.leaf) (.node (some (.arr 2 478 1 [.sc (.float .f64 0), .sc (.float .f64 0)])) (.leaf) (.leaf)))))) (.node (some (.one [.sc .nilFunc])) (.node (some (.one [.sc .nilFunc])) (.node (some (.agg [(0, 1), (1, 3), (4, 1), (5, 1), (6, 1), (7, 7), (14, 1), (15, 1)] [.sc (.int .i64 0), .sc (.int .i64 0), .sc (.string ⟨#[]⟩), .sc (.string ⟨#[]⟩), .sc (.string ⟨#[]⟩), .sc (.string ⟨#[]⟩), .sc (.int .i64 0), .sc (.int .i64 0), .sc (.string ⟨#[]⟩), .sc (.string ⟨#[]⟩), .sc (.int .i64 0), .sc (.string ⟨#[]⟩), .row [], .sc (.int .i64 0), .row [], .row []])) (.node (some (.one [.sc .nilFunc])) (.node (some (.one [.sc .nilFunc])) (.leaf) (.leaf)) (.node (some (.one [.sc .nilFunc])) (.leaf) (.leaf))) (.node (some (.agg [(0, 1)] [.sc (.map none)])) (.node (some (.agg [(0, 2), (2, 1)] [.sc (.int .i64 0), .sc (.int .i64 0), .sc (.bool false)])) (.leaf) (.leaf)) (.node (some (.one [.sc (.complex .f64 0 0)])) (.leaf) (.leaf)))) (.node (some (.arrB 256 103 1)) (.node (some (.one [.sc .nilFunc])) (.node (some (.one [.sc .nilFunc])) (.leaf) (.leaf)) (.node (some (.one [.sc .nilFunc])) (.leaf) (.leaf))) (.node (some (.agg [(0, 3), (3, 1), (4, 1)] [.sc (.int .i64 0), .sc (.string ⟨#[]⟩), .sc (.string ⟨#[]⟩), .sc (.int .i64 0), .row []])) (.node (some (.one [.sc .nilFunc])) (.leaf) (.leaf)) (.leaf)))) (.node (some (.one [.sc .nilFunc])) (.node (some (.agg [(0, 1), (1, 1)] [.row [], .row []])) (.node (some (.agg [(0, 6)] [.row [], .row [], .row [], .row [], .row [], .row []])) (.node (some (.one [.sc .nilFunc])) (.leaf) (.leaf)) (.leaf)) (.node (none) (.leaf) (.node (some (.one [.sc (.pointer none)])) (.leaf) (.leaf)))) (.node (some (.one [.sc .nilFunc])) (.node (some (.one [.sc .nilFunc])) (.node (some (.one [.sc .nilFunc])) (.leaf) (.leaf)) (.node (some (.one [.sc .nilFunc])) (.leaf) (.leaf))) (.node (none) (.node (some (.one [.sc .nilFunc])) (.leaf) (.leaf)) (.node (some (.agg [(0, 1), (1, 1), (2, 1), (3, 1)] [.sc (.pointer none), .sc (.pointer none), .sc (.pointer none), .sc (.string ⟨#[]⟩)])) (.leaf) (.leaf))))))) (.node (some (.agg [(0, 1), (1, 1)] [.sc (.string ⟨#[]⟩), .sc (.int .u64 0)])) (.node (some (.one [.sc (.int .i32 0)])) (.node (some (.one [.sc (.int .i64 0)])) (.node (some (.slice 9 1 16)) (.node (some (.one [.sc (.pointer none)])) (.node (some (.one [.sc .nilFunc])) (.node (some (.agg [(0, 1), (1, 1), (2, 1), (3, 1), (4, 1), (5, 1), (6, 1), (7, 1), (8, 1), (9, 1), (10, 1)] [.sc (.int .u64 0), .sc (.int .u64 0), .sc (.int .u32 0), .sc (.int .u8 0), .sc (.int .u8 0), .sc (.int .u8 0), .sc (.int .u8 0), .sc .nilFunc, .sc (.pointer none), .sc (.int .i32 0), .sc (.int .i32 0)])) (.leaf) (.leaf)) (.leaf)) (.node (some (.one [.sc .nilFunc])) (.leaf) (.leaf))) (.node (some (.agg [(0, 20), (20, 1), (21, 1), (22, 1)] [.sc (.int .i64 0), .sc (.int .i64 0), .sc (.int .i64 0), .sc (.int .i64 0), .sc (.int .i64 0), .sc (.int .i64 0), .sc (.string ⟨#[]⟩), .sc (.string ⟨#[]⟩), .sc (.string ⟨#[]⟩), .sc (.string ⟨#[]⟩), .sc (.int .i64 0), .sc (.int .i64 0), .sc (.string ⟨#[]⟩), .sc (.string ⟨#[]⟩), .sc (.int .i64 0), .sc (.string ⟨#[]⟩), .row [], .sc (.int .i64 0), .row [], .row [], .sc (.int .i64 0), .row [], .sc (.int .i64 0)])) (.node (some (.slice 329 3 24)) (.leaf) (.leaf)) (.node (some (.one [.sc .nilFunc])) (.leaf) (.leaf)))) (.node (none) (.node (some (.arr 4 48 1 [.row [], .row [], .row [], .row []])) (.node (some (.one [.sc .nilFunc])) (.leaf) (.leaf)) (.node (some (.one [.sc .nilFunc])) (.leaf) (.leaf))) (.node (some (.one [.sc .nilFunc])) (.node (some (.one [.sc .nilFunc])) (.leaf) (.leaf)) (.node (some (.one [.sc .nilFunc])) (.leaf) (.leaf))))) (.node (some (.agg [(0, 4), (4, 1), (5, 1)] [.sc (.int .i64 0), .row [], .row [], .sc (.int .i64 0), .sc (.int .i64 0), .sc (.int .i64 0)])) (.node (some (.agg [(0, 1), (1, 1), (2, 1), (3, 3), (6, 1), (7, 1), (8, 2), (10, 16)] [.sc (.int .i64 0), .sc (.string ⟨#[]⟩), .sc (.string ⟨#[]⟩), .sc (.int .i64 0), .sc (.string ⟨#[]⟩), .sc (.string ⟨#[]⟩), .sc (.int .i64 0), .sc (.string ⟨#[]⟩), .sc (.int .i64 0), .sc (.int .i64 0), .sc (.int .i64 0), .sc (.int .i64 0), .sc (.string ⟨#[]⟩), .sc (.string ⟨#[]⟩), .sc (.string ⟨#[]⟩), .sc (.string ⟨#[]⟩), .sc (.int .i64 0), .sc (.int .i64 0), .sc (.string ⟨#[]⟩), .sc (.string ⟨#[]⟩), .sc (.int .i64 0), .sc (.string ⟨#[]⟩), .row [], .sc (.int .i64 0), .row [], .row []])) (.node (some (.agg [(0, 1), (1, 1), (2, 1), (3, 2), (5, 1), (6, 1), (7, 1)] [.sc (.pointer none), .sc (.pointer none), .sc (.int .i64 0), .sc (.int .i64 0), .sc (.int .i64 0), .sc (.pointer none), .sc (.pointer none), .sc (.bool false)])) (.node (some (.one [.sc .nilFunc])) (.leaf) (.leaf)) (.node (some (.one [.sc .nilFunc])) (.leaf) (.leaf))) (.node (some (.one [.sc .nilFunc])) (.node (some (.one [.sc .nilFunc])) (.leaf) (.leaf)) (.node (some (.one [.sc (.int .u64 0)])) (.leaf) (.leaf)))) (.node (some (.one [.sc .nilFunc])) (.node (some (.one [.sc .nilFunc])) (.node (some (.one [.sc .nilFunc])) (.leaf) (.leaf)) (.node (some (.one [.sc .nilFunc])) (.leaf) (.leaf))) (.node (none) (.node (some (.one [.sc .nilFunc])) (.leaf) (.leaf)) (.node (some (.one [.sc .nilFunc])) (.leaf) (.leaf)))))) (.node (some (.one [.sc .nilFunc])) (.node (some (.agg [(0, 1), (1, 1)] [.sc (.int .i64 0), .sc (.int .i64 0)])) (.node (some (.one [.sc .nilFunc])) (.node (some (.one [.sc .nilFunc])) (.node (some (.one [.sc (.pointer none)])) (.leaf) (.leaf)) (.node (some (.one [.sc .nilFunc])) (.leaf) (.leaf))) (.node (some (.one [.sc .nilFunc])) (.node (some (.one [.sc .nilFunc])) (.leaf) (.leaf)) (.leaf))) (.node (some (.one [.sc .nilFunc])) (.node (some (.one [.sc (.pointer none)])) (.node (some (.agg [(0, 1), (1, 2), (3, 1), (4, 1), (5, 26)] [.sc (.pointer none), .sc (.int .i64 0), .sc (.int .i64 0), .row [], .row [], .sc (.int .i64 0), .sc (.string ⟨#[]⟩), .sc (.string ⟨#[]⟩), .sc (.int .i64 0), .sc (.string ⟨#[]⟩), .sc (.string ⟨#[]⟩), .sc (.int .i64 0), .sc (.string ⟨#[]⟩), .sc (.int .i64 0), .sc (.int .i64 0), .sc (.int .i64 0), .sc (.int .i64 0), .sc (.string ⟨#[]⟩), .sc (.string ⟨#[]⟩), .sc (.string ⟨#[]⟩), .sc (.string ⟨#[]⟩), .sc (.int .i64 0), .sc (.int .i64 0), .sc (.string ⟨#[]⟩), .sc (.string ⟨#[]⟩), .sc (.int .i64 0), .sc (.string ⟨#[]⟩), .row [], .sc (.int .i64 0), .row [], .row []])) (.leaf) (.leaf)) (.node (some (.one [.sc .nilFunc])) (.leaf) (.leaf))) (.node (some (.one [.sc .nilFunc])) (.node (some (.one [.sc .nilFunc])) (.leaf) (.leaf)) (.node (some (.one [.sc .nilFunc])) (.leaf) (.leaf))))) (.node (some (.one [.sc .nilFunc])) (.node (some (.one [.sc .nilFunc])) (.node (some (.one [.sc .nilFunc])) (.node (some (.one [.sc .nilFunc])) (.leaf) (.leaf)) (.node (some (.one [.sc .nilFunc])) (.leaf) (.leaf))) (.node (some (.one [.sc .nilFunc])) (.node (some (.one [.sc .nilFunc])) (.leaf) (.leaf)) (.node (some (.one [.sc .nilFunc])) (.leaf) (.leaf)))) (.node (some (.one [.sc .nilFunc])) (.node (some (.one [.sc .nilFunc])) (.node (some (.one [.sc .nilFunc])) (.leaf) (.leaf)) (.node (some (.one [.sc .nilFunc])) (.leaf) (.leaf))) (.node (some (.one [.sc .nilFunc])) (.node (some (.one [.sc .nilFunc])) (.leaf) (.leaf)) (.node (some (.agg [(0, 0)] [])) (.leaf) (.leaf))))))))) (.node (some (.one [.sc (.int .i64 0)])) (.node (some (.one [.sc (.bool false)])) (.node (some (.agg [(0, 1), (1, 1), (2, 1), (3, 1)] [.sc (.int .i64 0), .sc (.int .i64 0), .sc (.bool false), .sc (.int .u8 0)])) (.node (some (.one [.sc (.pointer none)])) (.node (some (.slice 45 2 16)) (.node (some (.one [.sc .nilFunc])) (.node (some (.one [.sc .nilFunc])) (.node (none) (.node (some (.one [.sc .nilFunc])) (.leaf) (.leaf)) (.leaf)) (.node (some (.one [.sc .nilFunc])) (.leaf) (.leaf))) (.node (some (.one [.sc .nilFunc])) (.node (some (.one [.sc .nilFunc])) (.leaf) (.leaf)) (.leaf))) (.node (none) (.node (none) (.node (some (.one [.sc .nilFunc])) (.leaf) (.leaf)) (.node (some (.one [.sc .nilFunc])) (.leaf) (.leaf))) (.node (some (.one [.sc .nilFunc])) (.node (some (.one [.sc .nilFunc])) (.leaf) (.leaf)) (.node (some (.one [.sc .nilFunc])) (.leaf) (.leaf))))) (.node (some (.slice 5 1 1)) (.node (some (.one [.sc .nilFunc])) (.node (some (.one [.sc .nilFunc])) (.node (some (.one [.sc .nilFunc])) (.leaf) (.leaf)) (.node (some (.one [.sc .nilFunc])) (.leaf) (.leaf))) (.node (some (.one [.sc (.map none)])) (.node (some (.agg [(0, 1), (1, 1), (2, 1), (3, 1)] [.row [], .sc (.int .i64 0), .sc (.int .i64 0), .sc (.bool false)])) (.leaf) (.leaf)) (.node (some (.one [.sc .nilFunc])) (.leaf) (.leaf)))) (.node (none) (.node (some (.one [.sc .nilFunc])) (.node (some (.one [.sc .nilFunc])) (.leaf) (.leaf)) (.node (some (.one [.sc .nilFunc])) (.leaf) (.leaf))) (.node (some (.one [.sc .nilFunc])) (.node (some (.one [.sc .nilFunc])) (.leaf) (.leaf)) (.node (some (.one [.sc .nilFunc])) (.leaf) (.leaf)))))) (.node (some (.one [.sc .nilFunc])) (.node (none) (.node (some (.slice 290 2 32)) (.node (some (.one [.sc .nilFunc])) (.leaf) (.leaf)) (.node (some (.one [.sc (.map none)])) (.node (some (.agg [(0, 2), (2, 1)] [.sc (.int .i64 0), .sc (.int .i64 0), .sc (.bool false)])) (.leaf) (.leaf)) (.node (some (.one [.sc .nilFunc])) (.leaf) (.leaf)))) (.node (some (.arrB 256 103 1)) (.node (some (.agg [(0, 1), (1, 4), (5, 4), (9, 1), (10, 1), (11, 1), (12, 1), (13, 1), (14, 1)] [.sc (.int .i64 0), .row [], .row [], .row [], .row [], .row [], .row [], .row [], .row [], .row [], .sc (.int .i64 0), .sc (.int .i64 0), .sc (.bool false), .sc (.int .i64 0), .sc (.bool false)])) (.node (some (.one [.sc .nilFunc])) (.leaf) (.leaf)) (.node (some (.one [.sc .nilFunc])) (.leaf) (.leaf))) (.node (some (.agg [(0, 3), (3, 1), (4, 1)] [.sc (.int .i64 0), .sc (.string ⟨#[]⟩), .sc (.string ⟨#[]⟩), .sc (.int .i64 0), .row []])) (.node (some (.one [.sc .nilFunc])) (.leaf) (.leaf)) (.node (some (.one [.sc (.pointer none)])) (.leaf) (.leaf))))) (.node (some (.agg [(0, 5), (5, 6), (11, 1)] [.sc (.int .i64 0), .sc (.int .i64 0), .sc (.int .i64 0), .row [], .row [], .sc (.int .i64 0), .row [], .row [], .sc (.int .i64 0), .sc (.int .i64 0), .sc (.int .i64 0), .row []])) (.node (some (.agg [(0, 1), (1, 1)] [.row [], .row []])) (.node (some (.agg [(0, 6)] [.row [], .row [], .row [], .row [], .row [], .row []])) (.node (some (.one [.sc .nilFunc])) (.leaf) (.leaf)) (.node (some (.one [.sc .nilFunc])) (.leaf) (.leaf))) (.node (some (.one [.sc .nilFunc])) (.node (some (.one [.sc .nilFunc])) (.leaf) (.leaf)) (.node (some (.one [.sc .nilFunc])) (.leaf) (.leaf)))) (.node (some (.one [.sc .nilFunc])) (.node (none) (.node (some (.slice 68 3 40)) (.leaf) (.leaf)) (.node (some (.one [.sc .nilFunc])) (.leaf) (.leaf))) (.node (none) (.node (some (.one [.sc .nilFunc])) (.leaf) (.leaf)) (.node (some (.one [.sc .nilFunc])) (.leaf) (.leaf))))))) (.node (some (.one [.sc (.int .u64 0)])) (.node (none) (.node (some (.agg [(0, 1), (1, 1), (2, 1), (3, 6), (9, 1), (10, 1), (11, 1)] [.sc (.int .i64 0), .sc (.int .i64 0), .sc (.int .i64 0), .sc (.int .i64 0), .sc (.int .i64 0), .sc (.int .i64 0), .sc (.int .i64 0), .sc (.int .i64 0), .sc (.int .i64 0), .row [], .row [], .row []])) (.node (some (.agg [(0, 1), (1, 1), (2, 1)] [.sc (.int .i64 0), .sc (.string ⟨#[]⟩), .sc (.string ⟨#[]⟩)])) (.node (some (.one [.sc .nilFunc])) (.node (none) (.node (some (.agg [(0, 1), (1, 1), (2, 1), (3, 1), (4, 1), (5, 1), (6, 1), (7, 1), (8, 1), (9, 1), (10, 1)] [.sc (.int .u64 0), .sc (.int .u64 0), .sc (.int .u32 0), .sc (.int .u8 0), .sc (.int .u8 0), .sc (.int .u8 0), .sc (.int .u8 0), .sc .nilFunc, .sc (.pointer none), .sc (.int .i32 0), .sc (.int .i32 0)])) (.leaf) (.leaf)) (.leaf)) (.node (some (.one [.sc .nilFunc])) (.leaf) (.leaf))) (.node (some (.agg [(0, 20), (20, 1), (21, 1), (22, 1)] [.sc (.int .i64 0), .sc (.int .i64 0), .sc (.int .i64 0), .sc (.int .i64 0), .sc (.int .i64 0), .sc (.int .i64 0), .sc (.string ⟨#[]⟩), .sc (.string ⟨#[]⟩), .sc (.string ⟨#[]⟩), .sc (.string ⟨#[]⟩), .sc (.int .i64 0), .sc (.int .i64 0), .sc (.string ⟨#[]⟩), .sc (.string ⟨#[]⟩), .sc (.int .i64 0), .sc (.string ⟨#[]⟩), .row [], .sc (.int .i64 0), .row [], .row [], .sc (.int .i64 0), .row [], .sc (.int .i64 0)])) (.node (some (.one [.sc .nilFunc])) (.leaf) (.leaf)) (.node (some (.one [.sc .nilFunc])) (.leaf) (.leaf)))) (.node (some (.one [.sc (.pointer none)])) (.node (some (.agg [(0, 1), (1, 1)] [.sc (.string ⟨#[]⟩), .row []])) (.node (some (.one [.sc .nilFunc])) (.leaf) (.leaf)) (.node (some (.one [.sc .nilFunc])) (.leaf) (.leaf))) (.node (some (.one [.sc .nilFunc])) (.leaf) (.node (some (.one [.sc .nilFunc])) (.leaf) (.leaf))))) (.node (some (.agg [(0, 4), (4, 1), (5, 1)] [.sc (.int .i64 0), .row [], .row [], .sc (.int .i64 0), .sc (.int .i64 0), .sc (.int .i64 0)])) (.node (some (.agg [(0, 1), (1, 1), (2, 1), (3, 3), (6, 1), (7, 1), (8, 2), (10, 16)] [.sc (.int .i64 0), .sc (.string ⟨#[]⟩), .sc (.string ⟨#[]⟩), .sc (.int .i64 0), .sc (.string ⟨#[]⟩), .sc (.string ⟨#[]⟩), .sc (.int .i64 0), .sc (.string ⟨#[]⟩), .sc (.int .i64 0), .sc (.int .i64 0), .sc (.int .i64 0), .sc (.int .i64 0), .sc (.string ⟨#[]⟩), .sc (.string ⟨#[]⟩), .sc (.string ⟨#[]⟩), .sc (.string ⟨#[]⟩), .sc (.int .i64 0), .sc (.int .i64 0), .sc (.string ⟨#[]⟩), .sc (.string ⟨#[]⟩), .sc (.int .i64 0), .sc (.string ⟨#[]⟩), .row [], .sc (.int .i64 0), .row [], .row []])) (.node (some (.one [.sc .nilFunc])) (.node (some (.one [.sc .nilFunc])) (.leaf) (.leaf)) (.node (some (.one [.sc .nilFunc])) (.leaf) (.leaf))) (.node (some (.one [.sc .nilFunc])) (.leaf) (.node (some (.one [.sc .nilFunc])) (.leaf) (.leaf)))) (.node (some (.one [.sc .nilFunc])) (.node (some (.one [.sc .nilFunc])) (.node (some (.one [.sc .nilFunc])) (.leaf) (.leaf)) (.node (some (.one [.sc .nilFunc])) (.leaf) (.leaf))) (.node (some (.one [.sc .nilFunc])) (.node (some (.one [.sc .nilFunc])) (.leaf) (.leaf)) (.node (some (.one [.sc .nilFunc])) (.leaf) (.leaf)))))) (.node (none) (.node (some (.agg [(0, 1), (1, 1)] [.sc (.int .i64 0), .sc (.int .i64 0)])) (.node (some (.agg [(0, 2), (2, 2), (4, 16)] [.sc (.int .i64 0), .sc (.int .i64 0), .sc (.int .i64 0), .sc (.int .i64 0), .sc (.int .i64 0), .sc (.int .i64 0), .sc (.string ⟨#[]⟩), .sc (.string ⟨#[]⟩), .sc (.string ⟨#[]⟩), .sc (.string ⟨#[]⟩), .sc (.int .i64 0), .sc (.int .i64 0), .sc (.string ⟨#[]⟩), .sc (.string ⟨#[]⟩), .sc (.int .i64 0), .sc (.string ⟨#[]⟩), .row [], .sc (.int .i64 0), .row [], .row []])) (.node (some (.one [.sc .nilFunc])) (.node (some (.one [.sc .nilFunc])) (.leaf) (.leaf)) (.node (some (.one [.sc .nilFunc])) (.leaf) (.leaf))) (.node (some (.one [.sc .nilFunc])) (.node (some (.one [.sc .nilFunc])) (.leaf) (.leaf)) (.node (some (.one [.sc .nilFunc])) (.leaf) (.leaf)))) (.node (none) (.node (some (.one [.sc (.pointer none)])) (.node (some (.one [.sc .nilFunc])) (.leaf) (.leaf)) (.leaf)) (.node (some (.one [.sc (.pointer none)])) (.node (some (.one [.sc .nilFunc])) (.leaf) (.leaf)) (.node (some (.one [.sc .nilFunc])) (.leaf) (.leaf))))) (.node (some (.one [.sc .nilFunc])) (.node (some (.one [.sc .nilFunc])) (.node (some (.one [.sc .nilFunc])) (.node (some (.one [.sc .nilFunc])) (.leaf) (.leaf)) (.node (some (.one [.sc .nilFunc])) (.leaf) (.leaf))) (.node (some (.one [.sc .nilFunc])) (.node (some (.one [.sc .nilFunc])) (.leaf) (.leaf)) (.node (some (.one [.sc .nilFunc])) (.leaf) (.leaf)))) (.node (some (.slice 3 1 8)) (.node (none) (.node (some (.one [.sc .nilFunc])) (.leaf) (.leaf)) (.leaf)) (.node (some (.one [.sc .nilFunc])) (.node (some (.one [.sc .nilFunc])) (.leaf) (.leaf)) (.node (some (.agg [(0, 0)] [])) (.leaf) (.leaf)))))))) (.node (some (.one [.sc (.int .u8 0)])) (.node (some (.str)) (.node (some (.agg [(0, 1)] [.sc (.pointer none)])) (.node (some (.slice 79 15 176)) (.node (some (.one [.sc .nilFunc])) (.node (some (.one [.sc .nilFunc])) (.node (none) (.node (some (.one [.sc (.int .i32 0)])) (.leaf) (.leaf)) (.leaf)) (.node (some (.one [.sc .nilFunc])) (.leaf) (.leaf))) (.node (some (.one [.sc .nilFunc])) (.node (some (.agg [(0, 1), (1, 3)] [.sc (.string ⟨#[]⟩), .sc (.int .i64 0), .sc (.string ⟨#[]⟩), .sc (.string ⟨#[]⟩)])) (.leaf) (.leaf)) (.node (some (.one [.sc .nilFunc])) (.leaf) (.leaf)))) (.node (none) (.node (some (.one [.sc .nilFunc])) (.node (some (.agg [(0, 1), (1, 1)] [.sc (.string ⟨#[]⟩), .sc (.string ⟨#[]⟩)])) (.leaf) (.leaf)) (.node (some (.one [.sc .nilFunc])) (.leaf) (.leaf))) (.node (some (.slice 74 16 232)) (.node (some (.one [.sc .nilFunc])) (.leaf) (.leaf)) (.node (some (.one [.sc .nilFunc])) (.leaf) (.leaf))))) (.node (some (.agg [(0, 1), (1, 1), (2, 1), (3, 1)] [.sc (.int .i64 0), .row [], .row [], .sc (.int .i64 0)])) (.node (some (.one [.sc .nilFunc])) (.node (some (.one [.sc .nilFunc])) (.node (some (.one [.sc .nilFunc])) (.leaf) (.leaf)) (.node (some (.one [.sc .nilFunc])) (.leaf) (.leaf))) (.leaf)) (.node (some (.agg [(0, 1), (1, 26), (27, 1), (28, 1)] [.sc (.int .i64 0), .sc (.int .i64 0), .sc (.string ⟨#[]⟩), .sc (.string ⟨#[]⟩), .sc (.int .i64 0), .sc (.string ⟨#[]⟩), .sc (.string ⟨#[]⟩), .sc (.int .i64 0), .sc (.string ⟨#[]⟩), .sc (.int .i64 0), .sc (.int .i64 0), .sc (.int .i64 0), .sc (.int .i64 0), .sc (.string ⟨#[]⟩), .sc (.string ⟨#[]⟩), .sc (.string ⟨#[]⟩), .sc (.string ⟨#[]⟩), .sc (.int .i64 0), .sc (.int .i64 0), .sc (.string ⟨#[]⟩), .sc (.string ⟨#[]⟩), .sc (.int .i64 0), .sc (.string ⟨#[]⟩), .row [], .sc (.int .i64 0), .row [], .row [], .row [], .row []])) (.node (some (.one [.sc .nilFunc])) (.leaf) (.node (some (.one [.sc .nilFunc])) (.leaf) (.leaf))) (.node (some (.agg [(0, 1), (1, 1), (2, 1), (3, 1)] [.sc (.int .i64 0), .sc (.bool false), .sc (.int .i64 0), .row []])) (.node (some (.one [.sc .nilFunc])) (.leaf) (.leaf)) (.node (some (.one [.sc .nilFunc])) (.leaf) (.leaf)))))) (.node (some (.one [.sc (.pointer none)])) (.node (some (.one [.sc .nilFunc])) (.node (some (.agg [(0, 1), (1, 3), (4, 1), (5, 1), (6, 1), (7, 7), (14, 1), (15, 1)] [.sc (.int .i64 0), .sc (.int .i64 0), .sc (.string ⟨#[]⟩), .sc (.string ⟨#[]⟩), .sc (.string ⟨#[]⟩), .sc (.string ⟨#[]⟩), .sc (.int .i64 0), .sc (.int .i64 0), .sc (.string ⟨#[]⟩), .sc (.string ⟨#[]⟩), .sc (.int .i64 0), .sc (.string ⟨#[]⟩), .row [], .sc (.int .i64 0), .row [], .row []])) (.node (some (.one [.sc .nilFunc])) (.node (some (.one [.sc .nilFunc])) (.leaf) (.leaf)) (.node (some (.one [.sc .nilFunc])) (.leaf) (.leaf))) (.node (some (.agg [(0, 1)] [.sc (.map none)])) (.leaf) (.leaf))) (.node (some (.one [.sc .nilFunc])) (.node (some (.one [.sc .nilFunc])) (.node (some (.one [.sc .nilFunc])) (.leaf) (.leaf)) (.leaf)) (.node (some (.one [.sc .nilFunc])) (.node (some (.one [.sc .nilFunc])) (.leaf) (.leaf)) (.node (some (.one [.sc .nilFunc])) (.leaf) (.leaf))))) (.node (some (.one [.sc .nilFunc])) (.node (some (.agg [(0, 1), (1, 2), (3, 2)] [.sc (.int .i64 0), .sc (.int .i64 0), .sc (.int .i64 0), .row [], .row []])) (.node (some (.slice 71 7 96)) (.node (some (.one [.sc .nilFunc])) (.leaf) (.leaf)) (.node (some (.one [.sc .nilFunc])) (.leaf) (.leaf))) (.node (some (.one [.sc .nilFunc])) (.node (some (.one [.sc .nilFunc])) (.leaf) (.leaf)) (.node (some (.one [.sc .nilFunc])) (.leaf) (.leaf)))) (.node (some (.one [.sc .nilFunc])) (.node (some (.one [.sc .nilFunc])) (.node (some (.one [.sc .nilFunc])) (.leaf) (.leaf)) (.node (some (.one [.sc .nilFunc])) (.leaf) (.leaf))) (.node (none) (.node (some (.one [.sc .nilFunc])) (.leaf) (.leaf)) (.node (some (.agg [(0, 1), (1, 1), (2, 1), (3, 1)] [.sc (.pointer none), .sc (.pointer none), .sc (.pointer none), .sc (.string ⟨#[]⟩)])) (.leaf) (.leaf))))))) (.node (some (.agg [(0, 1), (1, 1)] [.sc (.string ⟨#[]⟩), .sc (.int .u64 0)])) (.node (some (.slice 115 29 408)) (.node (none) (.node (some (.agg [(0, 3), (3, 1), (4, 1), (5, 1), (6, 1)] [.sc (.int .i64 0), .sc (.string ⟨#[]⟩), .sc (.string ⟨#[]⟩), .sc (.int .i64 0), .sc (.string ⟨#[]⟩), .row [], .sc (.int .i64 0)])) (.node (some (.one [.sc .nilFunc])) (.leaf) (.node (some (.one [.sc .nilFunc])) (.leaf) (.leaf))) (.node (some (.one [.sc .nilFunc])) (.leaf) (.node (some (.one [.sc .nilFunc])) (.leaf) (.leaf)))) (.node (some (.one [.sc .nilFunc])) (.node (some (.slice 242 4 48)) (.leaf) (.node (some (.one [.sc .nilFunc])) (.leaf) (.leaf))) (.node (some (.one [.sc .nilFunc])) (.node (some (.one [.sc .nilFunc])) (.leaf) (.leaf)) (.node (some (.one [.sc .nilFunc])) (.leaf) (.leaf))))) (.node (some (.slice 47 5 72)) (.node (some (.slice 233 5 72)) (.node (some (.agg [(0, 1), (1, 1), (2, 1), (3, 2), (5, 1), (6, 1), (7, 1)] [.sc (.pointer none), .sc (.pointer none), .sc (.int .i64 0), .sc (.int .i64 0), .sc (.int .i64 0), .sc (.pointer none), .sc (.pointer none), .sc (.bool false)])) (.node (some (.one [.sc .nilFunc])) (.leaf) (.leaf)) (.node (some (.one [.sc .nilFunc])) (.leaf) (.leaf))) (.node (some (.one [.sc .nilFunc])) (.node (some (.one [.sc .nilFunc])) (.leaf) (.leaf)) (.node (some (.one [.sc .nilFunc])) (.leaf) (.leaf)))) (.node (none) (.node (some (.one [.sc .nilFunc])) (.leaf) (.node (some (.one [.sc .nilFunc])) (.leaf) (.leaf))) (.node (some (.one [.sc .nilFunc])) (.node (some (.one [.sc .nilFunc])) (.leaf) (.leaf)) (.node (some (.one [.sc .nilFunc])) (.leaf) (.leaf)))))) (.node (some (.arr 6 3 1 [.sc (.int .i64 0), .sc (.int .i64 0), .sc (.int .i64 0), .sc (.int .i64 0), .sc (.int .i64 0), .sc (.int .i64 0)])) (.node (some (.agg [(0, 1), (1, 2), (3, 1), (4, 1)] [.sc (.int .i64 0), .sc (.int .i64 0), .sc (.int .i64 0), .row [], .row []])) (.node (some (.agg [(0, 2), (2, 2), (4, 1), (5, 1), (6, 1), (7, 1), (8, 3), (11, 1), (12, 1), (13, 1), (14, 1)] [.sc (.int .i64 0), .sc (.int .i64 0), .sc (.int .i64 0), .sc (.int .i64 0), .sc (.int .i64 0), .sc (.string ⟨#[]⟩), .sc (.int .i64 0), .sc (.string ⟨#[]⟩), .sc (.int .i64 0), .sc (.string ⟨#[]⟩), .sc (.string ⟨#[]⟩), .sc (.int .i64 0), .sc (.bool false), .sc (.string ⟨#[]⟩), .row []])) (.node (some (.one [.sc .nilFunc])) (.node (some (.one [.sc .nilFunc])) (.leaf) (.leaf)) (.leaf)) (.node (some (.one [.sc .nilFunc])) (.leaf) (.node (some (.one [.sc .nilFunc])) (.leaf) (.leaf)))) (.node (some (.one [.sc .nilFunc])) (.node (none) (.node (some (.agg [(0, 1), (1, 2), (3, 1), (4, 1), (5, 26)] [.sc (.pointer none), .sc (.int .i64 0), .sc (.int .i64 0), .row [], .row [], .sc (.int .i64 0), .sc (.string ⟨#[]⟩), .sc (.string ⟨#[]⟩), .sc (.int .i64 0), .sc (.string ⟨#[]⟩), .sc (.string ⟨#[]⟩), .sc (.int .i64 0), .sc (.string ⟨#[]⟩), .sc (.int .i64 0), .sc (.int .i64 0), .sc (.int .i64 0), .sc (.int .i64 0), .sc (.string ⟨#[]⟩), .sc (.string ⟨#[]⟩), .sc (.string ⟨#[]⟩), .sc (.string ⟨#[]⟩), .sc (.int .i64 0), .sc (.int .i64 0), .sc (.string ⟨#[]⟩), .sc (.string ⟨#[]⟩), .sc (.int .i64 0), .sc (.string ⟨#[]⟩), .row [], .sc (.int .i64 0), .row [], .row []])) (.leaf) (.leaf)) (.leaf)) (.node (some (.one [.sc .nilFunc])) (.node (some (.one [.sc .nilFunc])) (.leaf) (.leaf)) (.leaf)))) (.node (some (.one [.sc .nilFunc])) (.node (some (.one [.sc .nilFunc])) (.node (some (.one [.sc .nilFunc])) (.node (some (.one [.sc .nilFunc])) (.leaf) (.leaf)) (.node (some (.one [.sc .nilFunc])) (.leaf) (.leaf))) (.node (some (.one [.sc .nilFunc])) (.node (some (.one [.sc .nilFunc])) (.leaf) (.leaf)) (.node (some (.one [.sc (.float .f64 0)])) (.leaf) (.leaf)))) (.node (some (.one [.sc .nilFunc])) (.node (some (.one [.sc .nilFunc])) (.node (some (.one [.sc .nilFunc])) (.leaf) (.leaf)) (.node (some (.one [.sc .nilFunc])) (.leaf) (.leaf))) (.node (some (.agg [(0, 1), (1, 1), (2, 1), (3, 1), (4, 2), (6, 6), (12, 3), (15, 1)] [.sc (.int .i64 0), .sc (.int .i64 0), .sc (.string ⟨#[]⟩), .sc (.bool false), .sc (.int .i64 0), .sc (.int .i64 0), .sc (.int .i64 0), .sc (.int .i64 0), .sc (.int .i64 0), .sc (.int .i64 0), .sc (.int .i64 0), .sc (.int .i64 0), .sc (.int .i64 0), .sc (.string ⟨#[]⟩), .sc (.string ⟨#[]⟩), .sc (.int .i64 0)])) (.node (some (.one [.sc .nilFunc])) (.leaf) (.leaf)) (.node (some (.one [.sc (.int .u8 0)])) (.leaf) (.leaf)))))))))
theorem all : tt.all (tyOk Go.Proofs.Tryz.prog) := (TT.mk nn (TT.mk (sm k_1) (TT.mk (sm k_3) (TT.mk (sm k_7) (TT.mk (sm k_15) (TT.mk (sm k_31) (TT.mk nn (TT.mk (sm k_127) (TT.mk (sm k_255) (TT.mk (sm k_511) trivial trivial) trivial) (TT.mk (sm k_383) trivial trivial)) (TT.mk (sm k_191) (TT.mk (sm k_319) trivial trivial) (TT.mk (sm k_447) trivial trivial))) (TT.mk (sm k_95) (TT.mk (sm k_159) trivial (TT.mk (sm k_415) trivial trivial)) (TT.mk (sm k_223) trivial (TT.mk (sm k_479) trivial trivial)))) (TT.mk (sm k_47) (TT.mk (sm k_79) (TT.mk (sm k_143) (TT.mk (sm k_271) trivial trivial) (TT.mk (sm k_399) trivial trivial)) (TT.mk (sm k_207) (TT.mk (sm k_335) trivial trivial) (TT.mk (sm k_463) trivial trivial))) (TT.mk (sm k_111) (TT.mk nn (TT.mk (sm k_303) trivial trivial) (TT.mk (sm k_431) trivial trivial)) (TT.mk (sm k_239) (TT.mk (sm k_367) trivial trivial) (TT.mk (sm k_495) trivial trivial))))) (TT.mk (sm k_23) (TT.mk (sm k_39) (TT.mk (sm k_71) (TT.mk (sm k_135) (TT.mk (sm k_263) trivial trivial) (TT.mk (sm k_391) trivial trivial)) (TT.mk (sm k_199) (TT.mk (sm k_327) trivial trivial) (TT.mk (sm k_455) trivial trivial))) (TT.mk (sm k_103) (TT.mk (sm k_167) (TT.mk (sm k_295) trivial trivial) (TT.mk (sm k_423) trivial trivial)) (TT.mk (sm k_231) (TT.mk (sm k_359) trivial trivial) (TT.mk (sm k_487) trivial trivial)))) (TT.mk (sm k_55) (TT.mk (sm k_87) (TT.mk (sm k_151) (TT.mk (sm k_279) trivial trivial) (TT.mk (sm k_407) trivial trivial)) (TT.mk (sm k_215) (TT.mk (sm k_343) trivial trivial) (TT.mk (sm k_471) trivial trivial))) (TT.mk (sm k_119) (TT.mk (sm k_183) (TT.mk (sm k_311) trivial trivial) trivial) (TT.mk nn trivial (TT.mk (sm k_503) trivial trivial)))))) (TT.mk (sm k_11) (TT.mk (sm k_19) (TT.mk (sm k_35) (TT.mk (sm k_67) (TT.mk (sm k_131) (TT.mk (sm k_259) (TT.mk (sm k_515) trivial trivial) trivial) (TT.mk (sm k_387) trivial trivial)) (TT.mk (sm k_195) (TT.mk (sm k_323) trivial trivial) (TT.mk (sm k_451) trivial trivial))) (TT.mk (sm k_99) (TT.mk (sm k_163) (TT.mk (sm k_291) trivial trivial) trivial) (TT.mk nn (TT.mk (sm k_355) trivial trivial) (TT.mk (sm k_483) trivial trivial)))) (TT.mk (sm k_51) (TT.mk (sm k_83) (TT.mk (sm k_147) (TT.mk (sm k_275) trivial trivial) (TT.mk (sm k_403) trivial trivial)) (TT.mk (sm k_211) (TT.mk (sm k_339) trivial trivial) (TT.mk (sm k_467) trivial trivial))) (TT.mk (sm k_115) (TT.mk (sm k_179) (TT.mk (sm k_307) trivial trivial) (TT.mk (sm k_435) trivial trivial)) (TT.mk nn (TT.mk (sm k_371) trivial trivial) (TT.mk (sm k_499) trivial trivial))))) (TT.mk (sm k_27) (TT.mk (sm k_43) (TT.mk (sm k_75) (TT.mk (sm k_139) (TT.mk (sm k_267) trivial trivial) (TT.mk (sm k_395) trivial trivial)) (TT.mk (sm k_203) (TT.mk (sm k_331) trivial trivial) (TT.mk (sm k_459) trivial trivial))) (TT.mk (sm k_107) (TT.mk (sm k_171) (TT.mk (sm k_299) trivial trivial) (TT.mk (sm k_427) trivial trivial)) (TT.mk (sm k_235) (TT.mk (sm k_363) trivial trivial) (TT.mk (sm k_491) trivial trivial)))) (TT.mk (sm k_59) (TT.mk (sm k_91) (TT.mk nn (TT.mk (sm k_283) trivial trivial) trivial) (TT.mk (sm k_219) (TT.mk (sm k_347) trivial trivial) (TT.mk (sm k_475) trivial trivial))) (TT.mk (sm k_123) (TT.mk (sm k_187) (TT.mk (sm k_315) trivial trivial) (TT.mk (sm k_443) trivial trivial)) (TT.mk (sm k_251) (TT.mk (sm k_379) trivial trivial) (TT.mk (sm k_507) trivial trivial))))))) (TT.mk (sm k_5) (TT.mk (sm k_9) (TT.mk (sm k_17) (TT.mk (sm k_33) (TT.mk (sm k_65) (TT.mk (sm k_129) (TT.mk (sm k_257) (TT.mk (sm k_513) trivial trivial) trivial) (TT.mk (sm k_385) trivial trivial)) (TT.mk (sm k_193) (TT.mk (sm k_321) trivial trivial) (TT.mk (sm k_449) trivial trivial))) (TT.mk (sm k_97) (TT.mk (sm k_161) (TT.mk (sm k_289) trivial trivial) trivial) (TT.mk (sm k_225) trivial (TT.mk (sm k_481) trivial trivial)))) (TT.mk (sm k_49) (TT.mk (sm k_81) (TT.mk (sm k_145) (TT.mk (sm k_273) trivial trivial) (TT.mk (sm k_401) trivial trivial)) (TT.mk (sm k_209) (TT.mk (sm k_337) trivial trivial) (TT.mk (sm k_465) trivial trivial))) (TT.mk (sm k_113) (TT.mk nn (TT.mk (sm k_305) trivial trivial) (TT.mk (sm k_433) trivial trivial)) (TT.mk (sm k_241) trivial (TT.mk (sm k_497) trivial trivial))))) (TT.mk (sm k_25) (TT.mk (sm k_41) (TT.mk (sm k_73) (TT.mk (sm k_137) (TT.mk (sm k_265) trivial trivial) (TT.mk (sm k_393) trivial trivial)) (TT.mk (sm k_201) (TT.mk (sm k_329) trivial trivial) (TT.mk (sm k_457) trivial trivial))) (TT.mk (sm k_105) (TT.mk (sm k_169) (TT.mk (sm k_297) trivial trivial) (TT.mk (sm k_425) trivial trivial)) (TT.mk (sm k_233) (TT.mk (sm k_361) trivial trivial) trivial))) (TT.mk (sm k_57) (TT.mk (sm k_89) (TT.mk (sm k_153) (TT.mk (sm k_281) trivial trivial) trivial) (TT.mk nn trivial (TT.mk (sm k_473) trivial trivial))) (TT.mk (sm k_121) (TT.mk (sm k_185) (TT.mk (sm k_313) trivial trivial) (TT.mk (sm k_441) trivial trivial)) (TT.mk nn (TT.mk (sm k_377) trivial trivial) (TT.mk (sm k_505) trivial trivial)))))) (TT.mk (sm k_13) (TT.mk (sm k_21) (TT.mk (sm k_37) (TT.mk (sm k_69) (TT.mk (sm k_133) (TT.mk (sm k_261) (TT.mk (sm k_517) trivial trivial) trivial) (TT.mk (sm k_389) trivial trivial)) (TT.mk (sm k_197) (TT.mk (sm k_325) trivial trivial) (TT.mk (sm k_453) trivial trivial))) (TT.mk nn (TT.mk (sm k_165) (TT.mk (sm k_293) trivial trivial) (TT.mk (sm k_421) trivial trivial)) (TT.mk (sm k_229) (TT.mk (sm k_357) trivial trivial) (TT.mk (sm k_485) trivial trivial)))) (TT.mk (sm k_53) (TT.mk (sm k_85) (TT.mk (sm k_149) (TT.mk (sm k_277) trivial trivial) (TT.mk (sm k_405) trivial trivial)) (TT.mk (sm k_213) (TT.mk (sm k_341) trivial trivial) (TT.mk (sm k_469) trivial trivial))) (TT.mk (sm k_117) (TT.mk (sm k_181) (TT.mk (sm k_309) trivial trivial) (TT.mk (sm k_437) trivial trivial)) (TT.mk nn (TT.mk (sm k_373) trivial trivial) (TT.mk (sm k_501) trivial trivial))))) (TT.mk (sm k_29) (TT.mk (sm k_45) (TT.mk (sm k_77) (TT.mk (sm k_141) (TT.mk (sm k_269) trivial trivial) (TT.mk (sm k_397) trivial trivial)) (TT.mk (sm k_205) (TT.mk (sm k_333) trivial trivial) trivial)) (TT.mk (sm k_109) (TT.mk (sm k_173) (TT.mk (sm k_301) trivial trivial) (TT.mk (sm k_429) trivial trivial)) (TT.mk (sm k_237) (TT.mk (sm k_365) trivial trivial) (TT.mk (sm k_493) trivial trivial)))) (TT.mk (sm k_61) (TT.mk (sm k_93) (TT.mk (sm k_157) (TT.mk (sm k_285) trivial trivial) (TT.mk (sm k_413) trivial trivial)) (TT.mk (sm k_221) (TT.mk (sm k_349) trivial trivial) (TT.mk (sm k_477) trivial trivial))) (TT.mk (sm k_125) (TT.mk (sm k_189) (TT.mk (sm k_317) trivial trivial) (TT.mk (sm k_445) trivial trivial)) (TT.mk (sm k_253) (TT.mk (sm k_381) trivial trivial) (TT.mk (sm k_509) trivial trivial)))))))) (TT.mk (sm k_2) (TT.mk (sm k_4) (TT.mk (sm k_8) (TT.mk (sm k_16) (TT.mk (sm k_32) (TT.mk (sm k_64) (TT.mk (sm k_128) (TT.mk nn (TT.mk (sm k_512) trivial trivial) trivial) (TT.mk (sm k_384) trivial trivial)) (TT.mk (sm k_192) (TT.mk (sm k_320) trivial trivial) trivial)) (TT.mk nn (TT.mk nn (TT.mk (sm k_288) trivial trivial) (TT.mk (sm k_416) trivial trivial)) (TT.mk (sm k_224) (TT.mk (sm k_352) trivial trivial) (TT.mk (sm k_480) trivial trivial)))) (TT.mk (sm k_48) (TT.mk (sm k_80) (TT.mk (sm k_144) (TT.mk (sm k_272) trivial trivial) (TT.mk (sm k_400) trivial trivial)) (TT.mk (sm k_208) (TT.mk (sm k_336) trivial trivial) (TT.mk (sm k_464) trivial trivial))) (TT.mk nn (TT.mk (sm k_176) (TT.mk (sm k_304) trivial trivial) (TT.mk (sm k_432) trivial trivial)) (TT.mk (sm k_240) (TT.mk (sm k_368) trivial trivial) (TT.mk (sm k_496) trivial trivial))))) (TT.mk (sm k_24) (TT.mk nn (TT.mk (sm k_72) (TT.mk (sm k_136) trivial trivial) (TT.mk (sm k_200) (TT.mk (sm k_328) trivial trivial) (TT.mk (sm k_456) trivial trivial))) (TT.mk (sm k_104) (TT.mk (sm k_168) (TT.mk (sm k_296) trivial trivial) (TT.mk (sm k_424) trivial trivial)) (TT.mk (sm k_232) (TT.mk (sm k_360) trivial trivial) (TT.mk (sm k_488) trivial trivial)))) (TT.mk (sm k_56) (TT.mk (sm k_88) (TT.mk (sm k_152) (TT.mk (sm k_280) trivial trivial) (TT.mk (sm k_408) trivial trivial)) (TT.mk (sm k_216) (TT.mk (sm k_344) trivial trivial) (TT.mk (sm k_472) trivial trivial))) (TT.mk (sm k_120) (TT.mk nn (TT.mk (sm k_312) trivial trivial) (TT.mk (sm k_440) trivial trivial)) (TT.mk nn (TT.mk (sm k_376) trivial trivial) (TT.mk (sm k_504) trivial trivial)))))) (TT.mk (sm k_12) (TT.mk nn (TT.mk (sm k_36) (TT.mk (sm k_68) (TT.mk (sm k_132) (TT.mk nn (TT.mk (sm k_516) trivial trivial) trivial) (TT.mk (sm k_388) trivial trivial)) (TT.mk (sm k_196) (TT.mk (sm k_324) trivial trivial) (TT.mk (sm k_452) trivial trivial))) (TT.mk (sm k_100) (TT.mk (sm k_164) (TT.mk (sm k_292) trivial trivial) (TT.mk (sm k_420) trivial trivial)) (TT.mk (sm k_228) trivial (TT.mk (sm k_484) trivial trivial)))) (TT.mk (sm k_52) (TT.mk (sm k_84) (TT.mk (sm k_148) (TT.mk (sm k_276) trivial trivial) (TT.mk (sm k_404) trivial trivial)) (TT.mk (sm k_212) trivial (TT.mk (sm k_468) trivial trivial))) (TT.mk (sm k_116) (TT.mk (sm k_180) (TT.mk (sm k_308) trivial trivial) (TT.mk (sm k_436) trivial trivial)) (TT.mk (sm k_244) (TT.mk (sm k_372) trivial trivial) (TT.mk (sm k_500) trivial trivial))))) (TT.mk nn (TT.mk (sm k_44) (TT.mk (sm k_76) (TT.mk (sm k_140) (TT.mk (sm k_268) trivial trivial) (TT.mk (sm k_396) trivial trivial)) (TT.mk (sm k_204) (TT.mk (sm k_332) trivial trivial) (TT.mk (sm k_460) trivial trivial))) (TT.mk nn (TT.mk (sm k_172) (TT.mk (sm k_300) trivial trivial) trivial) (TT.mk (sm k_236) (TT.mk (sm k_364) trivial trivial) (TT.mk (sm k_492) trivial trivial)))) (TT.mk (sm k_60) (TT.mk (sm k_92) (TT.mk (sm k_156) (TT.mk (sm k_284) trivial trivial) (TT.mk (sm k_412) trivial trivial)) (TT.mk (sm k_220) (TT.mk (sm k_348) trivial trivial) (TT.mk (sm k_476) trivial trivial))) (TT.mk (sm k_124) (TT.mk nn (TT.mk (sm k_316) trivial trivial) trivial) (TT.mk (sm k_252) (TT.mk (sm k_380) trivial trivial) (TT.mk (sm k_508) trivial trivial))))))) (TT.mk (sm k_6) (TT.mk (sm k_10) (TT.mk (sm k_18) (TT.mk (sm k_34) (TT.mk (sm k_66) (TT.mk (sm k_130) (TT.mk nn (TT.mk (sm k_514) trivial trivial) trivial) (TT.mk (sm k_386) trivial trivial)) (TT.mk (sm k_194) (TT.mk (sm k_322) trivial trivial) (TT.mk (sm k_450) trivial trivial))) (TT.mk nn (TT.mk (sm k_162) (TT.mk (sm k_290) trivial trivial) (TT.mk (sm k_418) trivial trivial)) (TT.mk (sm k_226) (TT.mk (sm k_354) trivial trivial) (TT.mk (sm k_482) trivial trivial)))) (TT.mk (sm k_50) (TT.mk (sm k_82) (TT.mk (sm k_146) (TT.mk (sm k_274) trivial trivial) (TT.mk (sm k_402) trivial trivial)) trivial) (TT.mk (sm k_114) (TT.mk (sm k_178) trivial (TT.mk (sm k_434) trivial trivial)) (TT.mk (sm k_242) (TT.mk (sm k_370) trivial trivial) (TT.mk (sm k_498) trivial trivial))))) (TT.mk (sm k_26) (TT.mk (sm k_42) (TT.mk (sm k_74) (TT.mk (sm k_138) (TT.mk (sm k_266) trivial trivial) (TT.mk (sm k_394) trivial trivial)) (TT.mk (sm k_202) trivial trivial)) (TT.mk (sm k_106) (TT.mk (sm k_170) (TT.mk (sm k_298) trivial trivial) trivial) (TT.mk (sm k_234) (TT.mk (sm k_362) trivial trivial) (TT.mk (sm k_490) trivial trivial)))) (TT.mk (sm k_58) (TT.mk (sm k_90) (TT.mk (sm k_154) (TT.mk (sm k_282) trivial trivial) (TT.mk (sm k_410) trivial trivial)) (TT.mk (sm k_218) (TT.mk (sm k_346) trivial trivial) (TT.mk (sm k_474) trivial trivial))) (TT.mk (sm k_122) (TT.mk (sm k_186) (TT.mk (sm k_314) trivial trivial) (TT.mk (sm k_442) trivial trivial)) (TT.mk nn (TT.mk (sm k_378) trivial trivial) (TT.mk (sm k_506) trivial trivial)))))) (TT.mk (sm k_14) (TT.mk (sm k_22) (TT.mk nn (TT.mk (sm k_70) (TT.mk (sm k_134) trivial (TT.mk (sm k_390) trivial trivial)) (TT.mk (sm k_198) trivial (TT.mk (sm k_454) trivial trivial))) (TT.mk (sm k_102) (TT.mk (sm k_166) trivial (TT.mk (sm k_422) trivial trivial)) (TT.mk (sm k_230) (TT.mk (sm k_358) trivial trivial) (TT.mk (sm k_486) trivial trivial)))) (TT.mk (sm k_54) (TT.mk (sm k_86) (TT.mk (sm k_150) (TT.mk (sm k_278) trivial trivial) (TT.mk (sm k_406) trivial trivial)) (TT.mk (sm k_214) (TT.mk (sm k_342) trivial trivial) (TT.mk (sm k_470) trivial trivial))) (TT.mk nn (TT.mk (sm k_182) trivial (TT.mk (sm k_438) trivial trivial)) (TT.mk (sm k_246) (TT.mk (sm k_374) trivial trivial) (TT.mk (sm k_502) trivial trivial))))) (TT.mk (sm k_30) (TT.mk (sm k_46) (TT.mk (sm k_78) (TT.mk (sm k_142) (TT.mk (sm k_270) trivial trivial) trivial) (TT.mk (sm k_206) trivial (TT.mk (sm k_462) trivial trivial))) (TT.mk (sm k_110) (TT.mk nn (TT.mk (sm k_302) trivial trivial) trivial) (TT.mk (sm k_238) (TT.mk (sm k_366) trivial trivial) trivial))) (TT.mk (sm k_62) (TT.mk (sm k_94) (TT.mk (sm k_158) (TT.mk (sm k_286) trivial trivial) (TT.mk (sm k_414) trivial trivial)) (TT.mk (sm k_222) (TT.mk (sm k_350) trivial trivial) (TT.mk (sm k_478) trivial trivial))) (TT.mk (sm k_126) (TT.mk (sm k_190) (TT.mk (sm k_318) trivial trivial) (TT.mk (sm k_446) trivial trivial)) (TT.mk (sm k_254) (TT.mk (sm k_382) trivial trivial) (TT.mk (sm k_510) trivial trivial)))))))))
theorem ok : TTok Go.Proofs.Tryz.prog tt := fun t i h => TT.all_get all t i h
theorem en_117 : enters Go.Proofs.Tryz.prog 117 = true := by kernel_rfl
theorem en_118 : enters Go.Proofs.Tryz.prog 118 = true := by kernel_rfl
theorem fn {N : Nat} {f : FuncId} {fn : Func} {c : Code} {args : List D} {res : List C} {rs : List ResultVar} (fb : List Nat) (hf : Go.Proofs.Tryz.prog.funcs[f]? = some fn) (hk : argsT 0 args .leaf fun t => xcode Go.Proofs.Tryz.prog tt N fb c t (fun _ => .junk) (finK Go.Proofs.Tryz.prog tt rs res []))
  (hb : fn.body = some c := by rfl) (hN : fn.ntmps = N := by rfl) (hrs : fn.results.toList = rs := by rfl) (hargs : args.length ≤ N := by exact Nat.le_of_ble_eq_true rfl) (hNB : N ≤ BIG := by exact Nat.le_of_ble_eq_true rfl) : Contract Go.Proofs.Tryz.prog f args res := xfn ok fb hf hb hN hrs hargs hNB hk
end Go.Vm.T
end
section
namespace Go.Vm
open Go.RowKit Go.Proofs
set_option maxRecDepth 10000
theorem scb {a b : Bool} (h : a = b) : D.sc (.bool a) = D.sc (.bool b) := by rw [h]
theorem elem_at {α : Type} {l : List α} {k : Nat} (h : (k : Int) < (l.length : Int)) : ∃ p, l[k]? = some p := by
 have : k < l.length := by omega
 exact ⟨_, List.getElem?_eq_getElem this⟩
theorem mapAt {α : Type} {f : α → D} {l : List α} {k : Nat} {x : α} (h : l[k]? = some x) : (l.map f)[k]? = some (f x) := by
 rw [List.getElem?_map, h]; rfl
end Go.Vm
end
section
namespace Go.Vm
open Go.RowKit Go.Proofs
set_option maxRecDepth 10000
end Go.Vm
end
section
namespace Go.Vm
open Go.RowKit Go.Proofs
set_option maxRecDepth 10000
end Go.Vm
end
section
namespace Go.Vm
open Go.RowKit Go.Proofs
set_option maxRecDepth 10000
theorem past_end {α : Type} {l : List α} {k : Nat} (h : ¬ (k : Int) < (l.length : Int)) : l.length ≤ k := by omega
theorem lt_len {α : Type} {l : List α} {k : Nat} {p : α} (hp : l[k]? = some p) : k < l.length := (List.getElem?_eq_some_iff.1 hp).1
end Go.Vm
end
section
namespace Go.Vm
open Go.RowKit Go.Proofs
set_option maxRecDepth 10000
end Go.Vm
end
section
namespace Go.Vm
def okL (l : List FieldD) : Prop := l.length ≤ 1000 ∧ ∀ f ∈ l, f.cases.length ≤ 1000000
theorem okL.at {l : List FieldD} {k : Nat} {p : FieldD} (h : okL l) (hp : l[k]? = some p) : p.cases.length ≤ 1000000 := h.2 p (List.mem_of_getElem? hp)
def okSk (l : List FieldD) (k : Nat) : Bool := (List.range k).all fun j => match l[j]? with
 | some f => rightF f && (match l[j - 1]? with | some g => decide (j = 0) || lessB g.at_ f.at_ | none => true)
 | none => true
def rightS (l : List FieldD) : Bool := decide (l.length ≤ 16) && okSk l l.length
def indexS (l : List FieldD) (r : RefD) : Int := if (l.findIdx fun f => decide (f.at_ = r)) < l.length then ((l.findIdx fun f => decide (f.at_ = r) : Nat) : Int) else -1
def fieldAt (l : List FieldD) (r : RefD) : FieldD := match l[(indexS l r).toNat]? with
 | some f => f
 | none => noField
def insF (l : List FieldD) (f : FieldD) : List FieldD := (l.takeWhile fun g => lessB g.at_ f.at_) ++ f :: (l.dropWhile fun g => lessB g.at_ f.at_)
def withS (l : List FieldD) (f : FieldD) : List FieldD × Int :=
 if (rightS l && rightF f) = false then ([], 5) else if 0 ≤ indexS l f.at_ then ([], 7) else if 16 ≤ l.length then ([], 14) else (insF l f, 0)
def delF (l : List FieldD) (r : RefD) : List FieldD := l.filter fun f => !decide (f.at_ = r)
end Go.Vm
end
section
namespace Go.Vm
def caseT (t : List (ByteArray × ByteArray)) (s : ByteArray) : ByteArray × Bool := match t.find? fun p => decide (p.1 = s) with
  | some p => (p.2, true)
  | none => (noB, false)
def froms (t : List (ByteArray × ByteArray)) : List ByteArray := t.map (·.1)
def okT (t o : List (ByteArray × ByteArray)) (k : Nat) : Bool := (List.range k).all fun j => match t[j]? with
  | some p => nameB p.1 && !decide (p.1 ∈ froms (t.take j)) && decide (p.2 ∈ froms o)
  | none => true
def rightT (t o : List (ByteArray × ByteArray)) : Bool := decide (1 ≤ t.length) && decide (t.length ≤ 6) && okT t o t.length
def rightL (x : LensD) : Bool :=
  if x.kind = 2 ∨ x.kind = 3 then decide (x.at_ = noRef) && decide (x.name = noB) && decide (x.other = noB) && decide (x.factor = 0) && decide (x.forth.length = 0) && decide (x.back.length = 0) && rightF x.field
  else placeB x.at_ && decide (x.field = noField) &&
    (if x.kind = 8 then decide (x.factor = 0) && rightT x.forth x.back && rightT x.back x.forth && decide (caseT x.forth x.name = (x.other, true)) && decide (caseT x.back x.other = (x.name, true))
     else decide (x.forth.length = 0) && decide (x.back.length = 0) &&
      (if x.kind = 6 ∨ x.kind = 9 then nameB x.name && nameB x.other && !decide (x.name = x.other) && decide (2 ≤ x.factor) && decide (x.factor ≤ 1000)
       else decide (x.factor = 0) &&
        (if x.kind = 7 ∨ x.kind = 10 then decide (x.name = noB) && decide (x.other.size ≤ 40)
         else decide (x.other = noB) && (if x.kind = 1 then nameB x.name else if x.kind = 4 then decide (x.name = noB) && !decide (x.at_.group = noB) else if x.kind = 5 then decide (x.at_.group = noB) && nameB x.name else false))))
def named (r : RefD) (s : ByteArray) : RefD := ⟨r.scope, r.group, s⟩
def goesL (x : LensD) : List RefD := if x.kind = 2 then [] else if x.kind = 3 then [x.field.at_] else if x.kind = 9 then [named x.at_ x.name, named x.at_ x.other] else [x.at_]
def comesL (x : LensD) : List RefD := if x.kind = 2 then [x.field.at_] else if x.kind = 3 then [] else if x.kind = 6 then [named x.at_ x.name, named x.at_ x.other] else if x.kind = 1 then [named x.at_ x.name]
  else if x.kind = 4 then [⟨x.at_.scope, noB, x.at_.name⟩] else if x.kind = 5 then [⟨x.at_.scope, x.name, x.at_.name⟩] else [x.at_]
def newsL (l : List FieldD) (x : LensD) : Option (List FieldD) :=
  if x.kind = 2 then some [x.field]
  else if x.kind = 3 then (if fieldAt l x.field.at_ = x.field then some [] else none)
  else if x.kind = 9 then (if (fieldAt l (named x.at_ x.name)).kind = 1 ∧ (fieldAt l (named x.at_ x.other)).kind = 1 ∧ (fieldAt l (named x.at_ x.other)).worth = (fieldAt l (named x.at_ x.name)).worth * x.factor then some [⟨x.at_, 1, noB, [], (fieldAt l (named x.at_ x.name)).worth⟩] else none)
  else if x.kind = 6 then (if (fieldAt l x.at_).kind = 1 then some [⟨named x.at_ x.name, 1, noB, [], (fieldAt l x.at_).worth⟩, ⟨named x.at_ x.other, 1, noB, [], (fieldAt l x.at_).worth * x.factor⟩] else none)
  else if x.kind = 7 then (if (fieldAt l x.at_).kind = 2 ∧ (fieldAt l x.at_).deft = x.other then some [⟨x.at_, 4, noB, [], 0⟩] else none)
  else if x.kind = 10 then (if (fieldAt l x.at_).kind = 4 then some [⟨x.at_, 2, x.other, [], 0⟩] else none)
  else if x.kind = 8 then (if fieldAt l x.at_ = ⟨x.at_, 3, x.name, froms x.forth, 0⟩ then some [⟨x.at_, 3, x.other, froms x.back, 0⟩] else none)
  else some (match comesL x with | [] => [] | c :: _ => [⟨c, (fieldAt l x.at_).kind, (fieldAt l x.at_).deft, (fieldAt l x.at_).cases, (fieldAt l x.at_).worth⟩])
def withAll : List FieldD → List FieldD → List FieldD × Int
  | l, [] => (l, 0)
  | l, f :: fs => if (withS l f).2 = 0 then withAll (withS l f).1 fs else ([], 16)
def delAll (l : List FieldD) (rs : List RefD) : List FieldD := rs.foldl delF l
def applyS (l : List FieldD) (x : LensD) : List FieldD × Int :=
  if (rightS l && rightL x) = false then ([], 5)
  else if (goesL x).any (fun g => decide (indexS l g < 0)) then ([], 16)
  else match newsL l x with
    | none => ([], 16)
    | some fs => withAll (delAll l (goesL x)) fs
end Go.Vm
end
section
namespace Go.Vm
open Go.RowKit Go.Proofs
set_option maxRecDepth 10000
theorem take_next {α : Type} {l : List α} {k : Nat} {p : α} (hp : l[k]? = some p) : l.take (k + 1) = l.take k ++ [p] := by rw [List.take_add_one, hp]; rfl
end Go.Vm
end
section
namespace Go.Vm
open Go.RowKit Go.Proofs
set_option maxRecDepth 10000
end Go.Vm
end
section
namespace Go.Vm
open Go.RowKit Go.Proofs
set_option maxRecDepth 10000
end Go.Vm
end
section
namespace Go.Vm
open Go.RowKit Go.Proofs
set_option maxRecDepth 10000
def heavyF (f : FieldD) : Bool := decide (200 < f.at_.group.size) || decide (200 < f.at_.name.size) || decide (200 < f.deft.size) || decide (20 < f.cases.length) || f.cases.any (fun c => decide (200 < c.size))
theorem any_hit {α : Type} {l : List α} {f : α → Bool} {k : Nat} {p : α} (hp : l[k]? = some p) (h : f p = true) : l.any f = true := List.any_eq_true.2 ⟨p, List.mem_of_getElem? hp, h⟩
theorem any_next {α : Type} {l : List α} {f : α → Bool} {k : Nat} {p : α} (hp : l[k]? = some p) (h : (l.take k).any f = false) (hn : f p = false) : (l.take (k + 1)).any f = false := by
  rw [take_next hp, List.any_append, h]; simp [hn]
theorem any_end {α : Type} {l : List α} {f : α → Bool} {k : Nat} (hk : l.length ≤ k) (h : (l.take k).any f = false) : l.any f = false := by rwa [List.take_of_length_le hk] at h
theorem refFieldHeavy_any (f : FieldD) : Contract Tryz.prog 117 [fD f] [.d (.sc (.bool (heavyF f)))] := by
 refine T.fn [] Tryz.func117 ?_
 refine x_len ?_
 refine br (fun hg1 => ?y1) (fun hg1 => ?n1)
 case' y1 =>
  refine brT ?_
  refine brT ?_
  refine brT ?_
 case' n1 =>
  refine x_len ?_
  refine br (fun hg5 => ?y5) (fun hg5 => ?n5)
  case' y5 =>
   refine brT ?_
   refine brT ?_
  case' n5 =>
   refine x_len ?_
   refine br (fun hg8 => ?y8) (fun hg8 => ?n8)
   case' y8 =>
    refine brT ?_
   case' n8 =>
    refine x_len ?_
    refine br (fun hc10 => ?y10) (fun hc10 => ?n10)
    case' n10 =>
     have h20 : f.cases.length ≤ 20 := by omega
     refine xloopR (fb := []) T.ok (Nat.le_of_ble_eq_true rfl) [1] (fun (k : Nat) => [(3, .c (.d (.sc (.int .i64 (k : Nat)))))]) (fun k => k ≤ f.cases.length ∧ (f.cases.take k).any (fun c => decide (200 < c.size)) = false ∧ f.cases.length ≤ 20) (fun k => f.cases.length - k) 0 ⟨Nat.zero_le _, ⟨rfl, h20⟩⟩ (x_ent (by first | rfl | (simp only [Tr.get]; simp; done)) trivial) ?_
     rintro k ⟨hk, hi⟩
     refine x_len ?_
     refine br (fun hc11 => ?y11) (fun hc11 => ?n11)
     case' y11 =>
      obtain ⟨p, hp⟩ := elem_at hc11
      have hkl := lt_len hp
      first | refine x_ix (by exact mapAt hp) ?_ | refine x_ixI (by exact mapAt hp) ?_
      refine x_len ?_
      refine br (fun hc12 => ?y12) (fun hc12 => ?n12)
      case' n12 =>
       first | refine x_inc ?_ | refine x_add ?_ | refine x_bin rfl rfl ?_
       refine x_rnd (k + 1) ⟨lt_len hp, any_next hp hi.1 (by simp; omega), hi.2⟩ (by (try dsimp only); have := lt_len hp; omega) rfl (x_ent (by first | rfl | (simp only [Tr.get]; simp; done)) trivial) rfl
 all_goals (refine x_ret ?_; simp only [fitsL, fits, C.asD, and_true] <;> (refine scb ?_; first | (have hh := any_hit (f := fun c : ByteArray => decide (200 < c.size)) hp (by simp; omega); unfold heavyF; rw [hh, Bool.or_true]; done) | (have hh := any_end (past_end (by assumption)) hi.1; unfold heavyF; rw [hh, Bool.or_false]; symm; simp only [decide_eq_true_eq, decide_eq_false_iff_not, Bool.not_eq_true', Bool.not_eq_false', Bool.and_eq_true, Bool.or_eq_true, Bool.or_eq_false_iff, Bool.and_eq_false_iff, beq_iff_eq, beq_eq_false_iff_ne, ne_eq, Bool.not_true, Bool.not_false, Bool.false_eq_true, Bool.true_eq_false] at * <;> omega) | (symm; unfold heavyF; simp only [decide_eq_true_eq, decide_eq_false_iff_not, Bool.not_eq_true', Bool.not_eq_false', Bool.and_eq_true, Bool.or_eq_true, Bool.or_eq_false_iff, Bool.and_eq_false_iff, beq_iff_eq, beq_eq_false_iff_ne, ne_eq, Bool.not_true, Bool.not_false, Bool.false_eq_true, Bool.true_eq_false] at * <;> omega)))
end Go.Vm
end
section
namespace Go.Vm
end Go.Vm
end
section
namespace Go.Vm
end Go.Vm
end
section
namespace Go.Vm
open Go.RowKit Go.Proofs
set_option maxRecDepth 10000
theorem take_length {α : Type} {l : List α} {k : Nat} (h : k < l.length) : (l.take k).length = k := by rw [List.length_take]; omega
def heavyP (l : List (ByteArray × ByteArray)) : Bool := decide (20 < l.length) || l.any (fun p => decide (200 < p.1.size) || decide (200 < p.2.size))
def heavyL (x : LensD) : Bool := decide (200 < x.at_.group.size) || decide (200 < x.at_.name.size) || decide (200 < x.name.size) || decide (200 < x.other.size) || heavyF x.field || heavyP x.forth || heavyP x.back
theorem heavyPairs_any (l : (List (ByteArray × ByteArray))) : Contract Tryz.prog 118 [.row (l.map pairD)] [.d (.sc (.bool (heavyP l)))] := by
 refine T.fn [] Tryz.func118 ?_
 refine x_len ?_
 refine br (fun hc1 => ?y1) (fun hc1 => ?n1)
 case' n1 =>
  have h20 : l.length ≤ 20 := by omega
  refine xloopR (fb := []) T.ok (Nat.le_of_ble_eq_true rfl) [0] (fun (k : Nat) => [(3, .c (.d (.sc (.int .i64 (k : Nat)))))]) (fun k => k ≤ l.length ∧ (l.take k).any (fun p => decide (200 < p.1.size) || decide (200 < p.2.size)) = false ∧ l.length ≤ 20) (fun k => l.length - k) 0 ⟨Nat.zero_le _, ⟨rfl, h20⟩⟩ (x_ent (by first | rfl | (simp only [Tr.get]; simp; done)) trivial) ?_
  rintro k ⟨hk, hi⟩
  refine x_len ?_
  refine br (fun hc2 => ?y2) (fun hc2 => ?n2)
  case' y2 =>
   obtain ⟨p, hp⟩ := elem_at hc2
   have hkl := lt_len hp
   first | refine x_ix (by exact mapAt hp) ?_ | refine x_ixI (by exact mapAt hp) ?_
   refine x_len ?_
   refine br (fun hg3 => ?y3) (fun hg3 => ?n3)
   case' y3 =>
    refine brT ?_
   case' n3 =>
    first | refine x_ix (by exact mapAt hp) ?_ | refine x_ixI (by exact mapAt hp) ?_
    refine x_len ?_
    refine br (fun hc5 => ?y5) (fun hc5 => ?n5)
    case' n5 =>
     first | refine x_inc ?_ | refine x_add ?_ | refine x_bin rfl rfl ?_
     refine x_rnd (k + 1) ⟨lt_len hp, any_next hp hi.1 (by simp; omega), hi.2⟩ (by (try dsimp only); have := lt_len hp; omega) rfl (x_ent (by first | rfl | (simp only [Tr.get]; simp; done)) trivial) rfl
 all_goals (refine x_ret ?_; simp only [fitsL, fits, C.asD, and_true] <;> (refine scb ?_; first | (have hh := any_hit (f := fun p : ByteArray × ByteArray => decide (200 < p.1.size) || decide (200 < p.2.size)) hp (by simp; omega); unfold heavyP; rw [hh, Bool.or_true]; done) | (have hh := any_end (past_end (by assumption)) hi.1; unfold heavyP; rw [hh, Bool.or_false]; symm; simp only [decide_eq_true_eq, decide_eq_false_iff_not, Bool.not_eq_true', Bool.not_eq_false', Bool.and_eq_true, Bool.or_eq_true, Bool.or_eq_false_iff, Bool.and_eq_false_iff, beq_iff_eq, beq_eq_false_iff_ne, ne_eq, Bool.not_true, Bool.not_false, Bool.false_eq_true, Bool.true_eq_false] at * <;> omega) | (symm; unfold heavyP; simp only [decide_eq_true_eq, decide_eq_false_iff_not, Bool.not_eq_true', Bool.not_eq_false', Bool.and_eq_true, Bool.or_eq_true, Bool.or_eq_false_iff, Bool.and_eq_false_iff, beq_iff_eq, beq_eq_false_iff_ne, ne_eq, Bool.not_true, Bool.not_false, Bool.false_eq_true, Bool.true_eq_false] at * <;> omega)))
end Go.Vm
end
section
namespace Go.Vm
open Go.RowKit Go.Proofs
set_option maxRecDepth 10000
end Go.Vm
end
section
namespace Go.Vm
open Go.RowKit Go.Proofs
set_option maxRecDepth 10000
theorem refLensHeavy_any (x : LensD) : Contract Tryz.prog 57 [lD x] [.d (.sc (.bool (heavyL x)))] := by
 refine T.fn [] Tryz.func57 ?_
 refine x_len ?_
 refine br (fun hg1 => ?y1) (fun hg1 => ?n1)
 case' y1 =>
  refine brT ?_
  refine brT ?_
  refine brT ?_
  refine brT ?_
  refine brT ?_
 case' n1 =>
  refine x_len ?_
  refine br (fun hg7 => ?y7) (fun hg7 => ?n7)
  case' y7 =>
   refine brT ?_
   refine brT ?_
   refine brT ?_
   refine brT ?_
  case' n7 =>
   refine x_len ?_
   refine br (fun hg12 => ?y12) (fun hg12 => ?n12)
   case' y12 =>
    refine brT ?_
    refine brT ?_
    refine brT ?_
   case' n12 =>
    refine x_len ?_
    refine br (fun hg16 => ?y16) (fun hg16 => ?n16)
    case' y16 =>
     refine brT ?_
     refine brT ?_
    case' n16 =>
     refine x_call T.en_117 (refFieldHeavy_any _) ?_
     refine br (fun hg19 => ?y19) (fun hg19 => ?n19)
     case' y19 =>
      refine brT ?_
     case' n19 =>
      refine x_call T.en_118 (heavyPairs_any _) ?_
      refine br (fun hg21 => ?y21) (fun hg21 => ?n21)
      case' n21 =>
       refine x_call T.en_118 (heavyPairs_any _) ?_
 all_goals (refine x_ret ?_; simp only [fitsL, fits, C.asD, and_true] <;> (refine scb ?_; symm; unfold heavyL; first | (simp_all; done) | (simp_all <;> omega)))
end Go.Vm
end
section
namespace Go.Vm
open Go.RowKit Go.Proofs
set_option maxRecDepth 10000
end Go.Vm
end
section
namespace Go.Vm
open Go.RowKit Go.Proofs
set_option maxRecDepth 10000
end Go.Vm
end
section
namespace Go.Vm
open Go.RowKit Go.Proofs
set_option maxRecDepth 10000
end Go.Vm
end
section
namespace Go.Vm
open Go.RowKit Go.Proofs
set_option maxRecDepth 10000
end Go.Vm
end
section
namespace Go.Vm
open Go.RowKit Go.Proofs
set_option maxRecDepth 10000
end Go.Vm
end
section
namespace Go.Vm
open Go.RowKit Go.Proofs
set_option maxRecDepth 10000
end Go.Vm
end
section
namespace Go.Vm
open Go.RowKit
section
variable {P : Program} {N : Nat} {t : Tr} {h : Hp} {o : Oper}
def hpost (h : Hp) : List (Nat × S) → Hp
 | [] => h
 | (n, s) :: l => hset (hpost h l) n s
end
end Go.Vm
end
section
namespace Go.Vm
open Go.RowKit
structure TagD where
 r : Int
 n : Int
 deriving DecidableEq
def noTag : TagD := ⟨0, 0⟩
structure EdgeD where
 id : TagD
 parent : TagD
 lens : LensD
 deriving DecidableEq
structure NodeD where
 edge : EdgeD
 state : Int
 schema : List FieldD
 depth : Int
 deriving DecidableEq
def tD (t : TagD) : D := .agg [.sc (.int .i64 t.r), .sc (.int .i64 t.n)]
def lensC (x : LensD) : List D := [.sc (.int .i64 x.kind), .sc (.int .i64 x.at_.scope), .sc (.string x.at_.group), .sc (.string x.at_.name), .sc (.string x.name), .sc (.string x.other), .sc (.int .i64 x.factor),
 .sc (.int .i64 x.field.at_.scope), .sc (.string x.field.at_.group), .sc (.string x.field.at_.name), .sc (.int .i64 x.field.kind), .sc (.string x.field.deft), .row (x.field.cases.map strD), .sc (.int .i64 x.field.worth), .row (x.forth.map pairD), .row (x.back.map pairD)]
def nodeC (n : NodeD) : List D := .sc (.int .i64 n.edge.id.r) :: .sc (.int .i64 n.edge.id.n) :: .sc (.int .i64 n.edge.parent.r) :: .sc (.int .i64 n.edge.parent.n) :: 
 [.sc (.int .i64 n.edge.lens.kind), .sc (.int .i64 n.edge.lens.at_.scope), .sc (.string n.edge.lens.at_.group), .sc (.string n.edge.lens.at_.name), .sc (.string n.edge.lens.name), .sc (.string n.edge.lens.other), .sc (.int .i64 n.edge.lens.factor),
 .sc (.int .i64 n.edge.lens.field.at_.scope), .sc (.string n.edge.lens.field.at_.group), .sc (.string n.edge.lens.field.at_.name), .sc (.int .i64 n.edge.lens.field.kind), .sc (.string n.edge.lens.field.deft), .row (n.edge.lens.field.cases.map strD), .sc (.int .i64 n.edge.lens.field.worth), .row (n.edge.lens.forth.map pairD), .row (n.edge.lens.back.map pairD),
 .sc (.int .i64 n.state), .row (n.schema.map fD), .sc (.int .i64 n.depth)]
def nD (n : NodeD) : D := .agg (nodeC n)
def rootS : List FieldD := [⟨⟨0, noB, ⟨#[99, 111, 117, 112, 111, 110]⟩⟩, 2, noB, [], 0⟩, ⟨⟨1, noB, ⟨#[110, 111, 116, 101]⟩⟩, 2, noB, [], 0⟩, ⟨⟨1, noB, ⟨#[113, 116, 121]⟩⟩, 1, noB, [], 1⟩, ⟨⟨1, noB, ⟨#[115, 105, 122, 101]⟩⟩, 3, ⟨#[109, 101, 100, 105, 117, 109]⟩, [⟨#[115, 109, 97, 108, 108]⟩, ⟨#[109, 101, 100, 105, 117, 109]⟩, ⟨#[108, 97, 114, 103, 101]⟩], 0⟩, ⟨⟨1, noB, ⟨#[116, 97, 103, 115]⟩⟩, 4, noB, [], 0⟩]
def edgeOf (E : List EdgeD) (id : TagD) : Option EdgeD := E.find? fun e => decide (e.id = id)
def stepC (r : Int × List FieldD × Int) (x : LensD) : Int × List FieldD × Int :=
 if r.1 = 2 then (if (applyS r.2.1 x).2 = 0 then (2, (applyS r.2.1 x).1, r.2.2 + 1) else (3, [], 0)) else if r.1 = 3 then (3, [], 0) else (1, [], 0)
def comes : Nat → List EdgeD → TagD → Int × List FieldD × Int
 | 0, _, _ => (1, [], 0)
 | n + 1, E, id => if id = noTag then (2, rootS, 0) else match edgeOf E id with
  | none => (0, [], 0)
  | some e => stepC (comes n E e.parent) e.lens
def ents (l : List (TagD × NodeD)) : List (D × D) := l.map fun p => (tD p.1, nD p.2)
end Go.Vm
end
section
namespace Go.Vm
open Go.RowKit
structure OpD where
 id : TagD
 schema : TagD
 time : Int
 cart : ByteArray
 kind : Int
 item : ByteArray
 at_ : RefD
 delta : Int
 has : Bool
 text : ByteArray
 drops : List TagD
 deriving DecidableEq
structure VecD where
 v1 : Int
 v2 : Int
 v3 : Int
 v4 : Int
 v5 : Int
 v6 : Int
 deriving DecidableEq
structure NoteD where
 kind : Int
 who : Int
 format : Int
 have_ : VecD
 tags : List TagD
 edges : List EdgeD
 ops : List OpD
 deriving DecidableEq
structure DeedD where
 kind : Int
 cart : ByteArray
 item : ByteArray
 at_ : RefD
 n : Int
 text : ByteArray
 tag : TagD
 lens : LensD
 deriving DecidableEq
def deedC (d : DeedD) : List D := .sc (.int .i64 d.kind) :: .sc (.string d.cart) :: .sc (.string d.item) :: .sc (.int .i64 d.at_.scope) :: .sc (.string d.at_.group) :: .sc (.string d.at_.name) :: .sc (.int .i64 d.n) :: .sc (.string d.text) :: .sc (.int .i64 d.tag.r) :: .sc (.int .i64 d.tag.n) :: lensC d.lens
def deedD (d : DeedD) : D := .agg (deedC d)
def heavyD (d : DeedD) : Bool := decide (200 < d.cart.size) || decide (200 < d.item.size) || decide (200 < d.at_.group.size) || decide (200 < d.at_.name.size) || decide (200 < d.text.size)
end Go.Vm
end
section
namespace Go.Vm
open Go.RowKit Go.Proofs
set_option maxRecDepth 10000
theorem heavyDeed_any (d : DeedD) : Contract Tryz.prog 56 [deedD d] [.d (.sc (.bool (heavyD d)))] := by
 refine T.fn [] Tryz.func56 ?_
 refine x_len ?_
 refine br (fun hg1 => ?y1) (fun hg1 => ?n1)
 case' y1 =>
  refine brT ?_
  refine brT ?_
  refine brT ?_
 case' n1 =>
  refine x_len ?_
  refine br (fun hg5 => ?y5) (fun hg5 => ?n5)
  case' y5 =>
   refine brT ?_
   refine brT ?_
  case' n5 =>
   refine x_len ?_
   refine br (fun hg8 => ?y8) (fun hg8 => ?n8)
   case' y8 =>
    refine brT ?_
   case' n8 =>
    refine x_len ?_
    refine br (fun hg10 => ?y10) (fun hg10 => ?n10)
    case' n10 =>
     refine x_len ?_
 all_goals (refine x_ret ?_; simp only [fitsL, fits, C.asD, and_true] <;> (refine scb ?_; symm; unfold heavyD; first | (simp_all; done) | (simp_all <;> omega; done) | (rw [Bool.eq_iff_iff]; simp only [true_iff, decide_eq_true_eq, decide_eq_false_iff_not, Bool.not_eq_true', Bool.not_eq_false', Bool.and_eq_true, Bool.or_eq_true, Bool.or_eq_false_iff, Bool.and_eq_false_iff, beq_iff_eq, beq_eq_false_iff_ne, ne_eq, Bool.not_true, Bool.not_false, Bool.false_eq_true, Bool.true_eq_false]; omega)))
end Go.Vm
end
section
namespace Go.Vm
open Go.RowKit Go.Proofs
set_option maxRecDepth 10000
section
variable {P : Program} {w : World}
theorem reps_cut {ro : Roles} {es : List Value} {o k : Nat} {c d : List D} (h1 : Reps ro w ((es.drop o).take k) c) (h2 : Reps ro w (es.drop (o + k)) d) : Reps ro w (es.drop o) (c ++ d) := by
  have h := h1.append h2
  rwa [← List.drop_drop, List.take_append_drop] at h
theorem reps_end {ro : Roles} {es : List Value} {o : Nat} (h : es.length = o) : Reps ro w (es.drop o) [] := by
  rw [List.drop_eq_nil_of_le (by omega)]; exact Reps.nil
theorem cells_int {t : TypeId} {cs : List Value} (ht : P.underlying t = some (.int .i64)) (h : Reads P w t cs) : ∃ n : Int, Reps allFrozen w cs [.sc (.int .i64 n)] := by
  obtain ⟨n, rfl, _⟩ := h.int ht
  exact ⟨n, rfl, by simp [Value.oneCell'], fun j u c hu hc => by cases j with | zero => simp at hu hc; subst hu hc; exact .sc rfl | succ j => simp at hu⟩
theorem cells_str {t : TypeId} {cs : List Value} (ht : P.underlying t = some .string) (h : Reads P w t cs) : ∃ s : ByteArray, Reps allFrozen w cs [.sc (.string s)] := by
  obtain ⟨s, rfl, _⟩ := h.string ht
  exact ⟨s, rfl, by simp [Value.oneCell'], fun j u c hu hc => by cases j with | zero => simp at hu hc; subst hu hc; exact .sc rfl | succ j => simp at hu⟩
theorem cells_row {t e : TypeId} {sz : Nat} {α : Type} {enc : α → D} {cs : List Value} (ht : P.underlying t = some (.slice e)) (hsz : P.cellsOf e = sz) (h0 : 0 < sz) (hw : ∀ x, (enc x).cells.length = sz) (hel : Cells P w e enc (fun _ => True)) (h : Reads P w t cs) : ∃ xs : List α, Reps allFrozen w cs [.row (xs.map enc)] := by
  have hc : ∃ a l c, cs = [.slice a l c] := by
    rcases h.slice ht with rfl | ⟨a, l, c, rfl, _⟩
    · exact ⟨_, _, _, rfl⟩
    · exact ⟨_, _, _, rfl⟩
  obtain ⟨a, l, c, rfl⟩ := hc
  obtain ⟨xs, hx, _⟩ := row_of ht hsz h0 hw hel h
  exact ⟨xs, rfl, by simp [Value.oneCell'], fun j u c hu hc => by cases j with | zero => simp at hu hc; subst hu hc; exact hx | succ j => simp at hu⟩
theorem rep_agg {ro : Roles} {s : Array Value} {cs : List D} (h : Reps ro w s.toList cs) : Rep ro w (.agg s) (.agg cs) := .agg (by simpa using h.1) h.2.1 h.2.2
end
theorem str_cells (w : World) : Cells Tryz.prog w 9 strD (fun _ => True) := by
  intro es h
  obtain ⟨s, hs⟩ := cells_str Tryz.underlying9 h
  exact ⟨s, hs, trivial⟩
theorem ref_cells (w : World) : Cells Tryz.prog w 68 rD (fun _ => True) := by
  intro es h
  obtain ⟨hl, hf⟩ := h.struct Tryz.underlying68
  rw [show Tryz.prog.cellsOf 68 = 3 from by kernel_rfl] at hl
  have h0 := hf _ (List.mem_cons_self ..)
  simp only [show Tryz.prog.cellsOf 3 = 1 from by kernel_rfl] at h0
  obtain ⟨v0, r0⟩ := cells_int Tryz.underlying3 h0
  have h1 := hf _ (List.mem_cons_of_mem _ (List.mem_cons_self ..))
  simp only [show Tryz.prog.cellsOf 9 = 1 from by kernel_rfl] at h1
  obtain ⟨v1, r1⟩ := cells_str Tryz.underlying9 h1
  have h2 := hf _ (List.mem_cons_of_mem _ (List.mem_cons_of_mem _ (List.mem_cons_self ..)))
  simp only [show Tryz.prog.cellsOf 9 = 1 from by kernel_rfl] at h2
  obtain ⟨v2, r2⟩ := cells_str Tryz.underlying9 h2
  exact ⟨⟨v0, v1, v2⟩, reps_cut (o := 0) (k := 1) r0 (reps_cut (o := 1) (k := 1) r1 (reps_cut (o := 2) (k := 1) r2 (reps_end hl))), trivial⟩
theorem pair_cells (w : World) : Cells Tryz.prog w 290 pairD (fun _ => True) := by
  intro es h
  obtain ⟨hl, hf⟩ := h.struct Tryz.underlying290
  rw [show Tryz.prog.cellsOf 290 = 2 from by kernel_rfl] at hl
  have h0 := hf _ (List.mem_cons_self ..)
  simp only [show Tryz.prog.cellsOf 9 = 1 from by kernel_rfl] at h0
  obtain ⟨v0, r0⟩ := cells_str Tryz.underlying9 h0
  have h1 := hf _ (List.mem_cons_of_mem _ (List.mem_cons_self ..))
  simp only [show Tryz.prog.cellsOf 9 = 1 from by kernel_rfl] at h1
  obtain ⟨v1, r1⟩ := cells_str Tryz.underlying9 h1
  exact ⟨(v0, v1), reps_cut (o := 0) (k := 1) r0 (reps_cut (o := 1) (k := 1) r1 (reps_end hl)), trivial⟩
theorem field_cells (w : World) : Cells Tryz.prog w 71 fD (fun _ => True) := by
  intro es h
  obtain ⟨hl, hf⟩ := h.struct Tryz.underlying71
  rw [show Tryz.prog.cellsOf 71 = 7 from by kernel_rfl] at hl
  have h0 := hf _ (List.mem_cons_self ..)
  simp only [show Tryz.prog.cellsOf 68 = 3 from by kernel_rfl] at h0
  obtain ⟨v0, r0, _⟩ := ref_cells w _ h0
  have h1 := hf _ (List.mem_cons_of_mem _ (List.mem_cons_self ..))
  simp only [show Tryz.prog.cellsOf 3 = 1 from by kernel_rfl] at h1
  obtain ⟨v1, r1⟩ := cells_int Tryz.underlying3 h1
  have h2 := hf _ (List.mem_cons_of_mem _ (List.mem_cons_of_mem _ (List.mem_cons_self ..)))
  simp only [show Tryz.prog.cellsOf 9 = 1 from by kernel_rfl] at h2
  obtain ⟨v2, r2⟩ := cells_str Tryz.underlying9 h2
  have h3 := hf _ (List.mem_cons_of_mem _ (List.mem_cons_of_mem _ (List.mem_cons_of_mem _ (List.mem_cons_self ..))))
  simp only [show Tryz.prog.cellsOf 69 = 1 from by kernel_rfl] at h3
  obtain ⟨v3, r3⟩ := cells_row Tryz.underlying69 (show Tryz.prog.cellsOf 9 = 1 from by kernel_rfl) (by omega) (fun _ => rfl) (str_cells w) h3
  have h4 := hf _ (List.mem_cons_of_mem _ (List.mem_cons_of_mem _ (List.mem_cons_of_mem _ (List.mem_cons_of_mem _ (List.mem_cons_self ..)))))
  simp only [show Tryz.prog.cellsOf 2 = 1 from by kernel_rfl] at h4
  obtain ⟨v4, r4⟩ := cells_int Tryz.underlying2 h4
  exact ⟨⟨v0, v1, v2, v3, v4⟩, reps_cut (o := 0) (k := 3) r0 (reps_cut (o := 3) (k := 1) r1 (reps_cut (o := 4) (k := 1) r2 (reps_cut (o := 5) (k := 1) r3 (reps_cut (o := 6) (k := 1) r4 (reps_end hl))))), trivial⟩
theorem lens_cells (w : World) : Cells Tryz.prog w 74 lD (fun _ => True) := by
  intro es h
  obtain ⟨hl, hf⟩ := h.struct Tryz.underlying74
  rw [show Tryz.prog.cellsOf 74 = 16 from by kernel_rfl] at hl
  have h0 := hf _ (List.mem_cons_self ..)
  simp only [show Tryz.prog.cellsOf 3 = 1 from by kernel_rfl] at h0
  obtain ⟨v0, r0⟩ := cells_int Tryz.underlying3 h0
  have h1 := hf _ (List.mem_cons_of_mem _ (List.mem_cons_self ..))
  simp only [show Tryz.prog.cellsOf 68 = 3 from by kernel_rfl] at h1
  obtain ⟨v1, r1, _⟩ := ref_cells w _ h1
  have h2 := hf _ (List.mem_cons_of_mem _ (List.mem_cons_of_mem _ (List.mem_cons_self ..)))
  simp only [show Tryz.prog.cellsOf 9 = 1 from by kernel_rfl] at h2
  obtain ⟨v2, r2⟩ := cells_str Tryz.underlying9 h2
  have h3 := hf _ (List.mem_cons_of_mem _ (List.mem_cons_of_mem _ (List.mem_cons_of_mem _ (List.mem_cons_self ..))))
  simp only [show Tryz.prog.cellsOf 9 = 1 from by kernel_rfl] at h3
  obtain ⟨v3, r3⟩ := cells_str Tryz.underlying9 h3
  have h4 := hf _ (List.mem_cons_of_mem _ (List.mem_cons_of_mem _ (List.mem_cons_of_mem _ (List.mem_cons_of_mem _ (List.mem_cons_self ..)))))
  simp only [show Tryz.prog.cellsOf 2 = 1 from by kernel_rfl] at h4
  obtain ⟨v4, r4⟩ := cells_int Tryz.underlying2 h4
  have h5 := hf _ (List.mem_cons_of_mem _ (List.mem_cons_of_mem _ (List.mem_cons_of_mem _ (List.mem_cons_of_mem _ (List.mem_cons_of_mem _ (List.mem_cons_self ..))))))
  simp only [show Tryz.prog.cellsOf 71 = 7 from by kernel_rfl] at h5
  obtain ⟨v5, r5, _⟩ := field_cells w _ h5
  have h6 := hf _ (List.mem_cons_of_mem _ (List.mem_cons_of_mem _ (List.mem_cons_of_mem _ (List.mem_cons_of_mem _ (List.mem_cons_of_mem _ (List.mem_cons_of_mem _ (List.mem_cons_self ..)))))))
  simp only [show Tryz.prog.cellsOf 72 = 1 from by kernel_rfl] at h6
  obtain ⟨v6, r6⟩ := cells_row Tryz.underlying72 (show Tryz.prog.cellsOf 290 = 2 from by kernel_rfl) (by omega) (fun _ => rfl) (pair_cells w) h6
  have h7 := hf _ (List.mem_cons_of_mem _ (List.mem_cons_of_mem _ (List.mem_cons_of_mem _ (List.mem_cons_of_mem _ (List.mem_cons_of_mem _ (List.mem_cons_of_mem _ (List.mem_cons_of_mem _ (List.mem_cons_self ..))))))))
  simp only [show Tryz.prog.cellsOf 72 = 1 from by kernel_rfl] at h7
  obtain ⟨v7, r7⟩ := cells_row Tryz.underlying72 (show Tryz.prog.cellsOf 290 = 2 from by kernel_rfl) (by omega) (fun _ => rfl) (pair_cells w) h7
  exact ⟨⟨v0, v1, v2, v3, v4, v5, v6, v7⟩, reps_cut (o := 0) (k := 1) r0 (reps_cut (o := 1) (k := 3) r1 (reps_cut (o := 4) (k := 1) r2 (reps_cut (o := 5) (k := 1) r3 (reps_cut (o := 6) (k := 1) r4 (reps_cut (o := 7) (k := 7) r5 (reps_cut (o := 14) (k := 1) r6 (reps_cut (o := 15) (k := 1) r7 (reps_end hl)))))))), trivial⟩
theorem tag_cells (w : World) : Cells Tryz.prog w 45 tD (fun _ => True) := by
  intro es h
  obtain ⟨hl, hf⟩ := h.struct Tryz.underlying45
  rw [show Tryz.prog.cellsOf 45 = 2 from by kernel_rfl] at hl
  have h0 := hf _ (List.mem_cons_self ..)
  simp only [show Tryz.prog.cellsOf 3 = 1 from by kernel_rfl] at h0
  obtain ⟨v0, r0⟩ := cells_int Tryz.underlying3 h0
  have h1 := hf _ (List.mem_cons_of_mem _ (List.mem_cons_self ..))
  simp only [show Tryz.prog.cellsOf 3 = 1 from by kernel_rfl] at h1
  obtain ⟨v1, r1⟩ := cells_int Tryz.underlying3 h1
  exact ⟨⟨v0, v1⟩, reps_cut (o := 0) (k := 1) r0 (reps_cut (o := 1) (k := 1) r1 (reps_end hl)), trivial⟩
theorem deed_cells (w : World) : Cells Tryz.prog w 85 deedD (fun _ => True) := by
  intro es h
  obtain ⟨hl, hf⟩ := h.struct Tryz.underlying85
  rw [show Tryz.prog.cellsOf 85 = 26 from by kernel_rfl] at hl
  have h0 := hf _ (List.mem_cons_self ..)
  simp only [show Tryz.prog.cellsOf 3 = 1 from by kernel_rfl] at h0
  obtain ⟨v0, r0⟩ := cells_int Tryz.underlying3 h0
  have h1 := hf _ (List.mem_cons_of_mem _ (List.mem_cons_self ..))
  simp only [show Tryz.prog.cellsOf 9 = 1 from by kernel_rfl] at h1
  obtain ⟨v1, r1⟩ := cells_str Tryz.underlying9 h1
  have h2 := hf _ (List.mem_cons_of_mem _ (List.mem_cons_of_mem _ (List.mem_cons_self ..)))
  simp only [show Tryz.prog.cellsOf 9 = 1 from by kernel_rfl] at h2
  obtain ⟨v2, r2⟩ := cells_str Tryz.underlying9 h2
  have h3 := hf _ (List.mem_cons_of_mem _ (List.mem_cons_of_mem _ (List.mem_cons_of_mem _ (List.mem_cons_self ..))))
  simp only [show Tryz.prog.cellsOf 68 = 3 from by kernel_rfl] at h3
  obtain ⟨v3, r3, _⟩ := ref_cells w _ h3
  have h4 := hf _ (List.mem_cons_of_mem _ (List.mem_cons_of_mem _ (List.mem_cons_of_mem _ (List.mem_cons_of_mem _ (List.mem_cons_self ..)))))
  simp only [show Tryz.prog.cellsOf 2 = 1 from by kernel_rfl] at h4
  obtain ⟨v4, r4⟩ := cells_int Tryz.underlying2 h4
  have h5 := hf _ (List.mem_cons_of_mem _ (List.mem_cons_of_mem _ (List.mem_cons_of_mem _ (List.mem_cons_of_mem _ (List.mem_cons_of_mem _ (List.mem_cons_self ..))))))
  simp only [show Tryz.prog.cellsOf 9 = 1 from by kernel_rfl] at h5
  obtain ⟨v5, r5⟩ := cells_str Tryz.underlying9 h5
  have h6 := hf _ (List.mem_cons_of_mem _ (List.mem_cons_of_mem _ (List.mem_cons_of_mem _ (List.mem_cons_of_mem _ (List.mem_cons_of_mem _ (List.mem_cons_of_mem _ (List.mem_cons_self ..)))))))
  simp only [show Tryz.prog.cellsOf 45 = 2 from by kernel_rfl] at h6
  obtain ⟨v6, r6, _⟩ := tag_cells w _ h6
  have h7 := hf _ (List.mem_cons_of_mem _ (List.mem_cons_of_mem _ (List.mem_cons_of_mem _ (List.mem_cons_of_mem _ (List.mem_cons_of_mem _ (List.mem_cons_of_mem _ (List.mem_cons_of_mem _ (List.mem_cons_self ..))))))))
  simp only [show Tryz.prog.cellsOf 74 = 16 from by kernel_rfl] at h7
  obtain ⟨v7, r7, _⟩ := lens_cells w _ h7
  exact ⟨⟨v0, v1, v2, v3, v4, v5, v6, v7⟩, reps_cut (o := 0) (k := 1) r0 (reps_cut (o := 1) (k := 1) r1 (reps_cut (o := 2) (k := 1) r2 (reps_cut (o := 3) (k := 3) r3 (reps_cut (o := 6) (k := 1) r4 (reps_cut (o := 7) (k := 1) r5 (reps_cut (o := 8) (k := 2) r6 (reps_cut (o := 10) (k := 16) r7 (reps_end hl)))))))), trivial⟩
end Go.Vm
end
section
namespace Go.Rn
open Go.RowKit
open Go.Vm (enters allFrozen)
set_option maxRecDepth 1000000
abbrev deedV : V := .agg [.opq 0, .opq 1, .opq 2, .opq 3, .opq 4, .opq 5, .opq 6, .opq 7, .opq 8, .opq 9, .opq 10, .opq 11, .opq 12, .opq 13, .opq 14, .opq 15, .opq 16, .opq 17, .opq 18, .opq 19, .opq 20, .opq 21, .opq 22, .opq 23, .opq 24, .opq 25]
abbrev lensV : V := .agg [.opq 10, .opq 11, .opq 12, .opq 13, .opq 14, .opq 15, .opq 16, .opq 17, .opq 18, .opq 19, .opq 20, .opq 21, .opq 22, .opq 23, .opq 24, .opq 25]
abbrev orcD (a b : Bool) : Orc := (56, [deedV], .sc (.bool a)) :: (57, [lensV], .sc (.bool b)) :: (31, [], .sc (.bool true)) :: orcS
set_option maxHeartbeats 100000000 in
theorem shopNil_run (x y : Bool) (a : Int) : Hold (run Go.Proofs.Tryz.prog ft (orcD x y) 1000000 1000 10 [deedV, .sc (.int .i64 a)] .leaf 0 (fun v _ _ => isTrue v)) := by
  cases x
  · cases y
    · exact ⟨of_eq_true (by kernel_rfl)⟩
    · exact ⟨of_eq_true (by kernel_rfl)⟩
  · exact ⟨of_eq_true (by kernel_rfl)⟩
end Go.Rn
namespace Go.Proofs.YtfnkaiagadgngaaGreat
open Go.RowKit Go.Rn
open Go.Vm (DeedD deedD deedC heavyD heavyL lD allFrozen deed_cells heavyDeed_any refLensHeavy_any rep_agg Reps)
theorem shopNil_walk (s0 : Array Value) (a1 : Int) (w : World) (r0 : Reads Tryz.prog w 85 s0.toList) (w1 : (Lit.int .i64 a1).wf = true) :
    Calls Tryz.prog 10 #[.agg s0, .int .i64 a1] w fun e w' => e = .returned (.bool true) ∧ Below w.heap.size w w' := by
  obtain ⟨n, hn, _⟩ := deed_cells w _ r0
  have hl : s0.toList.length = 26 := hn.1
  obtain ⟨OP, hOP⟩ : ∃ OP : Nat → Value, s0.toList = [OP 0, OP 1, OP 2, OP 3, OP 4, OP 5, OP 6, OP 7, OP 8, OP 9, OP 10, OP 11, OP 12, OP 13, OP 14, OP 15, OP 16, OP 17, OP 18, OP 19, OP 20, OP 21, OP 22, OP 23, OP 24, OP 25] := by
    refine ⟨fun i => s0.toList.getD i undef, ?_⟩
    match h : s0.toList, hl with
    | [x0, x1, x2, x3, x4, x5, x6, x7, x8, x9, x10, x11, x12, x13, x14, x15, x16, x17, x18, x19, x20, x21, x22, x23, x24, x25], _ => rfl
  have h1 : ∀ i, i < 26 → (OP i).oneCell' = true := by
    intro i hi
    refine hn.2.1 (OP i) ?_
    rw [hOP]
    have : ∀ i, i < 26 → OP i ∈ [OP 0, OP 1, OP 2, OP 3, OP 4, OP 5, OP 6, OP 7, OP 8, OP 9, OP 10, OP 11, OP 12, OP 13, OP 14, OP 15, OP 16, OP 17, OP 18, OP 19, OP 20, OP 21, OP 22, OP 23, OP 24, OP 25] := by
      intro i hi
      match i, hi with
      | 0, _ => simp
      | 1, _ => simp
      | 2, _ => simp
      | 3, _ => simp
      | 4, _ => simp
      | 5, _ => simp
      | 6, _ => simp
      | 7, _ => simp
      | 8, _ => simp
      | 9, _ => simp
      | 10, _ => simp
      | 11, _ => simp
      | 12, _ => simp
      | 13, _ => simp
      | 14, _ => simp
      | 15, _ => simp
      | 16, _ => simp
      | 17, _ => simp
      | 18, _ => simp
      | 19, _ => simp
      | 20, _ => simp
      | 21, _ => simp
      | 22, _ => simp
      | 23, _ => simp
      | 24, _ => simp
      | 25, _ => simp
      | i + 26, h => omega
    exact this i hi
  have ha : conc (noPi OP) deedV = some (.agg s0) := by
    have e : s0 = #[OP 0, OP 1, OP 2, OP 3, OP 4, OP 5, OP 6, OP 7, OP 8, OP 9, OP 10, OP 11, OP 12, OP 13, OP 14, OP 15, OP 16, OP 17, OP 18, OP 19, OP 20, OP 21, OP 22, OP 23, OP 24, OP 25] := by rw [← hOP]
    rw [e]
    exact conc_opqs (π := noPi OP) (l := [0, 1, 2, 3, 4, 5, 6, 7, 8, 9, 10, 11, 12, 13, 14, 15, 16, 17, 18, 19, 20, 21, 22, 23, 24, 25]) fun i hi => h1 i (by simp at hi; omega)
  have hargs : concL (noPi OP) [deedV, .sc (.int .i64 a1)] = some [.agg s0, .int .i64 a1] := by
    rw [concL, ha, concL, conc, if_pos (show (Value.int .i64 a1).oneCell' = true from rfl), concL]
  have hdv : concL (noPi OP) [deedV] = some [.agg s0] := by rw [concL, ha, concL]
  have hlv : concL (noPi OP) [lensV] = some [.agg #[OP 10, OP 11, OP 12, OP 13, OP 14, OP 15, OP 16, OP 17, OP 18, OP 19, OP 20, OP 21, OP 22, OP 23, OP 24, OP 25]] := by
    rw [concL, show conc (noPi OP) lensV = some (.agg #[OP 10, OP 11, OP 12, OP 13, OP 14, OP 15, OP 16, OP 17, OP 18, OP 19, OP 20, OP 21, OP 22, OP 23, OP 24, OP 25]) from conc_opqs (π := noPi OP) (l := [10, 11, 12, 13, 14, 15, 16, 17, 18, 19, 20, 21, 22, 23, 24, 25]) fun i hi => h1 i (by simp at hi; omega), concL]
  have hln : Reps allFrozen w [OP 10, OP 11, OP 12, OP 13, OP 14, OP 15, OP 16, OP 17, OP 18, OP 19, OP 20, OP 21, OP 22, OP 23, OP 24, OP 25] (lD n.lens).cells := by
    have := hn.drop 10
    rw [hOP] at this
    exact this
  have hheavy := heavyDeed_any n
  have hheavyL := refLensHeavy_any n.lens
  have hout := fun (x y : Bool) (hx : heavyD n = x) (hy : heavyL n.lens = y) => @run_hold (lawCx w OP) Tryz.prog ft ft_ok (orcD x y) (by
    letI := lawCx w OP
    refine orcOk_cons (by kernel_rfl) (fun h k => ?_) (orcOk_cons (by kernel_rfl) (fun h k => ?_) (orcOk_cons awake29_known.1 awake29_known.2 orcS_ok))
    · rw [hx] at hheavy
      refine orc_pure rfl hheavy (us := [.agg s0]) hdv rfl ?_ h k
      intro i u d hu hd
      cases i with
      | zero => simp at hu hd; subst hu hd; exact rep_agg hn
      | succ i => simp at hu
    · rw [hy] at hheavyL
      refine orc_pure rfl hheavyL (us := [.agg #[OP 10, OP 11, OP 12, OP 13, OP 14, OP 15, OP 16, OP 17, OP 18, OP 19, OP 20, OP 21, OP 22, OP 23, OP 24, OP 25]]) hlv rfl ?_ h k
      intro i u d hu hd
      cases i with
      | zero => simp at hu hd; subst hu hd; exact rep_agg (s := #[OP 10, OP 11, OP 12, OP 13, OP 14, OP 15, OP 16, OP 17, OP 18, OP 19, OP 20, OP 21, OP 22, OP 23, OP 24, OP 25]) hln
      | succ i => simp at hu) 1000000 1000 _ _ _ _ _ (shopNil_run x y a1)
  obtain ⟨v, m', n', q1, q2, q3⟩ := hout _ _ rfl rfl
  rw [isTrue_spec q3] at q2
  exact law_run q2 hargs
end Go.Proofs.YtfnkaiagadgngaaGreat
end
