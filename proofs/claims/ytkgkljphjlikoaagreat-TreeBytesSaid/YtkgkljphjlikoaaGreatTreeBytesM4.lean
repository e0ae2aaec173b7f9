/- Part 4 of what the proof of TreeBytes stands on: Tt, LnName, LnPlace, LnEq, LnTexts, LnField, LnSchemaP, LnLensP, LnKeepP, LnLens2P, PtP, LnSchema. -/
import Derived.KernelRfl
import Derived.Test.YtkgkljphjlikoaaGreatTreeBytesM3
section
namespace Go.Vm.T
open Go.RowKit
set_option linter.unusedVariables false
theorem k_1 : tyOk Go.Proofs.Tryz.prog 1 (.one [.sc .nilFunc]) := ⟨by kernel_rfl, by kernel_rfl⟩
theorem k_2 : tyOk Go.Proofs.Tryz.prog 2 (.one [.sc (.int .i64 0)]) := ⟨by kernel_rfl, by kernel_rfl⟩
theorem k_3 : tyOk Go.Proofs.Tryz.prog 3 (.one [.sc (.int .i64 0)]) := ⟨by kernel_rfl, by kernel_rfl⟩
theorem k_4 : tyOk Go.Proofs.Tryz.prog 4 (.one [.sc (.bool false)]) := ⟨by kernel_rfl, by kernel_rfl⟩
theorem k_5 : tyOk Go.Proofs.Tryz.prog 5 (.one [.sc (.int .u8 0)]) := ⟨by kernel_rfl, by kernel_rfl⟩
theorem k_6 : tyOk Go.Proofs.Tryz.prog 6 (.one [.sc (.int .u8 0)]) := ⟨by kernel_rfl, by kernel_rfl⟩
theorem k_7 : tyOk Go.Proofs.Tryz.prog 7 (.agg [(0, 1), (1, 1), (2, 1), (3, 1)] [.sc (.int .i64 0), .sc (.int .i64 0), .sc (.bool false), .sc (.int .u8 0)]) := ⟨by kernel_rfl, by kernel_rfl, by kernel_rfl⟩
theorem k_8 : tyOk Go.Proofs.Tryz.prog 8 (.agg [(0, 1), (1, 1), (2, 1), (3, 1)] [.sc (.int .i64 0), .sc (.int .i64 0), .sc (.bool false), .sc (.int .u8 0)]) := ⟨by kernel_rfl, by kernel_rfl, by kernel_rfl⟩
theorem k_9 : tyOk Go.Proofs.Tryz.prog 9 (.str) := ⟨by kernel_rfl, by kernel_rfl, by kernel_rfl⟩
theorem k_10 : tyOk Go.Proofs.Tryz.prog 10 (.str) := ⟨by kernel_rfl, by kernel_rfl, by kernel_rfl⟩
theorem k_11 : tyOk Go.Proofs.Tryz.prog 11 (.str) := ⟨by kernel_rfl, by kernel_rfl, by kernel_rfl⟩
theorem k_12 : tyOk Go.Proofs.Tryz.prog 12 (.one [.sc (.int .u64 0)]) := ⟨by kernel_rfl, by kernel_rfl⟩
theorem k_13 : tyOk Go.Proofs.Tryz.prog 13 (.agg [(0, 1), (1, 1)] [.sc (.string ⟨#[]⟩), .sc (.int .u64 0)]) := ⟨by kernel_rfl, by kernel_rfl, by kernel_rfl⟩
theorem k_14 : tyOk Go.Proofs.Tryz.prog 14 (.agg [(0, 1), (1, 1)] [.sc (.string ⟨#[]⟩), .sc (.int .u64 0)]) := ⟨by kernel_rfl, by kernel_rfl, by kernel_rfl⟩
theorem k_15 : tyOk Go.Proofs.Tryz.prog 15 (.one [.sc (.pointer none)]) := ⟨by kernel_rfl, by kernel_rfl⟩
theorem k_16 : tyOk Go.Proofs.Tryz.prog 16 (.one [.sc (.pointer none)]) := ⟨by kernel_rfl, by kernel_rfl⟩
theorem k_17 : tyOk Go.Proofs.Tryz.prog 17 (.one [.sc (.pointer none)]) := ⟨by kernel_rfl, by kernel_rfl⟩
theorem k_18 : tyOk Go.Proofs.Tryz.prog 18 (.agg [(0, 1)] [.sc (.pointer none)]) := ⟨by kernel_rfl, by kernel_rfl, by kernel_rfl⟩
theorem k_19 : tyOk Go.Proofs.Tryz.prog 19 (.agg [(0, 1)] [.sc (.pointer none)]) := ⟨by kernel_rfl, by kernel_rfl, by kernel_rfl⟩
theorem k_21 : tyOk Go.Proofs.Tryz.prog 21 (.one [.sc (.int .i32 0)]) := ⟨by kernel_rfl, by kernel_rfl⟩
theorem k_22 : tyOk Go.Proofs.Tryz.prog 22 (.agg [(0, 1), (1, 1)] [.sc (.int .i64 0), .sc (.int .i64 0)]) := ⟨by kernel_rfl, by kernel_rfl, by kernel_rfl⟩
theorem k_23 : tyOk Go.Proofs.Tryz.prog 23 (.agg [(0, 1), (1, 1)] [.sc (.int .i64 0), .sc (.int .i64 0)]) := ⟨by kernel_rfl, by kernel_rfl, by kernel_rfl⟩
theorem k_24 : tyOk Go.Proofs.Tryz.prog 24 (.agg [(0, 1), (1, 1), (2, 1)] [.sc (.int .i64 0), .sc (.string ⟨#[]⟩), .sc (.string ⟨#[]⟩)]) := ⟨by kernel_rfl, by kernel_rfl, by kernel_rfl⟩
theorem k_25 : tyOk Go.Proofs.Tryz.prog 25 (.agg [(0, 1), (1, 1), (2, 1)] [.sc (.int .i64 0), .sc (.string ⟨#[]⟩), .sc (.string ⟨#[]⟩)]) := ⟨by kernel_rfl, by kernel_rfl, by kernel_rfl⟩
theorem k_26 : tyOk Go.Proofs.Tryz.prog 26 (.slice 9 1 16) := ⟨by kernel_rfl, by kernel_rfl, by kernel_rfl, by kernel_rfl⟩
theorem k_27 : tyOk Go.Proofs.Tryz.prog 27 (.agg [(0, 3), (3, 1), (4, 1), (5, 1), (6, 1)] [.sc (.int .i64 0), .sc (.string ⟨#[]⟩), .sc (.string ⟨#[]⟩), .sc (.int .i64 0), .sc (.string ⟨#[]⟩), .row [], .sc (.int .i64 0)]) := ⟨by kernel_rfl, by kernel_rfl, by kernel_rfl⟩
theorem k_28 : tyOk Go.Proofs.Tryz.prog 28 (.agg [(0, 3), (3, 1), (4, 1), (5, 1), (6, 1)] [.sc (.int .i64 0), .sc (.string ⟨#[]⟩), .sc (.string ⟨#[]⟩), .sc (.int .i64 0), .sc (.string ⟨#[]⟩), .row [], .sc (.int .i64 0)]) := ⟨by kernel_rfl, by kernel_rfl, by kernel_rfl⟩
theorem k_29 : tyOk Go.Proofs.Tryz.prog 29 (.slice 119 2 32) := ⟨by kernel_rfl, by kernel_rfl, by kernel_rfl, by kernel_rfl⟩
theorem k_30 : tyOk Go.Proofs.Tryz.prog 30 (.agg [(0, 1), (1, 3), (4, 1), (5, 1), (6, 1), (7, 7), (14, 1), (15, 1)] [.sc (.int .i64 0), .sc (.int .i64 0), .sc (.string ⟨#[]⟩), .sc (.string ⟨#[]⟩), .sc (.string ⟨#[]⟩), .sc (.string ⟨#[]⟩), .sc (.int .i64 0), .sc (.int .i64 0), .sc (.string ⟨#[]⟩), .sc (.string ⟨#[]⟩), .sc (.int .i64 0), .sc (.string ⟨#[]⟩), .row [], .sc (.int .i64 0), .row [], .row []]) := ⟨by kernel_rfl, by kernel_rfl, by kernel_rfl⟩
theorem k_31 : tyOk Go.Proofs.Tryz.prog 31 (.agg [(0, 1), (1, 3), (4, 1), (5, 1), (6, 1), (7, 7), (14, 1), (15, 1)] [.sc (.int .i64 0), .sc (.int .i64 0), .sc (.string ⟨#[]⟩), .sc (.string ⟨#[]⟩), .sc (.string ⟨#[]⟩), .sc (.string ⟨#[]⟩), .sc (.int .i64 0), .sc (.int .i64 0), .sc (.string ⟨#[]⟩), .sc (.string ⟨#[]⟩), .sc (.int .i64 0), .sc (.string ⟨#[]⟩), .row [], .sc (.int .i64 0), .row [], .row []]) := ⟨by kernel_rfl, by kernel_rfl, by kernel_rfl⟩
theorem k_32 : tyOk Go.Proofs.Tryz.prog 32 (.agg [(0, 2), (2, 2), (4, 16)] [.sc (.int .i64 0), .sc (.int .i64 0), .sc (.int .i64 0), .sc (.int .i64 0), .sc (.int .i64 0), .sc (.int .i64 0), .sc (.string ⟨#[]⟩), .sc (.string ⟨#[]⟩), .sc (.string ⟨#[]⟩), .sc (.string ⟨#[]⟩), .sc (.int .i64 0), .sc (.int .i64 0), .sc (.string ⟨#[]⟩), .sc (.string ⟨#[]⟩), .sc (.int .i64 0), .sc (.string ⟨#[]⟩), .row [], .sc (.int .i64 0), .row [], .row []]) := ⟨by kernel_rfl, by kernel_rfl, by kernel_rfl⟩
theorem k_33 : tyOk Go.Proofs.Tryz.prog 33 (.agg [(0, 2), (2, 2), (4, 16)] [.sc (.int .i64 0), .sc (.int .i64 0), .sc (.int .i64 0), .sc (.int .i64 0), .sc (.int .i64 0), .sc (.int .i64 0), .sc (.string ⟨#[]⟩), .sc (.string ⟨#[]⟩), .sc (.string ⟨#[]⟩), .sc (.string ⟨#[]⟩), .sc (.int .i64 0), .sc (.int .i64 0), .sc (.string ⟨#[]⟩), .sc (.string ⟨#[]⟩), .sc (.int .i64 0), .sc (.string ⟨#[]⟩), .row [], .sc (.int .i64 0), .row [], .row []]) := ⟨by kernel_rfl, by kernel_rfl, by kernel_rfl⟩
theorem k_34 : tyOk Go.Proofs.Tryz.prog 34 (.slice 5 1 1) := ⟨by kernel_rfl, by kernel_rfl, by kernel_rfl, by kernel_rfl⟩
theorem k_35 : tyOk Go.Proofs.Tryz.prog 35 (.one [.sc .nilFunc]) := ⟨by kernel_rfl, by kernel_rfl⟩
theorem k_36 : tyOk Go.Proofs.Tryz.prog 36 (.one [.sc .nilFunc]) := ⟨by kernel_rfl, by kernel_rfl⟩
theorem k_37 : tyOk Go.Proofs.Tryz.prog 37 (.one [.sc .nilFunc]) := ⟨by kernel_rfl, by kernel_rfl⟩
theorem k_38 : tyOk Go.Proofs.Tryz.prog 38 (.one [.sc .nilFunc]) := ⟨by kernel_rfl, by kernel_rfl⟩
theorem k_39 : tyOk Go.Proofs.Tryz.prog 39 (.one [.sc .nilFunc]) := ⟨by kernel_rfl, by kernel_rfl⟩
theorem k_40 : tyOk Go.Proofs.Tryz.prog 40 (.one [.sc .nilFunc]) := ⟨by kernel_rfl, by kernel_rfl⟩
theorem k_41 : tyOk Go.Proofs.Tryz.prog 41 (.one [.sc (.pointer none)]) := ⟨by kernel_rfl, by kernel_rfl⟩
theorem k_42 : tyOk Go.Proofs.Tryz.prog 42 (.one [.sc .nilFunc]) := ⟨by kernel_rfl, by kernel_rfl⟩
theorem k_43 : tyOk Go.Proofs.Tryz.prog 43 (.one [.sc .nilFunc]) := ⟨by kernel_rfl, by kernel_rfl⟩
theorem k_44 : tyOk Go.Proofs.Tryz.prog 44 (.one [.sc (.int .i64 0)]) := ⟨by kernel_rfl, by kernel_rfl⟩
theorem k_45 : tyOk Go.Proofs.Tryz.prog 45 (.one [.sc .nilFunc]) := ⟨by kernel_rfl, by kernel_rfl⟩
theorem k_46 : tyOk Go.Proofs.Tryz.prog 46 (.slice 34 1 24) := ⟨by kernel_rfl, by kernel_rfl, by kernel_rfl, by kernel_rfl⟩
theorem k_48 : tyOk Go.Proofs.Tryz.prog 48 (.one [.sc .nilFunc]) := ⟨by kernel_rfl, by kernel_rfl⟩
theorem k_49 : tyOk Go.Proofs.Tryz.prog 49 (.one [.sc .nilFunc]) := ⟨by kernel_rfl, by kernel_rfl⟩
theorem k_50 : tyOk Go.Proofs.Tryz.prog 50 (.one [.sc .nilFunc]) := ⟨by kernel_rfl, by kernel_rfl⟩
theorem k_51 : tyOk Go.Proofs.Tryz.prog 51 (.slice 33 20 264) := ⟨by kernel_rfl, by kernel_rfl, by kernel_rfl, by kernel_rfl⟩
theorem k_52 : tyOk Go.Proofs.Tryz.prog 52 (.one [.sc .nilFunc]) := ⟨by kernel_rfl, by kernel_rfl⟩
theorem k_53 : tyOk Go.Proofs.Tryz.prog 53 (.one [.sc (.pointer none)]) := ⟨by kernel_rfl, by kernel_rfl⟩
theorem k_55 : tyOk Go.Proofs.Tryz.prog 55 (.one [.sc .nilFunc]) := ⟨by kernel_rfl, by kernel_rfl⟩
theorem k_56 : tyOk Go.Proofs.Tryz.prog 56 (.slice 23 2 16) := ⟨by kernel_rfl, by kernel_rfl, by kernel_rfl, by kernel_rfl⟩
theorem k_57 : tyOk Go.Proofs.Tryz.prog 57 (.slice 28 7 96) := ⟨by kernel_rfl, by kernel_rfl, by kernel_rfl, by kernel_rfl⟩
theorem k_59 : tyOk Go.Proofs.Tryz.prog 59 (.one [.sc .nilFunc]) := ⟨by kernel_rfl, by kernel_rfl⟩
theorem k_61 : tyOk Go.Proofs.Tryz.prog 61 (.one [.sc .nilFunc]) := ⟨by kernel_rfl, by kernel_rfl⟩
theorem k_62 : tyOk Go.Proofs.Tryz.prog 62 (.one [.sc .nilFunc]) := ⟨by kernel_rfl, by kernel_rfl⟩
theorem k_64 : tyOk Go.Proofs.Tryz.prog 64 (.one [.sc .nilFunc]) := ⟨by kernel_rfl, by kernel_rfl⟩
theorem k_65 : tyOk Go.Proofs.Tryz.prog 65 (.one [.sc .nilFunc]) := ⟨by kernel_rfl, by kernel_rfl⟩
theorem k_66 : tyOk Go.Proofs.Tryz.prog 66 (.one [.sc .nilFunc]) := ⟨by kernel_rfl, by kernel_rfl⟩
theorem k_68 : tyOk Go.Proofs.Tryz.prog 68 (.one [.sc .nilFunc]) := ⟨by kernel_rfl, by kernel_rfl⟩
theorem k_69 : tyOk Go.Proofs.Tryz.prog 69 (.one [.sc .nilFunc]) := ⟨by kernel_rfl, by kernel_rfl⟩
theorem k_70 : tyOk Go.Proofs.Tryz.prog 70 (.one [.sc .nilFunc]) := ⟨by kernel_rfl, by kernel_rfl⟩
theorem k_71 : tyOk Go.Proofs.Tryz.prog 71 (.one [.sc .nilFunc]) := ⟨by kernel_rfl, by kernel_rfl⟩
theorem k_72 : tyOk Go.Proofs.Tryz.prog 72 (.one [.sc .nilFunc]) := ⟨by kernel_rfl, by kernel_rfl⟩
theorem k_73 : tyOk Go.Proofs.Tryz.prog 73 (.one [.sc .nilFunc]) := ⟨by kernel_rfl, by kernel_rfl⟩
theorem k_74 : tyOk Go.Proofs.Tryz.prog 74 (.one [.sc .nilFunc]) := ⟨by kernel_rfl, by kernel_rfl⟩
theorem k_75 : tyOk Go.Proofs.Tryz.prog 75 (.one [.sc .nilFunc]) := ⟨by kernel_rfl, by kernel_rfl⟩
theorem k_76 : tyOk Go.Proofs.Tryz.prog 76 (.one [.sc .nilFunc]) := ⟨by kernel_rfl, by kernel_rfl⟩
theorem k_77 : tyOk Go.Proofs.Tryz.prog 77 (.one [.sc .nilFunc]) := ⟨by kernel_rfl, by kernel_rfl⟩
theorem k_78 : tyOk Go.Proofs.Tryz.prog 78 (.one [.sc .nilFunc]) := ⟨by kernel_rfl, by kernel_rfl⟩
theorem k_79 : tyOk Go.Proofs.Tryz.prog 79 (.one [.sc .nilFunc]) := ⟨by kernel_rfl, by kernel_rfl⟩
theorem k_80 : tyOk Go.Proofs.Tryz.prog 80 (.one [.sc .nilFunc]) := ⟨by kernel_rfl, by kernel_rfl⟩
theorem k_81 : tyOk Go.Proofs.Tryz.prog 81 (.one [.sc .nilFunc]) := ⟨by kernel_rfl, by kernel_rfl⟩
theorem k_82 : tyOk Go.Proofs.Tryz.prog 82 (.one [.sc .nilFunc]) := ⟨by kernel_rfl, by kernel_rfl⟩
theorem k_83 : tyOk Go.Proofs.Tryz.prog 83 (.one [.sc .nilFunc]) := ⟨by kernel_rfl, by kernel_rfl⟩
theorem k_84 : tyOk Go.Proofs.Tryz.prog 84 (.one [.sc .nilFunc]) := ⟨by kernel_rfl, by kernel_rfl⟩
theorem k_85 : tyOk Go.Proofs.Tryz.prog 85 (.one [.sc .nilFunc]) := ⟨by kernel_rfl, by kernel_rfl⟩
theorem k_86 : tyOk Go.Proofs.Tryz.prog 86 (.one [.sc .nilFunc]) := ⟨by kernel_rfl, by kernel_rfl⟩
theorem k_87 : tyOk Go.Proofs.Tryz.prog 87 (.one [.sc .nilFunc]) := ⟨by kernel_rfl, by kernel_rfl⟩
theorem k_88 : tyOk Go.Proofs.Tryz.prog 88 (.one [.sc .nilFunc]) := ⟨by kernel_rfl, by kernel_rfl⟩
theorem k_89 : tyOk Go.Proofs.Tryz.prog 89 (.agg [(0, 1), (1, 1), (2, 1), (3, 1)] [.row [], .sc (.int .i64 0), .sc (.int .i64 0), .sc (.bool false)]) := ⟨by kernel_rfl, by kernel_rfl, by kernel_rfl⟩
theorem k_90 : tyOk Go.Proofs.Tryz.prog 90 (.agg [(0, 1), (1, 1), (2, 1), (3, 1)] [.row [], .sc (.int .i64 0), .sc (.int .i64 0), .sc (.bool false)]) := ⟨by kernel_rfl, by kernel_rfl, by kernel_rfl⟩
theorem k_91 : tyOk Go.Proofs.Tryz.prog 91 (.one [.sc .nilFunc]) := ⟨by kernel_rfl, by kernel_rfl⟩
theorem k_92 : tyOk Go.Proofs.Tryz.prog 92 (.arr 6 3 1 [.sc (.int .i64 0), .sc (.int .i64 0), .sc (.int .i64 0), .sc (.int .i64 0), .sc (.int .i64 0), .sc (.int .i64 0)]) := ⟨by kernel_rfl, by kernel_rfl, by kernel_rfl⟩
theorem k_93 : tyOk Go.Proofs.Tryz.prog 93 (.arr 6 3 1 [.sc (.int .i64 0), .sc (.int .i64 0), .sc (.int .i64 0), .sc (.int .i64 0), .sc (.int .i64 0), .sc (.int .i64 0)]) := ⟨by kernel_rfl, by kernel_rfl, by kernel_rfl⟩
theorem k_94 : tyOk Go.Proofs.Tryz.prog 94 (.agg [(0, 1), (1, 1), (2, 1), (3, 1), (4, 2), (6, 6), (12, 3), (15, 1)] [.sc (.int .i64 0), .sc (.int .i64 0), .sc (.string ⟨#[]⟩), .sc (.bool false), .sc (.int .i64 0), .sc (.int .i64 0), .sc (.int .i64 0), .sc (.int .i64 0), .sc (.int .i64 0), .sc (.int .i64 0), .sc (.int .i64 0), .sc (.int .i64 0), .sc (.int .i64 0), .sc (.string ⟨#[]⟩), .sc (.string ⟨#[]⟩), .sc (.int .i64 0)]) := ⟨by kernel_rfl, by kernel_rfl, by kernel_rfl⟩
theorem k_95 : tyOk Go.Proofs.Tryz.prog 95 (.agg [(0, 1), (1, 1), (2, 1), (3, 1), (4, 2), (6, 6), (12, 3), (15, 1)] [.sc (.int .i64 0), .sc (.int .i64 0), .sc (.string ⟨#[]⟩), .sc (.bool false), .sc (.int .i64 0), .sc (.int .i64 0), .sc (.int .i64 0), .sc (.int .i64 0), .sc (.int .i64 0), .sc (.int .i64 0), .sc (.int .i64 0), .sc (.int .i64 0), .sc (.int .i64 0), .sc (.string ⟨#[]⟩), .sc (.string ⟨#[]⟩), .sc (.int .i64 0)]) := ⟨by kernel_rfl, by kernel_rfl, by kernel_rfl⟩
theorem k_96 : tyOk Go.Proofs.Tryz.prog 96 (.one [.sc .nilFunc]) := ⟨by kernel_rfl, by kernel_rfl⟩
theorem k_98 : tyOk Go.Proofs.Tryz.prog 98 (.one [.sc .nilFunc]) := ⟨by kernel_rfl, by kernel_rfl⟩
theorem k_100 : tyOk Go.Proofs.Tryz.prog 100 (.one [.sc .nilFunc]) := ⟨by kernel_rfl, by kernel_rfl⟩
theorem k_102 : tyOk Go.Proofs.Tryz.prog 102 (.one [.sc .nilFunc]) := ⟨by kernel_rfl, by kernel_rfl⟩
theorem k_103 : tyOk Go.Proofs.Tryz.prog 103 (.one [.sc .nilFunc]) := ⟨by kernel_rfl, by kernel_rfl⟩
theorem k_104 : tyOk Go.Proofs.Tryz.prog 104 (.one [.sc .nilFunc]) := ⟨by kernel_rfl, by kernel_rfl⟩
theorem k_105 : tyOk Go.Proofs.Tryz.prog 105 (.agg [(0, 20), (20, 1), (21, 1), (22, 1)] [.sc (.int .i64 0), .sc (.int .i64 0), .sc (.int .i64 0), .sc (.int .i64 0), .sc (.int .i64 0), .sc (.int .i64 0), .sc (.string ⟨#[]⟩), .sc (.string ⟨#[]⟩), .sc (.string ⟨#[]⟩), .sc (.string ⟨#[]⟩), .sc (.int .i64 0), .sc (.int .i64 0), .sc (.string ⟨#[]⟩), .sc (.string ⟨#[]⟩), .sc (.int .i64 0), .sc (.string ⟨#[]⟩), .row [], .sc (.int .i64 0), .row [], .row [], .sc (.int .i64 0), .row [], .sc (.int .i64 0)]) := ⟨by kernel_rfl, by kernel_rfl, by kernel_rfl⟩
theorem k_106 : tyOk Go.Proofs.Tryz.prog 106 (.agg [(0, 20), (20, 1), (21, 1), (22, 1)] [.sc (.int .i64 0), .sc (.int .i64 0), .sc (.int .i64 0), .sc (.int .i64 0), .sc (.int .i64 0), .sc (.int .i64 0), .sc (.string ⟨#[]⟩), .sc (.string ⟨#[]⟩), .sc (.string ⟨#[]⟩), .sc (.string ⟨#[]⟩), .sc (.int .i64 0), .sc (.int .i64 0), .sc (.string ⟨#[]⟩), .sc (.string ⟨#[]⟩), .sc (.int .i64 0), .sc (.string ⟨#[]⟩), .row [], .sc (.int .i64 0), .row [], .row [], .sc (.int .i64 0), .row [], .sc (.int .i64 0)]) := ⟨by kernel_rfl, by kernel_rfl, by kernel_rfl⟩
theorem k_107 : tyOk Go.Proofs.Tryz.prog 107 (.one [.sc .nilFunc]) := ⟨by kernel_rfl, by kernel_rfl⟩
theorem k_108 : tyOk Go.Proofs.Tryz.prog 108 (.one [.sc .nilFunc]) := ⟨by kernel_rfl, by kernel_rfl⟩
theorem k_109 : tyOk Go.Proofs.Tryz.prog 109 (.one [.sc .nilFunc]) := ⟨by kernel_rfl, by kernel_rfl⟩
theorem k_111 : tyOk Go.Proofs.Tryz.prog 111 (.one [.sc (.map none)]) := ⟨by kernel_rfl, by kernel_rfl⟩
theorem k_112 : tyOk Go.Proofs.Tryz.prog 112 (.agg [(0, 1)] [.sc (.map none)]) := ⟨by kernel_rfl, by kernel_rfl, by kernel_rfl⟩
theorem k_113 : tyOk Go.Proofs.Tryz.prog 113 (.agg [(0, 1)] [.sc (.map none)]) := ⟨by kernel_rfl, by kernel_rfl, by kernel_rfl⟩
theorem k_114 : tyOk Go.Proofs.Tryz.prog 114 (.one [.sc .nilFunc]) := ⟨by kernel_rfl, by kernel_rfl⟩
theorem k_115 : tyOk Go.Proofs.Tryz.prog 115 (.one [.sc .nilFunc]) := ⟨by kernel_rfl, by kernel_rfl⟩
theorem k_116 : tyOk Go.Proofs.Tryz.prog 116 (.one [.sc .nilFunc]) := ⟨by kernel_rfl, by kernel_rfl⟩
theorem k_117 : tyOk Go.Proofs.Tryz.prog 117 (.one [.sc .nilFunc]) := ⟨by kernel_rfl, by kernel_rfl⟩
theorem k_118 : tyOk Go.Proofs.Tryz.prog 118 (.agg [(0, 1), (1, 1)] [.sc (.string ⟨#[]⟩), .sc (.string ⟨#[]⟩)]) := ⟨by kernel_rfl, by kernel_rfl, by kernel_rfl⟩
theorem k_119 : tyOk Go.Proofs.Tryz.prog 119 (.agg [(0, 1), (1, 1)] [.sc (.string ⟨#[]⟩), .sc (.string ⟨#[]⟩)]) := ⟨by kernel_rfl, by kernel_rfl, by kernel_rfl⟩
theorem k_120 : tyOk Go.Proofs.Tryz.prog 120 (.one [.sc .nilFunc]) := ⟨by kernel_rfl, by kernel_rfl⟩
theorem k_121 : tyOk Go.Proofs.Tryz.prog 121 (.one [.sc .nilFunc]) := ⟨by kernel_rfl, by kernel_rfl⟩
theorem k_122 : tyOk Go.Proofs.Tryz.prog 122 (.one [.sc .nilFunc]) := ⟨by kernel_rfl, by kernel_rfl⟩
theorem k_123 : tyOk Go.Proofs.Tryz.prog 123 (.one [.sc .nilFunc]) := ⟨by kernel_rfl, by kernel_rfl⟩
theorem k_124 : tyOk Go.Proofs.Tryz.prog 124 (.one [.sc .nilFunc]) := ⟨by kernel_rfl, by kernel_rfl⟩
theorem k_126 : tyOk Go.Proofs.Tryz.prog 126 (.one [.sc .nilFunc]) := ⟨by kernel_rfl, by kernel_rfl⟩
theorem k_127 : tyOk Go.Proofs.Tryz.prog 127 (.one [.sc .nilFunc]) := ⟨by kernel_rfl, by kernel_rfl⟩
theorem k_128 : tyOk Go.Proofs.Tryz.prog 128 (.one [.sc .nilFunc]) := ⟨by kernel_rfl, by kernel_rfl⟩
theorem k_129 : tyOk Go.Proofs.Tryz.prog 129 (.one [.sc .nilFunc]) := ⟨by kernel_rfl, by kernel_rfl⟩
theorem k_131 : tyOk Go.Proofs.Tryz.prog 131 (.one [.sc .nilFunc]) := ⟨by kernel_rfl, by kernel_rfl⟩
theorem k_132 : tyOk Go.Proofs.Tryz.prog 132 (.one [.sc .nilFunc]) := ⟨by kernel_rfl, by kernel_rfl⟩
theorem k_133 : tyOk Go.Proofs.Tryz.prog 133 (.one [.sc .nilFunc]) := ⟨by kernel_rfl, by kernel_rfl⟩
theorem k_134 : tyOk Go.Proofs.Tryz.prog 134 (.one [.sc .nilFunc]) := ⟨by kernel_rfl, by kernel_rfl⟩
theorem k_135 : tyOk Go.Proofs.Tryz.prog 135 (.one [.sc .nilFunc]) := ⟨by kernel_rfl, by kernel_rfl⟩
theorem k_136 : tyOk Go.Proofs.Tryz.prog 136 (.one [.sc .nilFunc]) := ⟨by kernel_rfl, by kernel_rfl⟩
theorem k_137 : tyOk Go.Proofs.Tryz.prog 137 (.one [.sc .nilFunc]) := ⟨by kernel_rfl, by kernel_rfl⟩
theorem k_138 : tyOk Go.Proofs.Tryz.prog 138 (.one [.sc .nilFunc]) := ⟨by kernel_rfl, by kernel_rfl⟩
theorem k_139 : tyOk Go.Proofs.Tryz.prog 139 (.one [.sc .nilFunc]) := ⟨by kernel_rfl, by kernel_rfl⟩
theorem k_140 : tyOk Go.Proofs.Tryz.prog 140 (.one [.sc .nilFunc]) := ⟨by kernel_rfl, by kernel_rfl⟩
theorem k_141 : tyOk Go.Proofs.Tryz.prog 141 (.one [.sc .nilFunc]) := ⟨by kernel_rfl, by kernel_rfl⟩
theorem k_143 : tyOk Go.Proofs.Tryz.prog 143 (.one [.sc .nilFunc]) := ⟨by kernel_rfl, by kernel_rfl⟩
theorem k_145 : tyOk Go.Proofs.Tryz.prog 145 (.one [.sc .nilFunc]) := ⟨by kernel_rfl, by kernel_rfl⟩
theorem k_147 : tyOk Go.Proofs.Tryz.prog 147 (.one [.sc .nilFunc]) := ⟨by kernel_rfl, by kernel_rfl⟩
theorem k_149 : tyOk Go.Proofs.Tryz.prog 149 (.one [.sc .nilFunc]) := ⟨by kernel_rfl, by kernel_rfl⟩
theorem k_150 : tyOk Go.Proofs.Tryz.prog 150 (.one [.sc .nilFunc]) := ⟨by kernel_rfl, by kernel_rfl⟩
theorem k_151 : tyOk Go.Proofs.Tryz.prog 151 (.slice 25 3 40) := ⟨by kernel_rfl, by kernel_rfl, by kernel_rfl, by kernel_rfl⟩
theorem k_152 : tyOk Go.Proofs.Tryz.prog 152 (.one [.sc .nilFunc]) := ⟨by kernel_rfl, by kernel_rfl⟩
theorem k_153 : tyOk Go.Proofs.Tryz.prog 153 (.one [.sc .nilFunc]) := ⟨by kernel_rfl, by kernel_rfl⟩
theorem k_154 : tyOk Go.Proofs.Tryz.prog 154 (.one [.sc .nilFunc]) := ⟨by kernel_rfl, by kernel_rfl⟩
theorem k_156 : tyOk Go.Proofs.Tryz.prog 156 (.one [.sc .nilFunc]) := ⟨by kernel_rfl, by kernel_rfl⟩
theorem k_157 : tyOk Go.Proofs.Tryz.prog 157 (.one [.sc .nilFunc]) := ⟨by kernel_rfl, by kernel_rfl⟩
theorem k_158 : tyOk Go.Proofs.Tryz.prog 158 (.one [.sc .nilFunc]) := ⟨by kernel_rfl, by kernel_rfl⟩
theorem k_159 : tyOk Go.Proofs.Tryz.prog 159 (.one [.sc .nilFunc]) := ⟨by kernel_rfl, by kernel_rfl⟩
theorem k_160 : tyOk Go.Proofs.Tryz.prog 160 (.one [.sc .nilFunc]) := ⟨by kernel_rfl, by kernel_rfl⟩
theorem k_161 : tyOk Go.Proofs.Tryz.prog 161 (.one [.sc .nilFunc]) := ⟨by kernel_rfl, by kernel_rfl⟩
theorem k_162 : tyOk Go.Proofs.Tryz.prog 162 (.one [.sc .nilFunc]) := ⟨by kernel_rfl, by kernel_rfl⟩
theorem k_163 : tyOk Go.Proofs.Tryz.prog 163 (.one [.sc .nilFunc]) := ⟨by kernel_rfl, by kernel_rfl⟩
theorem k_164 : tyOk Go.Proofs.Tryz.prog 164 (.one [.sc .nilFunc]) := ⟨by kernel_rfl, by kernel_rfl⟩
theorem k_165 : tyOk Go.Proofs.Tryz.prog 165 (.one [.sc (.int .u64 0)]) := ⟨by kernel_rfl, by kernel_rfl⟩
theorem k_166 : tyOk Go.Proofs.Tryz.prog 166 (.one [.sc (.int .u64 0)]) := ⟨by kernel_rfl, by kernel_rfl⟩
theorem k_167 : tyOk Go.Proofs.Tryz.prog 167 (.one [.sc .nilFunc]) := ⟨by kernel_rfl, by kernel_rfl⟩
theorem k_168 : tyOk Go.Proofs.Tryz.prog 168 (.one [.sc .nilFunc]) := ⟨by kernel_rfl, by kernel_rfl⟩
theorem k_169 : tyOk Go.Proofs.Tryz.prog 169 (.one [.sc .nilFunc]) := ⟨by kernel_rfl, by kernel_rfl⟩
theorem k_170 : tyOk Go.Proofs.Tryz.prog 170 (.one [.sc .nilFunc]) := ⟨by kernel_rfl, by kernel_rfl⟩
theorem k_171 : tyOk Go.Proofs.Tryz.prog 171 (.one [.sc .nilFunc]) := ⟨by kernel_rfl, by kernel_rfl⟩
theorem k_172 : tyOk Go.Proofs.Tryz.prog 172 (.one [.sc .nilFunc]) := ⟨by kernel_rfl, by kernel_rfl⟩
theorem k_173 : tyOk Go.Proofs.Tryz.prog 173 (.one [.sc .nilFunc]) := ⟨by kernel_rfl, by kernel_rfl⟩
theorem k_174 : tyOk Go.Proofs.Tryz.prog 174 (.one [.sc .nilFunc]) := ⟨by kernel_rfl, by kernel_rfl⟩
theorem k_175 : tyOk Go.Proofs.Tryz.prog 175 (.one [.sc .nilFunc]) := ⟨by kernel_rfl, by kernel_rfl⟩
theorem k_176 : tyOk Go.Proofs.Tryz.prog 176 (.one [.sc .nilFunc]) := ⟨by kernel_rfl, by kernel_rfl⟩
theorem k_177 : tyOk Go.Proofs.Tryz.prog 177 (.one [.sc .nilFunc]) := ⟨by kernel_rfl, by kernel_rfl⟩
theorem k_178 : tyOk Go.Proofs.Tryz.prog 178 (.one [.sc .nilFunc]) := ⟨by kernel_rfl, by kernel_rfl⟩
theorem k_179 : tyOk Go.Proofs.Tryz.prog 179 (.one [.sc .nilFunc]) := ⟨by kernel_rfl, by kernel_rfl⟩
theorem k_180 : tyOk Go.Proofs.Tryz.prog 180 (.one [.sc .nilFunc]) := ⟨by kernel_rfl, by kernel_rfl⟩
theorem k_181 : tyOk Go.Proofs.Tryz.prog 181 (.one [.sc (.int .i64 0)]) := ⟨by kernel_rfl, by kernel_rfl⟩
theorem k_183 : tyOk Go.Proofs.Tryz.prog 183 (.one [.sc .nilFunc]) := ⟨by kernel_rfl, by kernel_rfl⟩
theorem k_184 : tyOk Go.Proofs.Tryz.prog 184 (.one [.sc .nilFunc]) := ⟨by kernel_rfl, by kernel_rfl⟩
theorem k_185 : tyOk Go.Proofs.Tryz.prog 185 (.one [.sc .nilFunc]) := ⟨by kernel_rfl, by kernel_rfl⟩
theorem k_187 : tyOk Go.Proofs.Tryz.prog 187 (.one [.sc .nilFunc]) := ⟨by kernel_rfl, by kernel_rfl⟩
theorem k_188 : tyOk Go.Proofs.Tryz.prog 188 (.one [.sc .nilFunc]) := ⟨by kernel_rfl, by kernel_rfl⟩
theorem k_189 : tyOk Go.Proofs.Tryz.prog 189 (.one [.sc (.int .u32 0)]) := ⟨by kernel_rfl, by kernel_rfl⟩
theorem k_190 : tyOk Go.Proofs.Tryz.prog 190 (.one [.sc .nilFunc]) := ⟨by kernel_rfl, by kernel_rfl⟩
theorem k_192 : tyOk Go.Proofs.Tryz.prog 192 (.one [.sc .nilFunc]) := ⟨by kernel_rfl, by kernel_rfl⟩
theorem k_193 : tyOk Go.Proofs.Tryz.prog 193 (.one [.sc (.int .u64 0)]) := ⟨by kernel_rfl, by kernel_rfl⟩
theorem k_194 : tyOk Go.Proofs.Tryz.prog 194 (.one [.sc .nilFunc]) := ⟨by kernel_rfl, by kernel_rfl⟩
theorem k_195 : tyOk Go.Proofs.Tryz.prog 195 (.one [.sc .nilFunc]) := ⟨by kernel_rfl, by kernel_rfl⟩
theorem k_196 : tyOk Go.Proofs.Tryz.prog 196 (.one [.sc .nilFunc]) := ⟨by kernel_rfl, by kernel_rfl⟩
theorem k_197 : tyOk Go.Proofs.Tryz.prog 197 (.one [.sc (.pointer none)]) := ⟨by kernel_rfl, by kernel_rfl⟩
theorem k_198 : tyOk Go.Proofs.Tryz.prog 198 (.one [.sc .nilFunc]) := ⟨by kernel_rfl, by kernel_rfl⟩
theorem k_199 : tyOk Go.Proofs.Tryz.prog 199 (.one [.sc (.pointer none)]) := ⟨by kernel_rfl, by kernel_rfl⟩
theorem k_201 : tyOk Go.Proofs.Tryz.prog 201 (.one [.sc .nilFunc]) := ⟨by kernel_rfl, by kernel_rfl⟩
theorem k_202 : tyOk Go.Proofs.Tryz.prog 202 (.one [.sc .nilFunc]) := ⟨by kernel_rfl, by kernel_rfl⟩
theorem k_203 : tyOk Go.Proofs.Tryz.prog 203 (.agg [(0, 1), (1, 1), (2, 1), (3, 1)] [.sc (.pointer none), .sc (.pointer none), .sc (.pointer none), .sc (.string ⟨#[]⟩)]) := ⟨by kernel_rfl, by kernel_rfl, by kernel_rfl⟩
theorem k_204 : tyOk Go.Proofs.Tryz.prog 204 (.agg [(0, 1), (1, 1), (2, 1), (3, 1)] [.sc (.pointer none), .sc (.pointer none), .sc (.pointer none), .sc (.string ⟨#[]⟩)]) := ⟨by kernel_rfl, by kernel_rfl, by kernel_rfl⟩
theorem k_205 : tyOk Go.Proofs.Tryz.prog 205 (.arr 0 16 1 []) := ⟨by kernel_rfl, by kernel_rfl, by kernel_rfl⟩
theorem k_206 : tyOk Go.Proofs.Tryz.prog 206 (.agg [(0, 0)] []) := ⟨by kernel_rfl, by kernel_rfl, by kernel_rfl⟩
theorem k_207 : tyOk Go.Proofs.Tryz.prog 207 (.agg [(0, 0)] []) := ⟨by kernel_rfl, by kernel_rfl, by kernel_rfl⟩
theorem k_208 : tyOk Go.Proofs.Tryz.prog 208 (.one [.sc (.int .u8 0)]) := ⟨by kernel_rfl, by kernel_rfl⟩
theorem k_209 : tyOk Go.Proofs.Tryz.prog 209 (.one [.sc (.int .u8 0)]) := ⟨by kernel_rfl, by kernel_rfl⟩
theorem k_210 : tyOk Go.Proofs.Tryz.prog 210 (.one [.sc .nilFunc]) := ⟨by kernel_rfl, by kernel_rfl⟩
theorem k_211 : tyOk Go.Proofs.Tryz.prog 211 (.one [.sc (.pointer none)]) := ⟨by kernel_rfl, by kernel_rfl⟩
theorem k_212 : tyOk Go.Proofs.Tryz.prog 212 (.one [.sc (.int .i32 0)]) := ⟨by kernel_rfl, by kernel_rfl⟩
theorem k_213 : tyOk Go.Proofs.Tryz.prog 213 (.one [.sc (.int .i32 0)]) := ⟨by kernel_rfl, by kernel_rfl⟩
theorem k_214 : tyOk Go.Proofs.Tryz.prog 214 (.agg [(0, 1), (1, 1), (2, 1), (3, 1), (4, 1), (5, 1), (6, 1), (7, 1), (8, 1), (9, 1), (10, 1)] [.sc (.int .u64 0), .sc (.int .u64 0), .sc (.int .u32 0), .sc (.int .u8 0), .sc (.int .u8 0), .sc (.int .u8 0), .sc (.int .u8 0), .sc .nilFunc, .sc (.pointer none), .sc (.int .i32 0), .sc (.int .i32 0)]) := ⟨by kernel_rfl, by kernel_rfl, by kernel_rfl⟩
theorem k_215 : tyOk Go.Proofs.Tryz.prog 215 (.agg [(0, 1), (1, 1), (2, 1), (3, 1), (4, 1), (5, 1), (6, 1), (7, 1), (8, 1), (9, 1), (10, 1)] [.sc (.int .u64 0), .sc (.int .u64 0), .sc (.int .u32 0), .sc (.int .u8 0), .sc (.int .u8 0), .sc (.int .u8 0), .sc (.int .u8 0), .sc .nilFunc, .sc (.pointer none), .sc (.int .i32 0), .sc (.int .i32 0)]) := ⟨by kernel_rfl, by kernel_rfl, by kernel_rfl⟩
def tt : TT := .node (none) (.node (some (.one [.sc .nilFunc])) (.node (some (.one [.sc (.int .i64 0)])) (.node (some (.agg [(0, 1), (1, 1), (2, 1), (3, 1)] [.sc (.int .i64 0), .sc (.int .i64 0), .sc (.bool false), .sc (.int .u8 0)])) (.node (some (.one [.sc (.pointer none)])) (.node (some (.agg [(0, 1), (1, 3), (4, 1), (5, 1), (6, 1), (7, 7), (14, 1), (15, 1)] [.sc (.int .i64 0), .sc (.int .i64 0), .sc (.string ⟨#[]⟩), .sc (.string ⟨#[]⟩), .sc (.string ⟨#[]⟩), .sc (.string ⟨#[]⟩), .sc (.int .i64 0), .sc (.int .i64 0), .sc (.string ⟨#[]⟩), .sc (.string ⟨#[]⟩), .sc (.int .i64 0), .sc (.string ⟨#[]⟩), .row [], .sc (.int .i64 0), .row [], .row []])) (.node (none) (.node (some (.one [.sc .nilFunc])) (.leaf) (.leaf)) (.leaf)) (.node (some (.agg [(0, 1), (1, 1), (2, 1), (3, 1), (4, 2), (6, 6), (12, 3), (15, 1)] [.sc (.int .i64 0), .sc (.int .i64 0), .sc (.string ⟨#[]⟩), .sc (.bool false), .sc (.int .i64 0), .sc (.int .i64 0), .sc (.int .i64 0), .sc (.int .i64 0), .sc (.int .i64 0), .sc (.int .i64 0), .sc (.int .i64 0), .sc (.int .i64 0), .sc (.int .i64 0), .sc (.string ⟨#[]⟩), .sc (.string ⟨#[]⟩), .sc (.int .i64 0)])) (.node (some (.one [.sc .nilFunc])) (.leaf) (.leaf)) (.leaf))) (.node (none) (.node (some (.one [.sc .nilFunc])) (.node (some (.one [.sc .nilFunc])) (.leaf) (.leaf)) (.node (some (.agg [(0, 0)] [])) (.leaf) (.leaf))) (.node (some (.one [.sc (.map none)])) (.node (some (.one [.sc .nilFunc])) (.leaf) (.leaf)) (.leaf)))) (.node (some (.agg [(0, 1), (1, 1)] [.sc (.int .i64 0), .sc (.int .i64 0)])) (.node (some (.one [.sc .nilFunc])) (.node (some (.one [.sc .nilFunc])) (.node (some (.one [.sc .nilFunc])) (.leaf) (.leaf)) (.node (some (.one [.sc (.pointer none)])) (.leaf) (.leaf))) (.node (some (.one [.sc .nilFunc])) (.node (some (.one [.sc .nilFunc])) (.leaf) (.leaf)) (.leaf))) (.node (some (.one [.sc .nilFunc])) (.node (some (.one [.sc .nilFunc])) (.node (some (.slice 25 3 40)) (.leaf) (.leaf)) (.node (some (.agg [(0, 1), (1, 1), (2, 1), (3, 1), (4, 1), (5, 1), (6, 1), (7, 1), (8, 1), (9, 1), (10, 1)] [.sc (.int .u64 0), .sc (.int .u64 0), .sc (.int .u32 0), .sc (.int .u8 0), .sc (.int .u8 0), .sc (.int .u8 0), .sc (.int .u8 0), .sc .nilFunc, .sc (.pointer none), .sc (.int .i32 0), .sc (.int .i32 0)])) (.leaf) (.leaf))) (.node (some (.agg [(0, 1), (1, 1)] [.sc (.string ⟨#[]⟩), .sc (.string ⟨#[]⟩)])) (.node (some (.one [.sc .nilFunc])) (.leaf) (.leaf)) (.leaf))))) (.node (some (.str)) (.node (some (.agg [(0, 1)] [.sc (.pointer none)])) (.node (some (.one [.sc .nilFunc])) (.node (none) (.node (some (.one [.sc .nilFunc])) (.leaf) (.leaf)) (.node (some (.one [.sc .nilFunc])) (.leaf) (.leaf))) (.node (none) (.node (some (.one [.sc .nilFunc])) (.leaf) (.leaf)) (.leaf))) (.node (some (.slice 33 20 264)) (.node (some (.one [.sc .nilFunc])) (.node (some (.one [.sc .nilFunc])) (.leaf) (.leaf)) (.node (some (.one [.sc (.pointer none)])) (.leaf) (.leaf))) (.node (some (.one [.sc .nilFunc])) (.node (some (.one [.sc .nilFunc])) (.leaf) (.leaf)) (.leaf)))) (.node (some (.agg [(0, 3), (3, 1), (4, 1), (5, 1), (6, 1)] [.sc (.int .i64 0), .sc (.string ⟨#[]⟩), .sc (.string ⟨#[]⟩), .sc (.int .i64 0), .sc (.string ⟨#[]⟩), .row [], .sc (.int .i64 0)])) (.node (some (.one [.sc .nilFunc])) (.node (some (.one [.sc .nilFunc])) (.node (some (.one [.sc .nilFunc])) (.leaf) (.leaf)) (.node (some (.agg [(0, 1), (1, 1), (2, 1), (3, 1)] [.sc (.pointer none), .sc (.pointer none), .sc (.pointer none), .sc (.string ⟨#[]⟩)])) (.leaf) (.leaf))) (.node (some (.one [.sc .nilFunc])) (.node (some (.one [.sc .nilFunc])) (.leaf) (.leaf)) (.leaf))) (.node (some (.one [.sc .nilFunc])) (.node (some (.one [.sc .nilFunc])) (.leaf) (.leaf)) (.node (some (.one [.sc .nilFunc])) (.node (some (.one [.sc .nilFunc])) (.leaf) (.leaf)) (.leaf)))))) (.node (some (.one [.sc (.int .u8 0)])) (.node (some (.str)) (.node (some (.one [.sc (.pointer none)])) (.node (some (.agg [(0, 2), (2, 2), (4, 16)] [.sc (.int .i64 0), .sc (.int .i64 0), .sc (.int .i64 0), .sc (.int .i64 0), .sc (.int .i64 0), .sc (.int .i64 0), .sc (.string ⟨#[]⟩), .sc (.string ⟨#[]⟩), .sc (.string ⟨#[]⟩), .sc (.string ⟨#[]⟩), .sc (.int .i64 0), .sc (.int .i64 0), .sc (.string ⟨#[]⟩), .sc (.string ⟨#[]⟩), .sc (.int .i64 0), .sc (.string ⟨#[]⟩), .row [], .sc (.int .i64 0), .row [], .row []])) (.node (some (.one [.sc .nilFunc])) (.node (some (.one [.sc .nilFunc])) (.leaf) (.leaf)) (.node (some (.one [.sc (.int .u64 0)])) (.leaf) (.leaf))) (.node (none) (.node (some (.one [.sc .nilFunc])) (.leaf) (.leaf)) (.leaf))) (.node (some (.one [.sc .nilFunc])) (.node (some (.one [.sc .nilFunc])) (.node (some (.one [.sc .nilFunc])) (.leaf) (.leaf)) (.node (some (.one [.sc (.int .u8 0)])) (.leaf) (.leaf))) (.node (some (.agg [(0, 1)] [.sc (.map none)])) (.node (some (.one [.sc .nilFunc])) (.leaf) (.leaf)) (.leaf)))) (.node (some (.agg [(0, 1), (1, 1), (2, 1)] [.sc (.int .i64 0), .sc (.string ⟨#[]⟩), .sc (.string ⟨#[]⟩)])) (.node (some (.one [.sc (.pointer none)])) (.node (some (.one [.sc .nilFunc])) (.node (some (.one [.sc .nilFunc])) (.leaf) (.leaf)) (.node (some (.one [.sc .nilFunc])) (.leaf) (.leaf))) (.node (some (.agg [(0, 20), (20, 1), (21, 1), (22, 1)] [.sc (.int .i64 0), .sc (.int .i64 0), .sc (.int .i64 0), .sc (.int .i64 0), .sc (.int .i64 0), .sc (.int .i64 0), .sc (.string ⟨#[]⟩), .sc (.string ⟨#[]⟩), .sc (.string ⟨#[]⟩), .sc (.string ⟨#[]⟩), .sc (.int .i64 0), .sc (.int .i64 0), .sc (.string ⟨#[]⟩), .sc (.string ⟨#[]⟩), .sc (.int .i64 0), .sc (.string ⟨#[]⟩), .row [], .sc (.int .i64 0), .row [], .row [], .sc (.int .i64 0), .row [], .sc (.int .i64 0)])) (.node (some (.one [.sc .nilFunc])) (.leaf) (.leaf)) (.leaf))) (.node (some (.slice 28 7 96)) (.node (some (.agg [(0, 1), (1, 1), (2, 1), (3, 1)] [.row [], .sc (.int .i64 0), .sc (.int .i64 0), .sc (.bool false)])) (.node (some (.one [.sc .nilFunc])) (.leaf) (.leaf)) (.leaf)) (.node (some (.one [.sc .nilFunc])) (.node (some (.one [.sc .nilFunc])) (.leaf) (.leaf)) (.leaf))))) (.node (some (.agg [(0, 1), (1, 1)] [.sc (.string ⟨#[]⟩), .sc (.int .u64 0)])) (.node (some (.one [.sc (.int .i32 0)])) (.node (some (.one [.sc .nilFunc])) (.node (some (.one [.sc .nilFunc])) (.node (some (.one [.sc .nilFunc])) (.leaf) (.leaf)) (.node (some (.one [.sc (.pointer none)])) (.leaf) (.leaf))) (.node (none) (.node (some (.one [.sc (.int .u64 0)])) (.leaf) (.leaf)) (.leaf))) (.node (some (.one [.sc (.pointer none)])) (.node (some (.one [.sc .nilFunc])) (.node (some (.one [.sc .nilFunc])) (.leaf) (.leaf)) (.node (some (.one [.sc (.int .i32 0)])) (.leaf) (.leaf))) (.node (some (.one [.sc .nilFunc])) (.node (some (.one [.sc (.int .i64 0)])) (.leaf) (.leaf)) (.leaf)))) (.node (some (.slice 119 2 32)) (.node (some (.one [.sc .nilFunc])) (.node (some (.one [.sc .nilFunc])) (.node (some (.one [.sc .nilFunc])) (.leaf) (.leaf)) (.node (some (.arr 0 16 1 [])) (.leaf) (.leaf))) (.node (some (.one [.sc .nilFunc])) (.node (some (.one [.sc .nilFunc])) (.leaf) (.leaf)) (.leaf))) (.node (some (.one [.sc .nilFunc])) (.node (some (.arr 6 3 1 [.sc (.int .i64 0), .sc (.int .i64 0), .sc (.int .i64 0), .sc (.int .i64 0), .sc (.int .i64 0), .sc (.int .i64 0)])) (.node (some (.one [.sc .nilFunc])) (.leaf) (.leaf)) (.leaf)) (.node (none) (.node (some (.one [.sc (.int .u32 0)])) (.leaf) (.leaf)) (.leaf))))))) (.node (some (.one [.sc (.int .i64 0)])) (.node (some (.one [.sc (.bool false)])) (.node (some (.agg [(0, 1), (1, 1), (2, 1), (3, 1)] [.sc (.int .i64 0), .sc (.int .i64 0), .sc (.bool false), .sc (.int .u8 0)])) (.node (some (.one [.sc (.pointer none)])) (.node (some (.agg [(0, 2), (2, 2), (4, 16)] [.sc (.int .i64 0), .sc (.int .i64 0), .sc (.int .i64 0), .sc (.int .i64 0), .sc (.int .i64 0), .sc (.int .i64 0), .sc (.string ⟨#[]⟩), .sc (.string ⟨#[]⟩), .sc (.string ⟨#[]⟩), .sc (.string ⟨#[]⟩), .sc (.int .i64 0), .sc (.int .i64 0), .sc (.string ⟨#[]⟩), .sc (.string ⟨#[]⟩), .sc (.int .i64 0), .sc (.string ⟨#[]⟩), .row [], .sc (.int .i64 0), .row [], .row []])) (.node (some (.one [.sc .nilFunc])) (.node (some (.one [.sc .nilFunc])) (.leaf) (.leaf)) (.node (some (.one [.sc .nilFunc])) (.leaf) (.leaf))) (.node (some (.one [.sc .nilFunc])) (.node (some (.one [.sc .nilFunc])) (.leaf) (.leaf)) (.leaf))) (.node (some (.one [.sc .nilFunc])) (.node (some (.one [.sc .nilFunc])) (.leaf) (.node (some (.one [.sc (.int .u8 0)])) (.leaf) (.leaf))) (.node (some (.agg [(0, 1)] [.sc (.map none)])) (.node (some (.one [.sc .nilFunc])) (.leaf) (.leaf)) (.leaf)))) (.node (some (.agg [(0, 1), (1, 1), (2, 1)] [.sc (.int .i64 0), .sc (.string ⟨#[]⟩), .sc (.string ⟨#[]⟩)])) (.node (some (.one [.sc .nilFunc])) (.node (some (.one [.sc .nilFunc])) (.node (some (.one [.sc .nilFunc])) (.leaf) (.leaf)) (.leaf)) (.node (some (.one [.sc .nilFunc])) (.node (some (.one [.sc .nilFunc])) (.leaf) (.leaf)) (.leaf))) (.node (some (.slice 23 2 16)) (.node (some (.one [.sc .nilFunc])) (.node (some (.one [.sc .nilFunc])) (.leaf) (.leaf)) (.leaf)) (.node (some (.one [.sc .nilFunc])) (.node (some (.one [.sc .nilFunc])) (.leaf) (.leaf)) (.leaf))))) (.node (some (.one [.sc (.int .u64 0)])) (.node (none) (.node (some (.one [.sc .nilFunc])) (.node (some (.one [.sc .nilFunc])) (.node (some (.one [.sc .nilFunc])) (.leaf) (.leaf)) (.node (some (.one [.sc .nilFunc])) (.leaf) (.leaf))) (.node (some (.one [.sc .nilFunc])) (.node (some (.one [.sc .nilFunc])) (.leaf) (.leaf)) (.leaf))) (.node (some (.one [.sc .nilFunc])) (.node (some (.one [.sc .nilFunc])) (.leaf) (.node (some (.one [.sc (.int .i32 0)])) (.leaf) (.leaf))) (.node (some (.one [.sc .nilFunc])) (.node (some (.one [.sc .nilFunc])) (.leaf) (.leaf)) (.leaf)))) (.node (some (.agg [(0, 3), (3, 1), (4, 1), (5, 1), (6, 1)] [.sc (.int .i64 0), .sc (.string ⟨#[]⟩), .sc (.string ⟨#[]⟩), .sc (.int .i64 0), .sc (.string ⟨#[]⟩), .row [], .sc (.int .i64 0)])) (.node (some (.one [.sc (.int .i64 0)])) (.node (some (.one [.sc .nilFunc])) (.node (some (.one [.sc .nilFunc])) (.leaf) (.leaf)) (.node (some (.agg [(0, 1), (1, 1), (2, 1), (3, 1)] [.sc (.pointer none), .sc (.pointer none), .sc (.pointer none), .sc (.string ⟨#[]⟩)])) (.leaf) (.leaf))) (.node (some (.one [.sc .nilFunc])) (.node (some (.one [.sc .nilFunc])) (.leaf) (.leaf)) (.leaf))) (.node (none) (.node (some (.arr 6 3 1 [.sc (.int .i64 0), .sc (.int .i64 0), .sc (.int .i64 0), .sc (.int .i64 0), .sc (.int .i64 0), .sc (.int .i64 0)])) (.node (some (.one [.sc .nilFunc])) (.leaf) (.leaf)) (.leaf)) (.node (some (.one [.sc .nilFunc])) (.node (some (.one [.sc .nilFunc])) (.leaf) (.leaf)) (.leaf)))))) (.node (some (.one [.sc (.int .u8 0)])) (.node (some (.str)) (.node (some (.agg [(0, 1)] [.sc (.pointer none)])) (.node (some (.slice 5 1 1)) (.node (some (.one [.sc .nilFunc])) (.leaf) (.node (some (.one [.sc .nilFunc])) (.leaf) (.leaf))) (.node (some (.one [.sc .nilFunc])) (.node (some (.one [.sc .nilFunc])) (.leaf) (.leaf)) (.leaf))) (.node (some (.one [.sc .nilFunc])) (.node (some (.one [.sc .nilFunc])) (.leaf) (.node (some (.one [.sc .nilFunc])) (.leaf) (.leaf))) (.node (some (.one [.sc .nilFunc])) (.node (some (.one [.sc .nilFunc])) (.leaf) (.leaf)) (.leaf)))) (.node (some (.slice 9 1 16)) (.node (some (.one [.sc .nilFunc])) (.node (some (.one [.sc .nilFunc])) (.node (some (.one [.sc .nilFunc])) (.leaf) (.leaf)) (.node (some (.one [.sc .nilFunc])) (.leaf) (.leaf))) (.node (some (.agg [(0, 20), (20, 1), (21, 1), (22, 1)] [.sc (.int .i64 0), .sc (.int .i64 0), .sc (.int .i64 0), .sc (.int .i64 0), .sc (.int .i64 0), .sc (.int .i64 0), .sc (.string ⟨#[]⟩), .sc (.string ⟨#[]⟩), .sc (.string ⟨#[]⟩), .sc (.string ⟨#[]⟩), .sc (.int .i64 0), .sc (.int .i64 0), .sc (.string ⟨#[]⟩), .sc (.string ⟨#[]⟩), .sc (.int .i64 0), .sc (.string ⟨#[]⟩), .row [], .sc (.int .i64 0), .row [], .row [], .sc (.int .i64 0), .row [], .sc (.int .i64 0)])) (.node (some (.one [.sc .nilFunc])) (.leaf) (.leaf)) (.leaf))) (.node (none) (.node (some (.agg [(0, 1), (1, 1), (2, 1), (3, 1)] [.row [], .sc (.int .i64 0), .sc (.int .i64 0), .sc (.bool false)])) (.node (some (.one [.sc .nilFunc])) (.leaf) (.leaf)) (.leaf)) (.node (some (.one [.sc .nilFunc])) (.leaf) (.leaf))))) (.node (some (.agg [(0, 1), (1, 1)] [.sc (.string ⟨#[]⟩), .sc (.int .u64 0)])) (.node (some (.agg [(0, 1), (1, 1)] [.sc (.int .i64 0), .sc (.int .i64 0)])) (.node (some (.one [.sc .nilFunc])) (.node (some (.one [.sc .nilFunc])) (.node (some (.one [.sc .nilFunc])) (.leaf) (.leaf)) (.node (some (.one [.sc .nilFunc])) (.leaf) (.leaf))) (.node (some (.one [.sc .nilFunc])) (.node (some (.one [.sc (.int .u64 0)])) (.leaf) (.leaf)) (.leaf))) (.node (none) (.node (some (.one [.sc .nilFunc])) (.node (some (.one [.sc .nilFunc])) (.leaf) (.leaf)) (.node (some (.agg [(0, 1), (1, 1), (2, 1), (3, 1), (4, 1), (5, 1), (6, 1), (7, 1), (8, 1), (9, 1), (10, 1)] [.sc (.int .u64 0), .sc (.int .u64 0), .sc (.int .u32 0), .sc (.int .u8 0), .sc (.int .u8 0), .sc (.int .u8 0), .sc (.int .u8 0), .sc .nilFunc, .sc (.pointer none), .sc (.int .i32 0), .sc (.int .i32 0)])) (.leaf) (.leaf))) (.node (some (.agg [(0, 1), (1, 1)] [.sc (.string ⟨#[]⟩), .sc (.string ⟨#[]⟩)])) (.leaf) (.leaf)))) (.node (some (.agg [(0, 1), (1, 3), (4, 1), (5, 1), (6, 1), (7, 7), (14, 1), (15, 1)] [.sc (.int .i64 0), .sc (.int .i64 0), .sc (.string ⟨#[]⟩), .sc (.string ⟨#[]⟩), .sc (.string ⟨#[]⟩), .sc (.string ⟨#[]⟩), .sc (.int .i64 0), .sc (.int .i64 0), .sc (.string ⟨#[]⟩), .sc (.string ⟨#[]⟩), .sc (.int .i64 0), .sc (.string ⟨#[]⟩), .row [], .sc (.int .i64 0), .row [], .row []])) (.node (some (.slice 34 1 24)) (.node (some (.one [.sc .nilFunc])) (.leaf) (.node (some (.agg [(0, 0)] [])) (.leaf) (.leaf))) (.node (none) (.node (some (.one [.sc .nilFunc])) (.leaf) (.leaf)) (.leaf))) (.node (some (.one [.sc .nilFunc])) (.node (some (.agg [(0, 1), (1, 1), (2, 1), (3, 1), (4, 2), (6, 6), (12, 3), (15, 1)] [.sc (.int .i64 0), .sc (.int .i64 0), .sc (.string ⟨#[]⟩), .sc (.bool false), .sc (.int .i64 0), .sc (.int .i64 0), .sc (.int .i64 0), .sc (.int .i64 0), .sc (.int .i64 0), .sc (.int .i64 0), .sc (.int .i64 0), .sc (.int .i64 0), .sc (.int .i64 0), .sc (.string ⟨#[]⟩), .sc (.string ⟨#[]⟩), .sc (.int .i64 0)])) (.node (some (.one [.sc .nilFunc])) (.leaf) (.leaf)) (.leaf)) (.node (some (.one [.sc .nilFunc])) (.node (some (.one [.sc .nilFunc])) (.leaf) (.leaf)) (.leaf)))))))
theorem all : tt.all (tyOk Go.Proofs.Tryz.prog) := (TT.mk (fun i h => by cases h) (TT.mk (fun i h => by injection h with h; subst h; exact k_1) (TT.mk (fun i h => by injection h with h; subst h; exact k_3) (TT.mk (fun i h => by injection h with h; subst h; exact k_7) (TT.mk (fun i h => by injection h with h; subst h; exact k_15) (TT.mk (fun i h => by injection h with h; subst h; exact k_31) (TT.mk (fun i h => by cases h) (TT.mk (fun i h => by injection h with h; subst h; exact k_127) trivial trivial) trivial) (TT.mk (fun i h => by injection h with h; subst h; exact k_95) (TT.mk (fun i h => by injection h with h; subst h; exact k_159) trivial trivial) trivial)) (TT.mk (fun i h => by cases h) (TT.mk (fun i h => by injection h with h; subst h; exact k_79) (TT.mk (fun i h => by injection h with h; subst h; exact k_143) trivial trivial) (TT.mk (fun i h => by injection h with h; subst h; exact k_207) trivial trivial)) (TT.mk (fun i h => by injection h with h; subst h; exact k_111) (TT.mk (fun i h => by injection h with h; subst h; exact k_175) trivial trivial) trivial))) (TT.mk (fun i h => by injection h with h; subst h; exact k_23) (TT.mk (fun i h => by injection h with h; subst h; exact k_39) (TT.mk (fun i h => by injection h with h; subst h; exact k_71) (TT.mk (fun i h => by injection h with h; subst h; exact k_135) trivial trivial) (TT.mk (fun i h => by injection h with h; subst h; exact k_199) trivial trivial)) (TT.mk (fun i h => by injection h with h; subst h; exact k_103) (TT.mk (fun i h => by injection h with h; subst h; exact k_167) trivial trivial) trivial)) (TT.mk (fun i h => by injection h with h; subst h; exact k_55) (TT.mk (fun i h => by injection h with h; subst h; exact k_87) (TT.mk (fun i h => by injection h with h; subst h; exact k_151) trivial trivial) (TT.mk (fun i h => by injection h with h; subst h; exact k_215) trivial trivial)) (TT.mk (fun i h => by injection h with h; subst h; exact k_119) (TT.mk (fun i h => by injection h with h; subst h; exact k_183) trivial trivial) trivial)))) (TT.mk (fun i h => by injection h with h; subst h; exact k_11) (TT.mk (fun i h => by injection h with h; subst h; exact k_19) (TT.mk (fun i h => by injection h with h; subst h; exact k_35) (TT.mk (fun i h => by cases h) (TT.mk (fun i h => by injection h with h; subst h; exact k_131) trivial trivial) (TT.mk (fun i h => by injection h with h; subst h; exact k_195) trivial trivial)) (TT.mk (fun i h => by cases h) (TT.mk (fun i h => by injection h with h; subst h; exact k_163) trivial trivial) trivial)) (TT.mk (fun i h => by injection h with h; subst h; exact k_51) (TT.mk (fun i h => by injection h with h; subst h; exact k_83) (TT.mk (fun i h => by injection h with h; subst h; exact k_147) trivial trivial) (TT.mk (fun i h => by injection h with h; subst h; exact k_211) trivial trivial)) (TT.mk (fun i h => by injection h with h; subst h; exact k_115) (TT.mk (fun i h => by injection h with h; subst h; exact k_179) trivial trivial) trivial))) (TT.mk (fun i h => by injection h with h; subst h; exact k_27) (TT.mk (fun i h => by injection h with h; subst h; exact k_43) (TT.mk (fun i h => by injection h with h; subst h; exact k_75) (TT.mk (fun i h => by injection h with h; subst h; exact k_139) trivial trivial) (TT.mk (fun i h => by injection h with h; subst h; exact k_203) trivial trivial)) (TT.mk (fun i h => by injection h with h; subst h; exact k_107) (TT.mk (fun i h => by injection h with h; subst h; exact k_171) trivial trivial) trivial)) (TT.mk (fun i h => by injection h with h; subst h; exact k_59) (TT.mk (fun i h => by injection h with h; subst h; exact k_91) trivial trivial) (TT.mk (fun i h => by injection h with h; subst h; exact k_123) (TT.mk (fun i h => by injection h with h; subst h; exact k_187) trivial trivial) trivial))))) (TT.mk (fun i h => by injection h with h; subst h; exact k_5) (TT.mk (fun i h => by injection h with h; subst h; exact k_9) (TT.mk (fun i h => by injection h with h; subst h; exact k_17) (TT.mk (fun i h => by injection h with h; subst h; exact k_33) (TT.mk (fun i h => by injection h with h; subst h; exact k_65) (TT.mk (fun i h => by injection h with h; subst h; exact k_129) trivial trivial) (TT.mk (fun i h => by injection h with h; subst h; exact k_193) trivial trivial)) (TT.mk (fun i h => by cases h) (TT.mk (fun i h => by injection h with h; subst h; exact k_161) trivial trivial) trivial)) (TT.mk (fun i h => by injection h with h; subst h; exact k_49) (TT.mk (fun i h => by injection h with h; subst h; exact k_81) (TT.mk (fun i h => by injection h with h; subst h; exact k_145) trivial trivial) (TT.mk (fun i h => by injection h with h; subst h; exact k_209) trivial trivial)) (TT.mk (fun i h => by injection h with h; subst h; exact k_113) (TT.mk (fun i h => by injection h with h; subst h; exact k_177) trivial trivial) trivial))) (TT.mk (fun i h => by injection h with h; subst h; exact k_25) (TT.mk (fun i h => by injection h with h; subst h; exact k_41) (TT.mk (fun i h => by injection h with h; subst h; exact k_73) (TT.mk (fun i h => by injection h with h; subst h; exact k_137) trivial trivial) (TT.mk (fun i h => by injection h with h; subst h; exact k_201) trivial trivial)) (TT.mk (fun i h => by injection h with h; subst h; exact k_105) (TT.mk (fun i h => by injection h with h; subst h; exact k_169) trivial trivial) trivial)) (TT.mk (fun i h => by injection h with h; subst h; exact k_57) (TT.mk (fun i h => by injection h with h; subst h; exact k_89) (TT.mk (fun i h => by injection h with h; subst h; exact k_153) trivial trivial) trivial) (TT.mk (fun i h => by injection h with h; subst h; exact k_121) (TT.mk (fun i h => by injection h with h; subst h; exact k_185) trivial trivial) trivial)))) (TT.mk (fun i h => by injection h with h; subst h; exact k_13) (TT.mk (fun i h => by injection h with h; subst h; exact k_21) (TT.mk (fun i h => by injection h with h; subst h; exact k_37) (TT.mk (fun i h => by injection h with h; subst h; exact k_69) (TT.mk (fun i h => by injection h with h; subst h; exact k_133) trivial trivial) (TT.mk (fun i h => by injection h with h; subst h; exact k_197) trivial trivial)) (TT.mk (fun i h => by cases h) (TT.mk (fun i h => by injection h with h; subst h; exact k_165) trivial trivial) trivial)) (TT.mk (fun i h => by injection h with h; subst h; exact k_53) (TT.mk (fun i h => by injection h with h; subst h; exact k_85) (TT.mk (fun i h => by injection h with h; subst h; exact k_149) trivial trivial) (TT.mk (fun i h => by injection h with h; subst h; exact k_213) trivial trivial)) (TT.mk (fun i h => by injection h with h; subst h; exact k_117) (TT.mk (fun i h => by injection h with h; subst h; exact k_181) trivial trivial) trivial))) (TT.mk (fun i h => by injection h with h; subst h; exact k_29) (TT.mk (fun i h => by injection h with h; subst h; exact k_45) (TT.mk (fun i h => by injection h with h; subst h; exact k_77) (TT.mk (fun i h => by injection h with h; subst h; exact k_141) trivial trivial) (TT.mk (fun i h => by injection h with h; subst h; exact k_205) trivial trivial)) (TT.mk (fun i h => by injection h with h; subst h; exact k_109) (TT.mk (fun i h => by injection h with h; subst h; exact k_173) trivial trivial) trivial)) (TT.mk (fun i h => by injection h with h; subst h; exact k_61) (TT.mk (fun i h => by injection h with h; subst h; exact k_93) (TT.mk (fun i h => by injection h with h; subst h; exact k_157) trivial trivial) trivial) (TT.mk (fun i h => by cases h) (TT.mk (fun i h => by injection h with h; subst h; exact k_189) trivial trivial) trivial)))))) (TT.mk (fun i h => by injection h with h; subst h; exact k_2) (TT.mk (fun i h => by injection h with h; subst h; exact k_4) (TT.mk (fun i h => by injection h with h; subst h; exact k_8) (TT.mk (fun i h => by injection h with h; subst h; exact k_16) (TT.mk (fun i h => by injection h with h; subst h; exact k_32) (TT.mk (fun i h => by injection h with h; subst h; exact k_64) (TT.mk (fun i h => by injection h with h; subst h; exact k_128) trivial trivial) (TT.mk (fun i h => by injection h with h; subst h; exact k_192) trivial trivial)) (TT.mk (fun i h => by injection h with h; subst h; exact k_96) (TT.mk (fun i h => by injection h with h; subst h; exact k_160) trivial trivial) trivial)) (TT.mk (fun i h => by injection h with h; subst h; exact k_48) (TT.mk (fun i h => by injection h with h; subst h; exact k_80) trivial (TT.mk (fun i h => by injection h with h; subst h; exact k_208) trivial trivial)) (TT.mk (fun i h => by injection h with h; subst h; exact k_112) (TT.mk (fun i h => by injection h with h; subst h; exact k_176) trivial trivial) trivial))) (TT.mk (fun i h => by injection h with h; subst h; exact k_24) (TT.mk (fun i h => by injection h with h; subst h; exact k_40) (TT.mk (fun i h => by injection h with h; subst h; exact k_72) (TT.mk (fun i h => by injection h with h; subst h; exact k_136) trivial trivial) trivial) (TT.mk (fun i h => by injection h with h; subst h; exact k_104) (TT.mk (fun i h => by injection h with h; subst h; exact k_168) trivial trivial) trivial)) (TT.mk (fun i h => by injection h with h; subst h; exact k_56) (TT.mk (fun i h => by injection h with h; subst h; exact k_88) (TT.mk (fun i h => by injection h with h; subst h; exact k_152) trivial trivial) trivial) (TT.mk (fun i h => by injection h with h; subst h; exact k_120) (TT.mk (fun i h => by injection h with h; subst h; exact k_184) trivial trivial) trivial)))) (TT.mk (fun i h => by injection h with h; subst h; exact k_12) (TT.mk (fun i h => by cases h) (TT.mk (fun i h => by injection h with h; subst h; exact k_36) (TT.mk (fun i h => by injection h with h; subst h; exact k_68) (TT.mk (fun i h => by injection h with h; subst h; exact k_132) trivial trivial) (TT.mk (fun i h => by injection h with h; subst h; exact k_196) trivial trivial)) (TT.mk (fun i h => by injection h with h; subst h; exact k_100) (TT.mk (fun i h => by injection h with h; subst h; exact k_164) trivial trivial) trivial)) (TT.mk (fun i h => by injection h with h; subst h; exact k_52) (TT.mk (fun i h => by injection h with h; subst h; exact k_84) trivial (TT.mk (fun i h => by injection h with h; subst h; exact k_212) trivial trivial)) (TT.mk (fun i h => by injection h with h; subst h; exact k_116) (TT.mk (fun i h => by injection h with h; subst h; exact k_180) trivial trivial) trivial))) (TT.mk (fun i h => by injection h with h; subst h; exact k_28) (TT.mk (fun i h => by injection h with h; subst h; exact k_44) (TT.mk (fun i h => by injection h with h; subst h; exact k_76) (TT.mk (fun i h => by injection h with h; subst h; exact k_140) trivial trivial) (TT.mk (fun i h => by injection h with h; subst h; exact k_204) trivial trivial)) (TT.mk (fun i h => by injection h with h; subst h; exact k_108) (TT.mk (fun i h => by injection h with h; subst h; exact k_172) trivial trivial) trivial)) (TT.mk (fun i h => by cases h) (TT.mk (fun i h => by injection h with h; subst h; exact k_92) (TT.mk (fun i h => by injection h with h; subst h; exact k_156) trivial trivial) trivial) (TT.mk (fun i h => by injection h with h; subst h; exact k_124) (TT.mk (fun i h => by injection h with h; subst h; exact k_188) trivial trivial) trivial))))) (TT.mk (fun i h => by injection h with h; subst h; exact k_6) (TT.mk (fun i h => by injection h with h; subst h; exact k_10) (TT.mk (fun i h => by injection h with h; subst h; exact k_18) (TT.mk (fun i h => by injection h with h; subst h; exact k_34) (TT.mk (fun i h => by injection h with h; subst h; exact k_66) trivial (TT.mk (fun i h => by injection h with h; subst h; exact k_194) trivial trivial)) (TT.mk (fun i h => by injection h with h; subst h; exact k_98) (TT.mk (fun i h => by injection h with h; subst h; exact k_162) trivial trivial) trivial)) (TT.mk (fun i h => by injection h with h; subst h; exact k_50) (TT.mk (fun i h => by injection h with h; subst h; exact k_82) trivial (TT.mk (fun i h => by injection h with h; subst h; exact k_210) trivial trivial)) (TT.mk (fun i h => by injection h with h; subst h; exact k_114) (TT.mk (fun i h => by injection h with h; subst h; exact k_178) trivial trivial) trivial))) (TT.mk (fun i h => by injection h with h; subst h; exact k_26) (TT.mk (fun i h => by injection h with h; subst h; exact k_42) (TT.mk (fun i h => by injection h with h; subst h; exact k_74) (TT.mk (fun i h => by injection h with h; subst h; exact k_138) trivial trivial) (TT.mk (fun i h => by injection h with h; subst h; exact k_202) trivial trivial)) (TT.mk (fun i h => by injection h with h; subst h; exact k_106) (TT.mk (fun i h => by injection h with h; subst h; exact k_170) trivial trivial) trivial)) (TT.mk (fun i h => by cases h) (TT.mk (fun i h => by injection h with h; subst h; exact k_90) (TT.mk (fun i h => by injection h with h; subst h; exact k_154) trivial trivial) trivial) (TT.mk (fun i h => by injection h with h; subst h; exact k_122) trivial trivial)))) (TT.mk (fun i h => by injection h with h; subst h; exact k_14) (TT.mk (fun i h => by injection h with h; subst h; exact k_22) (TT.mk (fun i h => by injection h with h; subst h; exact k_38) (TT.mk (fun i h => by injection h with h; subst h; exact k_70) (TT.mk (fun i h => by injection h with h; subst h; exact k_134) trivial trivial) (TT.mk (fun i h => by injection h with h; subst h; exact k_198) trivial trivial)) (TT.mk (fun i h => by injection h with h; subst h; exact k_102) (TT.mk (fun i h => by injection h with h; subst h; exact k_166) trivial trivial) trivial)) (TT.mk (fun i h => by cases h) (TT.mk (fun i h => by injection h with h; subst h; exact k_86) (TT.mk (fun i h => by injection h with h; subst h; exact k_150) trivial trivial) (TT.mk (fun i h => by injection h with h; subst h; exact k_214) trivial trivial)) (TT.mk (fun i h => by injection h with h; subst h; exact k_118) trivial trivial))) (TT.mk (fun i h => by injection h with h; subst h; exact k_30) (TT.mk (fun i h => by injection h with h; subst h; exact k_46) (TT.mk (fun i h => by injection h with h; subst h; exact k_78) trivial (TT.mk (fun i h => by injection h with h; subst h; exact k_206) trivial trivial)) (TT.mk (fun i h => by cases h) (TT.mk (fun i h => by injection h with h; subst h; exact k_174) trivial trivial) trivial)) (TT.mk (fun i h => by injection h with h; subst h; exact k_62) (TT.mk (fun i h => by injection h with h; subst h; exact k_94) (TT.mk (fun i h => by injection h with h; subst h; exact k_158) trivial trivial) trivial) (TT.mk (fun i h => by injection h with h; subst h; exact k_126) (TT.mk (fun i h => by injection h with h; subst h; exact k_190) trivial trivial) trivial)))))))
theorem ok : TTok Go.Proofs.Tryz.prog tt := fun t i h => TT.all_get all t i h
theorem en_6 : enters Go.Proofs.Tryz.prog 6 = true := by kernel_rfl
theorem en_7 : enters Go.Proofs.Tryz.prog 7 = true := by kernel_rfl
theorem en_8 : enters Go.Proofs.Tryz.prog 8 = true := by kernel_rfl
theorem en_9 : enters Go.Proofs.Tryz.prog 9 = true := by kernel_rfl
theorem en_10 : enters Go.Proofs.Tryz.prog 10 = true := by kernel_rfl
theorem en_11 : enters Go.Proofs.Tryz.prog 11 = true := by kernel_rfl
theorem en_12 : enters Go.Proofs.Tryz.prog 12 = true := by kernel_rfl
theorem en_13 : enters Go.Proofs.Tryz.prog 13 = true := by kernel_rfl
theorem en_14 : enters Go.Proofs.Tryz.prog 14 = true := by kernel_rfl
theorem en_15 : enters Go.Proofs.Tryz.prog 15 = true := by kernel_rfl
theorem en_16 : enters Go.Proofs.Tryz.prog 16 = true := by kernel_rfl
theorem en_17 : enters Go.Proofs.Tryz.prog 17 = true := by kernel_rfl
theorem en_18 : enters Go.Proofs.Tryz.prog 18 = true := by kernel_rfl
theorem en_19 : enters Go.Proofs.Tryz.prog 19 = true := by kernel_rfl
theorem en_20 : enters Go.Proofs.Tryz.prog 20 = true := by kernel_rfl
theorem en_21 : enters Go.Proofs.Tryz.prog 21 = true := by kernel_rfl
theorem en_22 : enters Go.Proofs.Tryz.prog 22 = true := by kernel_rfl
theorem en_23 : enters Go.Proofs.Tryz.prog 23 = true := by kernel_rfl
theorem en_24 : enters Go.Proofs.Tryz.prog 24 = true := by kernel_rfl
theorem en_25 : enters Go.Proofs.Tryz.prog 25 = true := by kernel_rfl
theorem en_26 : enters Go.Proofs.Tryz.prog 26 = true := by kernel_rfl
theorem en_27 : enters Go.Proofs.Tryz.prog 27 = true := by kernel_rfl
theorem en_28 : enters Go.Proofs.Tryz.prog 28 = true := by kernel_rfl
theorem en_29 : enters Go.Proofs.Tryz.prog 29 = true := by kernel_rfl
theorem en_30 : enters Go.Proofs.Tryz.prog 30 = true := by kernel_rfl
theorem en_31 : enters Go.Proofs.Tryz.prog 31 = true := by kernel_rfl
theorem en_32 : enters Go.Proofs.Tryz.prog 32 = true := by kernel_rfl
theorem en_33 : enters Go.Proofs.Tryz.prog 33 = true := by kernel_rfl
theorem en_34 : enters Go.Proofs.Tryz.prog 34 = true := by kernel_rfl
theorem en_35 : enters Go.Proofs.Tryz.prog 35 = true := by kernel_rfl
theorem en_36 : enters Go.Proofs.Tryz.prog 36 = true := by kernel_rfl
theorem en_37 : enters Go.Proofs.Tryz.prog 37 = true := by kernel_rfl
theorem en_38 : enters Go.Proofs.Tryz.prog 38 = true := by kernel_rfl
theorem en_39 : enters Go.Proofs.Tryz.prog 39 = true := by kernel_rfl
theorem en_40 : enters Go.Proofs.Tryz.prog 40 = true := by kernel_rfl
theorem en_41 : enters Go.Proofs.Tryz.prog 41 = true := by kernel_rfl
theorem en_42 : enters Go.Proofs.Tryz.prog 42 = true := by kernel_rfl
theorem en_43 : enters Go.Proofs.Tryz.prog 43 = true := by kernel_rfl
theorem en_44 : enters Go.Proofs.Tryz.prog 44 = true := by kernel_rfl
theorem en_45 : enters Go.Proofs.Tryz.prog 45 = true := by kernel_rfl
theorem en_46 : enters Go.Proofs.Tryz.prog 46 = true := by kernel_rfl
theorem en_47 : enters Go.Proofs.Tryz.prog 47 = true := by kernel_rfl
theorem en_48 : enters Go.Proofs.Tryz.prog 48 = true := by kernel_rfl
theorem en_49 : enters Go.Proofs.Tryz.prog 49 = true := by kernel_rfl
theorem en_50 : enters Go.Proofs.Tryz.prog 50 = true := by kernel_rfl
theorem en_51 : enters Go.Proofs.Tryz.prog 51 = true := by kernel_rfl
theorem en_52 : enters Go.Proofs.Tryz.prog 52 = true := by kernel_rfl
theorem en_53 : enters Go.Proofs.Tryz.prog 53 = true := by kernel_rfl
theorem en_54 : enters Go.Proofs.Tryz.prog 54 = true := by kernel_rfl
theorem en_55 : enters Go.Proofs.Tryz.prog 55 = true := by kernel_rfl
theorem en_56 : enters Go.Proofs.Tryz.prog 56 = true := by kernel_rfl
theorem en_57 : enters Go.Proofs.Tryz.prog 57 = true := by kernel_rfl
theorem en_58 : enters Go.Proofs.Tryz.prog 58 = true := by kernel_rfl
theorem en_59 : enters Go.Proofs.Tryz.prog 59 = true := by kernel_rfl
theorem en_60 : enters Go.Proofs.Tryz.prog 60 = true := by kernel_rfl
theorem en_61 : enters Go.Proofs.Tryz.prog 61 = true := by kernel_rfl
theorem en_62 : enters Go.Proofs.Tryz.prog 62 = true := by kernel_rfl
theorem en_63 : enters Go.Proofs.Tryz.prog 63 = true := by kernel_rfl
theorem en_64 : enters Go.Proofs.Tryz.prog 64 = true := by kernel_rfl
theorem en_65 : enters Go.Proofs.Tryz.prog 65 = true := by kernel_rfl
theorem en_66 : enters Go.Proofs.Tryz.prog 66 = true := by kernel_rfl
theorem en_67 : enters Go.Proofs.Tryz.prog 67 = true := by kernel_rfl
theorem en_69 : enters Go.Proofs.Tryz.prog 69 = true := by kernel_rfl
theorem en_71 : enters Go.Proofs.Tryz.prog 71 = true := by kernel_rfl
theorem en_72 : enters Go.Proofs.Tryz.prog 72 = true := by kernel_rfl
theorem en_73 : enters Go.Proofs.Tryz.prog 73 = true := by kernel_rfl
theorem en_74 : enters Go.Proofs.Tryz.prog 74 = true := by kernel_rfl
theorem en_75 : enters Go.Proofs.Tryz.prog 75 = true := by kernel_rfl
theorem en_76 : enters Go.Proofs.Tryz.prog 76 = true := by kernel_rfl
theorem en_77 : enters Go.Proofs.Tryz.prog 77 = true := by kernel_rfl
theorem en_78 : enters Go.Proofs.Tryz.prog 78 = true := by kernel_rfl
theorem en_79 : enters Go.Proofs.Tryz.prog 79 = true := by kernel_rfl
theorem en_80 : enters Go.Proofs.Tryz.prog 80 = true := by kernel_rfl
theorem en_81 : enters Go.Proofs.Tryz.prog 81 = true := by kernel_rfl
theorem en_82 : enters Go.Proofs.Tryz.prog 82 = true := by kernel_rfl
theorem en_83 : enters Go.Proofs.Tryz.prog 83 = true := by kernel_rfl
theorem en_84 : enters Go.Proofs.Tryz.prog 84 = true := by kernel_rfl
theorem en_85 : enters Go.Proofs.Tryz.prog 85 = true := by kernel_rfl
theorem en_86 : enters Go.Proofs.Tryz.prog 86 = true := by kernel_rfl
theorem en_87 : enters Go.Proofs.Tryz.prog 87 = true := by kernel_rfl
theorem en_88 : enters Go.Proofs.Tryz.prog 88 = true := by kernel_rfl
theorem en_89 : enters Go.Proofs.Tryz.prog 89 = true := by kernel_rfl
theorem en_90 : enters Go.Proofs.Tryz.prog 90 = true := by kernel_rfl
theorem en_91 : enters Go.Proofs.Tryz.prog 91 = true := by kernel_rfl
theorem en_92 : enters Go.Proofs.Tryz.prog 92 = true := by kernel_rfl
theorem en_93 : enters Go.Proofs.Tryz.prog 93 = true := by kernel_rfl
theorem en_94 : enters Go.Proofs.Tryz.prog 94 = true := by kernel_rfl
theorem en_95 : enters Go.Proofs.Tryz.prog 95 = true := by kernel_rfl
theorem en_96 : enters Go.Proofs.Tryz.prog 96 = true := by kernel_rfl
theorem en_97 : enters Go.Proofs.Tryz.prog 97 = true := by kernel_rfl
theorem en_98 : enters Go.Proofs.Tryz.prog 98 = true := by kernel_rfl
theorem en_99 : enters Go.Proofs.Tryz.prog 99 = true := by kernel_rfl
theorem en_100 : enters Go.Proofs.Tryz.prog 100 = true := by kernel_rfl
theorem en_101 : enters Go.Proofs.Tryz.prog 101 = true := by kernel_rfl
theorem en_102 : enters Go.Proofs.Tryz.prog 102 = true := by kernel_rfl
theorem en_103 : enters Go.Proofs.Tryz.prog 103 = true := by kernel_rfl
theorem en_104 : enters Go.Proofs.Tryz.prog 104 = true := by kernel_rfl
theorem en_105 : enters Go.Proofs.Tryz.prog 105 = true := by kernel_rfl
theorem en_106 : enters Go.Proofs.Tryz.prog 106 = true := by kernel_rfl
theorem en_107 : enters Go.Proofs.Tryz.prog 107 = true := by kernel_rfl
theorem en_108 : enters Go.Proofs.Tryz.prog 108 = true := by kernel_rfl
theorem en_109 : enters Go.Proofs.Tryz.prog 109 = true := by kernel_rfl
theorem en_110 : enters Go.Proofs.Tryz.prog 110 = true := by kernel_rfl
theorem en_111 : enters Go.Proofs.Tryz.prog 111 = true := by kernel_rfl
theorem en_112 : enters Go.Proofs.Tryz.prog 112 = true := by kernel_rfl
theorem en_113 : enters Go.Proofs.Tryz.prog 113 = true := by kernel_rfl
theorem en_114 : enters Go.Proofs.Tryz.prog 114 = true := by kernel_rfl
theorem en_115 : enters Go.Proofs.Tryz.prog 115 = true := by kernel_rfl
theorem en_116 : enters Go.Proofs.Tryz.prog 116 = true := by kernel_rfl
theorem en_117 : enters Go.Proofs.Tryz.prog 117 = true := by kernel_rfl
theorem en_118 : enters Go.Proofs.Tryz.prog 118 = true := by kernel_rfl
theorem en_119 : enters Go.Proofs.Tryz.prog 119 = true := by kernel_rfl
theorem en_120 : enters Go.Proofs.Tryz.prog 120 = true := by kernel_rfl
theorem en_121 : enters Go.Proofs.Tryz.prog 121 = true := by kernel_rfl
theorem en_122 : enters Go.Proofs.Tryz.prog 122 = true := by kernel_rfl
theorem en_124 : enters Go.Proofs.Tryz.prog 124 = true := by kernel_rfl
theorem en_125 : enters Go.Proofs.Tryz.prog 125 = true := by kernel_rfl
theorem en_126 : enters Go.Proofs.Tryz.prog 126 = true := by kernel_rfl
theorem en_127 : enters Go.Proofs.Tryz.prog 127 = true := by kernel_rfl
theorem en_128 : enters Go.Proofs.Tryz.prog 128 = true := by kernel_rfl
theorem en_129 : enters Go.Proofs.Tryz.prog 129 = true := by kernel_rfl
theorem en_130 : enters Go.Proofs.Tryz.prog 130 = true := by kernel_rfl
theorem en_131 : enters Go.Proofs.Tryz.prog 131 = true := by kernel_rfl
theorem en_132 : enters Go.Proofs.Tryz.prog 132 = true := by kernel_rfl
theorem en_133 : enters Go.Proofs.Tryz.prog 133 = true := by kernel_rfl
theorem en_134 : enters Go.Proofs.Tryz.prog 134 = true := by kernel_rfl
theorem en_135 : enters Go.Proofs.Tryz.prog 135 = true := by kernel_rfl
theorem en_136 : enters Go.Proofs.Tryz.prog 136 = true := by kernel_rfl
theorem en_137 : enters Go.Proofs.Tryz.prog 137 = true := by kernel_rfl
theorem en_138 : enters Go.Proofs.Tryz.prog 138 = true := by kernel_rfl
theorem en_139 : enters Go.Proofs.Tryz.prog 139 = true := by kernel_rfl
theorem en_140 : enters Go.Proofs.Tryz.prog 140 = true := by kernel_rfl
theorem en_141 : enters Go.Proofs.Tryz.prog 141 = true := by kernel_rfl
theorem en_142 : enters Go.Proofs.Tryz.prog 142 = true := by kernel_rfl
theorem en_143 : enters Go.Proofs.Tryz.prog 143 = true := by kernel_rfl
theorem en_144 : enters Go.Proofs.Tryz.prog 144 = true := by kernel_rfl
theorem en_145 : enters Go.Proofs.Tryz.prog 145 = true := by kernel_rfl
theorem en_146 : enters Go.Proofs.Tryz.prog 146 = true := by kernel_rfl
theorem en_147 : enters Go.Proofs.Tryz.prog 147 = true := by kernel_rfl
theorem en_148 : enters Go.Proofs.Tryz.prog 148 = true := by kernel_rfl
theorem en_149 : enters Go.Proofs.Tryz.prog 149 = true := by kernel_rfl
theorem en_150 : enters Go.Proofs.Tryz.prog 150 = true := by kernel_rfl
theorem en_151 : enters Go.Proofs.Tryz.prog 151 = true := by kernel_rfl
theorem en_152 : enters Go.Proofs.Tryz.prog 152 = true := by kernel_rfl
theorem en_153 : enters Go.Proofs.Tryz.prog 153 = true := by kernel_rfl
theorem en_154 : enters Go.Proofs.Tryz.prog 154 = true := by kernel_rfl
theorem en_155 : enters Go.Proofs.Tryz.prog 155 = true := by kernel_rfl
theorem en_156 : enters Go.Proofs.Tryz.prog 156 = true := by kernel_rfl
theorem en_157 : enters Go.Proofs.Tryz.prog 157 = true := by kernel_rfl
theorem en_158 : enters Go.Proofs.Tryz.prog 158 = true := by kernel_rfl
theorem en_159 : enters Go.Proofs.Tryz.prog 159 = true := by kernel_rfl
theorem en_160 : enters Go.Proofs.Tryz.prog 160 = true := by kernel_rfl
theorem en_161 : enters Go.Proofs.Tryz.prog 161 = true := by kernel_rfl
theorem en_162 : enters Go.Proofs.Tryz.prog 162 = true := by kernel_rfl
theorem en_163 : enters Go.Proofs.Tryz.prog 163 = true := by kernel_rfl
theorem en_164 : enters Go.Proofs.Tryz.prog 164 = true := by kernel_rfl
theorem en_165 : enters Go.Proofs.Tryz.prog 165 = true := by kernel_rfl
theorem en_166 : enters Go.Proofs.Tryz.prog 166 = true := by kernel_rfl
theorem en_167 : enters Go.Proofs.Tryz.prog 167 = true := by kernel_rfl
theorem en_168 : enters Go.Proofs.Tryz.prog 168 = true := by kernel_rfl
theorem en_169 : enters Go.Proofs.Tryz.prog 169 = true := by kernel_rfl
theorem en_170 : enters Go.Proofs.Tryz.prog 170 = true := by kernel_rfl
theorem en_171 : enters Go.Proofs.Tryz.prog 171 = true := by kernel_rfl
theorem en_172 : enters Go.Proofs.Tryz.prog 172 = true := by kernel_rfl
theorem en_173 : enters Go.Proofs.Tryz.prog 173 = true := by kernel_rfl
theorem en_174 : enters Go.Proofs.Tryz.prog 174 = true := by kernel_rfl
theorem en_175 : enters Go.Proofs.Tryz.prog 175 = true := by kernel_rfl
theorem mixed : Go.Proofs.Tryz.prog.follows .mixedOrders = true := by kernel_rfl
theorem fn {N : Nat} {f : FuncId} {fn : Func} {c : Code} {args : List D} {res : List C} {rs : List ResultVar} (fb : List Nat) (hf : Go.Proofs.Tryz.prog.funcs[f]? = some fn) (hk : argsT 0 args .leaf fun t => xcode Go.Proofs.Tryz.prog tt N fb c t (fun _ => .junk) (finK Go.Proofs.Tryz.prog tt rs res []))
    (hb : fn.body = some c := by rfl) (hN : fn.ntmps = N := by rfl) (hrs : fn.results.toList = rs := by rfl) (hargs : args.length ≤ N := by exact Nat.le_of_ble_eq_true rfl) (hNB : N ≤ BIG := by exact Nat.le_of_ble_eq_true rfl) : Contract Go.Proofs.Tryz.prog f args res := xfn ok fb hf hb hN hrs hargs hNB hk
theorem fnH {N : Nat} {f : FuncId} {fn : Func} {c : Code} {args : List D} {res : List C} {pre post : List (Nat × S)} {rs : List ResultVar} (fb : List Nat) (hf : Go.Proofs.Tryz.prog.funcs[f]? = some fn) (hk : argsT 0 args .leaf fun t => xcode Go.Proofs.Tryz.prog tt N fb c t (hOf pre) (finK Go.Proofs.Tryz.prog tt rs res post))
    (hbig : ∀ p ∈ pre, NAM ≤ p.1) (hp : ∀ p ∈ pre, thing p.2 = true) (hq : ∀ p ∈ post, thing p.2 = true) (hb : fn.body = some c := by rfl) (hN : fn.ntmps = N := by rfl) (hrs : fn.results.toList = rs := by rfl) (hargs : args.length ≤ N := by exact Nat.le_of_ble_eq_true rfl) (hNB : N ≤ BIG := by exact Nat.le_of_ble_eq_true rfl) : ContractH Go.Proofs.Tryz.prog f args pre res post := xfnH ok fb hf hb hN hrs hargs hNB hbig hp hq hk
theorem fnE {α : Type} {R : α → Prop} {N : Nat} {f : FuncId} {fn : Func} {c : Code} {args : List D} {res : α → List C} {pre : List (Nat × S)} {post : α → List (Nat × S)} {rs : List ResultVar} (fb : List Nat) (hf : Go.Proofs.Tryz.prog.funcs[f]? = some fn) (hk : argsT 0 args .leaf fun t => xcode Go.Proofs.Tryz.prog tt N fb c t (hOf pre) (finE Go.Proofs.Tryz.prog tt rs R res post))
    (hbig : ∀ p ∈ pre, NAM ≤ p.1) (hp : ∀ p ∈ pre, thing p.2 = true) (hq : ∀ x, R x → ∀ p ∈ post x, thing p.2 = true) (hb : fn.body = some c := by rfl) (hN : fn.ntmps = N := by rfl) (hrs : fn.results.toList = rs := by rfl) (hargs : args.length ≤ N := by exact Nat.le_of_ble_eq_true rfl) (hNB : N ≤ BIG := by exact Nat.le_of_ble_eq_true rfl) : ContractE Go.Proofs.Tryz.prog f args pre R res post := xfnE ok fb hf hb hN hrs hargs hNB hbig hp hq hk
end Go.Vm.T
end
section
namespace Go.Vm
open Go.RowKit Go.Proofs
set_option linter.unusedVariables false
set_option linter.unusedSimpArgs false
set_option maxRecDepth 10000

theorem emp : ByteArray.empty = noB := rfl
theorem scb {a b : Bool} (h : a = b) : D.sc (.bool a) = D.sc (.bool b) := by rw [h]
theorem elem_at {α : Type} {l : List α} {k : Nat} (h : (k : Int) < (l.length : Int)) : ∃ p, l[k]? = some p := by
  have : k < l.length := by omega
  exact ⟨_, List.getElem?_eq_getElem this⟩
theorem charAt {s : ByteArray} {k : Nat} (h : (k : Int) < (s.size : Int)) : ∃ b, s[k]? = some b := ⟨s[k]'(by omega), by rw [getElem?_pos]⟩
theorem mapAt {α : Type} {f : α → D} {l : List α} {k : Nat} {x : α} (h : l[k]? = some x) : (l.map f)[k]? = some (f x) := by
  rw [List.getElem?_map, h]; rfl

set_option maxHeartbeats 1000000 in
theorem name_any (s : ByteArray) : Contract Tryz.prog 81 [.sc (.string s)] [.d (.sc (.bool (nameB s)))] := by
 refine T.fn [] Tryz.func81 ?_
 refine x_len ?_
 refine br (fun hg1 => ?y1) (fun hg1 => ?n1)
 case' y1 =>
  refine brT ?_
 case' n1 =>
  refine x_len ?_
  refine br (fun hc3 => ?y3) (fun hc3 => ?n3)
  case' n3 =>
   have hlo : 1 ≤ s.size := by omega
   have hhi : s.size ≤ 12 := by omega
   refine x_len ?_
   refine xloopR (fb := []) T.ok (Nat.le_of_ble_eq_true rfl) [0, 15] (fun (k : Nat) => [(16, .c (.d (.sc (.int .i64 (k : Nat)))))]) (fun k => k ≤ s.size ∧ okTo s k ∧ 1 ≤ s.size ∧ s.size ≤ 12) (fun k => s.size - k) 0 ⟨Nat.zero_le _, okTo_zero s, hlo, hhi⟩ (x_ent (by first | rfl | (simp only [Tr.get]; simp; done)) trivial) ?_
   rintro k ⟨hk, hok, hlo, hhi⟩
   refine br (fun hc4 => ?y4) (fun hc4 => ?n4)
   case' y4 =>
    obtain ⟨b, hb⟩ := charAt hc4
    first | refine x_ch (by exact hb) ?_ | refine x_chI (by exact hb) ?_
    refine br (fun hg5 => ?y5) (fun hg5 => ?n5)
    case' y5 =>
     first | refine x_ch (by exact hb) ?_ | refine x_chI (by exact hb) ?_
     first | refine x_ch (by exact hb) ?_ | refine x_chI (by exact hb) ?_
     refine br (fun hg6 => ?y6) (fun hg6 => ?n6)
     case' y6 =>
      first | refine x_ch (by exact hb) ?_ | refine x_chI (by exact hb) ?_
      refine br (fun hg7 => ?y7) (fun hg7 => ?n7)
      case' y7 =>
       refine br (fun hg8 => ?y8) (fun hg8 => ?n8)
       case' y8 =>
        refine brT ?_
       case' n8 =>
        refine br (fun hc10 => ?y10) (fun hc10 => ?n10)
        case' n10 =>
         first | refine x_inc ?_ | refine x_add ?_ | refine x_bin rfl rfl ?_
         refine x_rnd (k + 1) ⟨char_lt hb, okTo_next hok hb (by (simp only [charB, decide_eq_true_eq, decide_eq_false_iff_not, Bool.not_eq_true', Bool.not_eq_false', Bool.and_eq_true, Bool.or_eq_true, Bool.or_eq_false_iff, Bool.and_eq_false_iff, beq_iff_eq, beq_eq_false_iff_ne, ne_eq, Bool.not_true, Bool.not_false, Bool.false_eq_true, Bool.true_eq_false] at * <;> omega)), hlo, hhi⟩ (by (try dsimp only); have := char_lt hb; omega) rfl (x_ent (by first | rfl | (simp only [Tr.get]; simp; done)) trivial) rfl
      case' n7 =>
       refine brF ?_
       first | refine x_inc ?_ | refine x_add ?_ | refine x_bin rfl rfl ?_
       refine x_rnd (k + 1) ⟨char_lt hb, okTo_next hok hb (by (simp only [charB, decide_eq_true_eq, decide_eq_false_iff_not, Bool.not_eq_true', Bool.not_eq_false', Bool.and_eq_true, Bool.or_eq_true, Bool.or_eq_false_iff, Bool.and_eq_false_iff, beq_iff_eq, beq_eq_false_iff_ne, ne_eq, Bool.not_true, Bool.not_false, Bool.false_eq_true, Bool.true_eq_false] at * <;> omega)), hlo, hhi⟩ (by (try dsimp only); have := char_lt hb; omega) rfl (x_ent (by first | rfl | (simp only [Tr.get]; simp; done)) trivial) rfl
     case' n6 =>
      refine br (fun hg12 => ?y12) (fun hg12 => ?n12)
      case' y12 =>
       refine brT ?_
       refine brT ?_
      case' n12 =>
       refine brF ?_
       first | refine x_inc ?_ | refine x_add ?_ | refine x_bin rfl rfl ?_
       refine x_rnd (k + 1) ⟨char_lt hb, okTo_next hok hb (by (simp only [charB, decide_eq_true_eq, decide_eq_false_iff_not, Bool.not_eq_true', Bool.not_eq_false', Bool.and_eq_true, Bool.or_eq_true, Bool.or_eq_false_iff, Bool.and_eq_false_iff, beq_iff_eq, beq_eq_false_iff_ne, ne_eq, Bool.not_true, Bool.not_false, Bool.false_eq_true, Bool.true_eq_false] at * <;> omega)), hlo, hhi⟩ (by (try dsimp only); have := char_lt hb; omega) rfl (x_ent (by first | rfl | (simp only [Tr.get]; simp; done)) trivial) rfl
    case' n5 =>
     first | refine x_ch (by exact hb) ?_ | refine x_chI (by exact hb) ?_
     refine br (fun hg16 => ?y16) (fun hg16 => ?n16)
     case' y16 =>
      first | refine x_ch (by exact hb) ?_ | refine x_chI (by exact hb) ?_
      refine brT ?_
      refine br (fun hg18 => ?y18) (fun hg18 => ?n18)
      case' y18 =>
       refine brT ?_
      case' n18 =>
       refine br (fun hc20 => ?y20) (fun hc20 => ?n20)
       case' n20 =>
        first | refine x_inc ?_ | refine x_add ?_ | refine x_bin rfl rfl ?_
        refine x_rnd (k + 1) ⟨char_lt hb, okTo_next hok hb (by (simp only [charB, decide_eq_true_eq, decide_eq_false_iff_not, Bool.not_eq_true', Bool.not_eq_false', Bool.and_eq_true, Bool.or_eq_true, Bool.or_eq_false_iff, Bool.and_eq_false_iff, beq_iff_eq, beq_eq_false_iff_ne, ne_eq, Bool.not_true, Bool.not_false, Bool.false_eq_true, Bool.true_eq_false] at * <;> omega)), hlo, hhi⟩ (by (try dsimp only); have := char_lt hb; omega) rfl (x_ent (by first | rfl | (simp only [Tr.get]; simp; done)) trivial) rfl
     case' n16 =>
      refine brT ?_
      refine brT ?_
      refine brT ?_
 all_goals (refine x_ret ?_; simp only [fitsL, fits, C.asD, and_true] <;> (refine scb ?_; first | (refine (name_short ?_).symm; omega; done) | (refine (name_long ?_).symm; omega; done) | (refine (name_no (char_lt hb) hb ?_).symm; (simp only [charB, decide_eq_true_eq, decide_eq_false_iff_not, Bool.not_eq_true', Bool.not_eq_false', Bool.and_eq_true, Bool.or_eq_true, Bool.or_eq_false_iff, Bool.and_eq_false_iff, beq_iff_eq, beq_eq_false_iff_ne, ne_eq, Bool.not_true, Bool.not_false, Bool.false_eq_true, Bool.true_eq_false] at * <;> omega); done) | (refine (name_yes hlo hhi ?_ hok).symm; omega; done)))

set_option maxHeartbeats 1000000 in
theorem refName_any (s : ByteArray) : Contract Tryz.prog 91 [.sc (.string s)] [.d (.sc (.bool (nameB s)))] := by
 refine T.fn [] Tryz.func91 ?_
 refine x_len ?_
 refine br (fun hg1 => ?y1) (fun hg1 => ?n1)
 case' y1 =>
  refine brT ?_
 case' n1 =>
  refine x_len ?_
  refine br (fun hc3 => ?y3) (fun hc3 => ?n3)
  case' n3 =>
   have hlo : 1 ≤ s.size := by omega
   have hhi : s.size ≤ 12 := by omega
   refine xloopR (fb := []) T.ok (Nat.le_of_ble_eq_true rfl) [0] (fun (k : Nat) => [(3, .c (.d (.sc (.int .i64 (k : Nat)))))]) (fun k => k ≤ s.size ∧ okTo s k ∧ 1 ≤ s.size ∧ s.size ≤ 12) (fun k => s.size - k) 0 ⟨Nat.zero_le _, okTo_zero s, hlo, hhi⟩ (x_ent (by first | rfl | (simp only [Tr.get]; simp; done)) trivial) ?_
   rintro k ⟨hk, hok, hlo, hhi⟩
   refine x_len ?_
   refine br (fun hc4 => ?y4) (fun hc4 => ?n4)
   case' y4 =>
    obtain ⟨b, hb⟩ := charAt hc4
    first | refine x_ch (by exact hb) ?_ | refine x_chI (by exact hb) ?_
    refine br (fun hg5 => ?y5) (fun hg5 => ?n5)
    case' y5 =>
     first | refine x_ch (by exact hb) ?_ | refine x_chI (by exact hb) ?_
     first | refine x_ch (by exact hb) ?_ | refine x_chI (by exact hb) ?_
     refine br (fun hg6 => ?y6) (fun hg6 => ?n6)
     case' y6 =>
      first | refine x_ch (by exact hb) ?_ | refine x_chI (by exact hb) ?_
      refine br (fun hg7 => ?y7) (fun hg7 => ?n7)
      case' y7 =>
       refine br (fun hg8 => ?y8) (fun hg8 => ?n8)
       case' y8 =>
        refine brT ?_
       case' n8 =>
        refine br (fun hc10 => ?y10) (fun hc10 => ?n10)
        case' n10 =>
         first | refine x_inc ?_ | refine x_add ?_ | refine x_bin rfl rfl ?_
         refine x_rnd (k + 1) ⟨char_lt hb, okTo_next hok hb (by (simp only [charB, decide_eq_true_eq, decide_eq_false_iff_not, Bool.not_eq_true', Bool.not_eq_false', Bool.and_eq_true, Bool.or_eq_true, Bool.or_eq_false_iff, Bool.and_eq_false_iff, beq_iff_eq, beq_eq_false_iff_ne, ne_eq, Bool.not_true, Bool.not_false, Bool.false_eq_true, Bool.true_eq_false] at * <;> omega)), hlo, hhi⟩ (by (try dsimp only); have := char_lt hb; omega) rfl (x_ent (by first | rfl | (simp only [Tr.get]; simp; done)) trivial) rfl
      case' n7 =>
       refine brF ?_
       first | refine x_inc ?_ | refine x_add ?_ | refine x_bin rfl rfl ?_
       refine x_rnd (k + 1) ⟨char_lt hb, okTo_next hok hb (by (simp only [charB, decide_eq_true_eq, decide_eq_false_iff_not, Bool.not_eq_true', Bool.not_eq_false', Bool.and_eq_true, Bool.or_eq_true, Bool.or_eq_false_iff, Bool.and_eq_false_iff, beq_iff_eq, beq_eq_false_iff_ne, ne_eq, Bool.not_true, Bool.not_false, Bool.false_eq_true, Bool.true_eq_false] at * <;> omega)), hlo, hhi⟩ (by (try dsimp only); have := char_lt hb; omega) rfl (x_ent (by first | rfl | (simp only [Tr.get]; simp; done)) trivial) rfl
     case' n6 =>
      refine br (fun hg12 => ?y12) (fun hg12 => ?n12)
      case' y12 =>
       refine brT ?_
       refine brT ?_
      case' n12 =>
       refine brF ?_
       first | refine x_inc ?_ | refine x_add ?_ | refine x_bin rfl rfl ?_
       refine x_rnd (k + 1) ⟨char_lt hb, okTo_next hok hb (by (simp only [charB, decide_eq_true_eq, decide_eq_false_iff_not, Bool.not_eq_true', Bool.not_eq_false', Bool.and_eq_true, Bool.or_eq_true, Bool.or_eq_false_iff, Bool.and_eq_false_iff, beq_iff_eq, beq_eq_false_iff_ne, ne_eq, Bool.not_true, Bool.not_false, Bool.false_eq_true, Bool.true_eq_false] at * <;> omega)), hlo, hhi⟩ (by (try dsimp only); have := char_lt hb; omega) rfl (x_ent (by first | rfl | (simp only [Tr.get]; simp; done)) trivial) rfl
    case' n5 =>
     first | refine x_ch (by exact hb) ?_ | refine x_chI (by exact hb) ?_
     refine br (fun hg16 => ?y16) (fun hg16 => ?n16)
     case' y16 =>
      first | refine x_ch (by exact hb) ?_ | refine x_chI (by exact hb) ?_
      refine brT ?_
      refine br (fun hg18 => ?y18) (fun hg18 => ?n18)
      case' y18 =>
       refine brT ?_
      case' n18 =>
       refine br (fun hc20 => ?y20) (fun hc20 => ?n20)
       case' n20 =>
        first | refine x_inc ?_ | refine x_add ?_ | refine x_bin rfl rfl ?_
        refine x_rnd (k + 1) ⟨char_lt hb, okTo_next hok hb (by (simp only [charB, decide_eq_true_eq, decide_eq_false_iff_not, Bool.not_eq_true', Bool.not_eq_false', Bool.and_eq_true, Bool.or_eq_true, Bool.or_eq_false_iff, Bool.and_eq_false_iff, beq_iff_eq, beq_eq_false_iff_ne, ne_eq, Bool.not_true, Bool.not_false, Bool.false_eq_true, Bool.true_eq_false] at * <;> omega)), hlo, hhi⟩ (by (try dsimp only); have := char_lt hb; omega) rfl (x_ent (by first | rfl | (simp only [Tr.get]; simp; done)) trivial) rfl
     case' n16 =>
      refine brT ?_
      refine brT ?_
      refine brT ?_
 all_goals (refine x_ret ?_; simp only [fitsL, fits, C.asD, and_true] <;> (refine scb ?_; first | (refine (name_short ?_).symm; omega; done) | (refine (name_long ?_).symm; omega; done) | (refine (name_no (char_lt hb) hb ?_).symm; (simp only [charB, decide_eq_true_eq, decide_eq_false_iff_not, Bool.not_eq_true', Bool.not_eq_false', Bool.and_eq_true, Bool.or_eq_true, Bool.or_eq_false_iff, Bool.and_eq_false_iff, beq_iff_eq, beq_eq_false_iff_ne, ne_eq, Bool.not_true, Bool.not_false, Bool.false_eq_true, Bool.true_eq_false] at * <;> omega); done) | (refine (name_yes hlo hhi ?_ hok).symm; omega; done)))

set_option maxHeartbeats 1000000 in
theorem text_any (s : ByteArray) : Contract Tryz.prog 83 [.sc (.string s)] [.d (.sc (.bool (decide (s.size ≤ 40))))] := by
 refine T.fn [] Tryz.func83 ?_
 refine x_len ?_
 all_goals (refine x_ret ?_; simp only [fitsL, fits, C.asD, and_true] <;> (refine scb ?_; simp; omega))

set_option maxHeartbeats 1000000 in
theorem factor_any (n : Int) : Contract Tryz.prog 82 [.sc (.int .i64 n)] [.d (.sc (.bool (decide (2 ≤ n) && decide (n ≤ 1000))))] := by
 refine T.fn [] Tryz.func82 ?_
 refine br (fun hg1 => ?y1) (fun hg1 => ?n1)
 all_goals (refine x_ret ?_; simp only [fitsL, fits, C.asD, and_true] <;> (refine scb ?_; first | (simp_all; done) | (simp_all <;> (intros; omega))))
end Go.Vm
end
section
namespace Go.Vm
open Go.RowKit Go.Proofs
set_option linter.unusedVariables false
set_option linter.unusedSimpArgs false
set_option maxRecDepth 10000

set_option maxHeartbeats 1000000 in
theorem less_any (a b : RefD) : Contract Tryz.prog 162 [rD a, rD b] [.d (.sc (.bool (lessB a b)))] := by
 refine T.fn [] Tryz.func162 ?_
 refine br (fun hc1 => ?y1) (fun hc1 => ?n1)
 case' n1 =>
  refine br (fun hc2 => ?y2) (fun hc2 => ?n2)
 all_goals (refine x_ret ?_; simp only [fitsL, fits, C.asD, and_true] <;> (refine scb ?_; simp_all [lessB, ltB]))

set_option maxHeartbeats 1000000 in
theorem refLess_any (a b : RefD) : Contract Tryz.prog 139 [rD a, rD b] [.d (.sc (.bool (lessB a b)))] := by
 refine T.fn [] Tryz.func139 ?_
 refine br (fun hc1 => ?y1) (fun hc1 => ?n1)
 case' n1 =>
  refine br (fun hc2 => ?y2) (fun hc2 => ?n2)
 all_goals (refine x_ret ?_; simp only [fitsL, fits, C.asD, and_true] <;> (refine scb ?_; simp_all [lessB, ltB]))

set_option maxHeartbeats 1000000 in
theorem place_any (r : RefD) : Contract Tryz.prog 80 [rD r] [.d (.sc (.bool (placeB r)))] := by
 refine T.fn [] Tryz.func80 ?_
 refine br (fun hg1 => ?y1) (fun hg1 => ?n1)
 case' y1 =>
  refine br (fun hc2 => ?y2) (fun hc2 => ?n2)
  case' n2 =>
   refine x_call T.en_81 (name_any _) ?_
   refine br (fun hg3 => ?y3) (fun hg3 => ?n3)
   case' y3 =>
    refine br (fun hg4 => ?y4) (fun hg4 => ?n4)
    case' n4 =>
     refine x_call T.en_81 (name_any _) ?_
 case' n1 =>
  refine brF ?_
  refine x_call T.en_81 (name_any _) ?_
  refine br (fun hg6 => ?y6) (fun hg6 => ?n6)
  case' y6 =>
   refine br (fun hg7 => ?y7) (fun hg7 => ?n7)
   case' n7 =>
    refine x_call T.en_81 (name_any _) ?_
 all_goals (refine x_ret ?_; simp only [fitsL, fits, C.asD, and_true] <;> (refine scb ?_; rcases (show r.scope = 0 ∨ r.scope = 1 ∨ (r.scope ≠ 0 ∧ r.scope ≠ 1) by omega) with h | h | h <;> simp_all [placeB, emp] <;> omega))

set_option maxHeartbeats 1000000 in
theorem refPlace_any (r : RefD) : Contract Tryz.prog 87 [rD r] [.d (.sc (.bool (placeB r)))] := by
 refine T.fn [] Tryz.func87 ?_
 refine br (fun hg1 => ?y1) (fun hg1 => ?n1)
 case' y1 =>
  refine br (fun hg2 => ?y2) (fun hg2 => ?n2)
  case' y2 =>
   refine x_call T.en_91 (refName_any _) ?_
   refine br (fun hg3 => ?y3) (fun hg3 => ?n3)
   case' y3 =>
    refine x_len ?_
    refine br (fun hg4 => ?y4) (fun hg4 => ?n4)
    case' n4 =>
     refine x_call T.en_91 (refName_any _) ?_
  case' n2 =>
   refine brF ?_
 case' n1 =>
  refine brF ?_
  refine brF ?_
 all_goals (refine x_ret ?_; simp only [fitsL, fits, C.asD, and_true] <;> (refine scb ?_; rcases (show r.scope = 0 ∨ r.scope = 1 ∨ (r.scope ≠ 0 ∧ r.scope ≠ 1) by omega) with h | h | h <;> simp_all [placeB, emp] <;> omega))
end Go.Vm
end
section
namespace Go.Vm
open Go.RowKit Go.Proofs
set_option linter.unusedVariables false
set_option linter.unusedSimpArgs false
set_option maxRecDepth 10000
theorem v_25 (x : RefD) : conc (rD x) = some (.agg #[.int .i64 x.scope, .string x.group, .string x.name]) := rfl
theorem rune_25 (r s : RefD) (x y : Operand) (w : World) : (do eqGuard .eql 25 x y (.agg #[.int .i64 r.scope, .string r.group, .string r.name]) (.agg #[.int .i64 s.scope, .string s.group, .string s.name]); binOp .eql 25 (.agg #[.int .i64 r.scope, .string r.group, .string r.name]) (.agg #[.int .i64 s.scope, .string s.group, .string s.name]) : Sem Value).run Tryz.prog w = .ok (.bool (decide (r = s))) w := by
  obtain ⟨a, b, c⟩ := r
  obtain ⟨a', b', c'⟩ := s
  simp [go_sem, eq_strs]
  repeat (first | (split <;> simp_all; done) | split)
  all_goals simp_all
theorem xeq_25e {x y : Operand} {K : Value → Prop} (r s : RefD) (hK : K (.bool (decide (r = s)))) : ∃ u v r', (conc (rD r) = some u ∧ conc (rD s) = some v) ∧ (∀ w, (do eqGuard .eql 25 x y u v; binOp .eql 25 u v : Sem Value).run Tryz.prog w = .ok r' w) ∧ plainV r' = true ∧ K r' := x_eqS (v_25 r) (v_25 s) (fun w => rune_25 r s x y w) rfl hK
theorem runn_25 (r s : RefD) (x y : Operand) (w : World) : (do eqGuard .neq 25 x y (.agg #[.int .i64 r.scope, .string r.group, .string r.name]) (.agg #[.int .i64 s.scope, .string s.group, .string s.name]); binOp .neq 25 (.agg #[.int .i64 r.scope, .string r.group, .string r.name]) (.agg #[.int .i64 s.scope, .string s.group, .string s.name]) : Sem Value).run Tryz.prog w = .ok (.bool (!decide (r = s))) w := by
  obtain ⟨a, b, c⟩ := r
  obtain ⟨a', b', c'⟩ := s
  simp [go_sem, eq_strs]
  repeat (first | (split <;> simp_all; done) | split)
  all_goals simp_all
theorem xeq_25n {x y : Operand} {K : Value → Prop} (r s : RefD) (hK : K (.bool (!decide (r = s)))) : ∃ u v r', (conc (rD r) = some u ∧ conc (rD s) = some v) ∧ (∀ w, (do eqGuard .neq 25 x y u v; binOp .neq 25 u v : Sem Value).run Tryz.prog w = .ok r' w) ∧ plainV r' = true ∧ K r' := x_eqS (v_25 r) (v_25 s) (fun w => runn_25 r s x y w) rfl hK
theorem v_119 (x : (ByteArray × ByteArray)) : conc (pairD x) = some (.agg #[.string x.1, .string x.2]) := rfl
theorem rune_119 (r s : (ByteArray × ByteArray)) (x y : Operand) (w : World) : (do eqGuard .eql 119 x y (.agg #[.string r.1, .string r.2]) (.agg #[.string s.1, .string s.2]); binOp .eql 119 (.agg #[.string r.1, .string r.2]) (.agg #[.string s.1, .string s.2]) : Sem Value).run Tryz.prog w = .ok (.bool (decide (r = s))) w := by
  obtain ⟨a, b⟩ := r
  obtain ⟨a', b'⟩ := s
  simp [go_sem, eq_strs]
  repeat (first | (split <;> simp_all; done) | split)
  all_goals simp_all
theorem xeq_119e {x y : Operand} {K : Value → Prop} (r s : (ByteArray × ByteArray)) (hK : K (.bool (decide (r = s)))) : ∃ u v r', (conc (pairD r) = some u ∧ conc (pairD s) = some v) ∧ (∀ w, (do eqGuard .eql 119 x y u v; binOp .eql 119 u v : Sem Value).run Tryz.prog w = .ok r' w) ∧ plainV r' = true ∧ K r' := x_eqS (v_119 r) (v_119 s) (fun w => rune_119 r s x y w) rfl hK
theorem runn_119 (r s : (ByteArray × ByteArray)) (x y : Operand) (w : World) : (do eqGuard .neq 119 x y (.agg #[.string r.1, .string r.2]) (.agg #[.string s.1, .string s.2]); binOp .neq 119 (.agg #[.string r.1, .string r.2]) (.agg #[.string s.1, .string s.2]) : Sem Value).run Tryz.prog w = .ok (.bool (!decide (r = s))) w := by
  obtain ⟨a, b⟩ := r
  obtain ⟨a', b'⟩ := s
  simp [go_sem, eq_strs]
  repeat (first | (split <;> simp_all; done) | split)
  all_goals simp_all
theorem xeq_119n {x y : Operand} {K : Value → Prop} (r s : (ByteArray × ByteArray)) (hK : K (.bool (!decide (r = s)))) : ∃ u v r', (conc (pairD r) = some u ∧ conc (pairD s) = some v) ∧ (∀ w, (do eqGuard .neq 119 x y u v; binOp .neq 119 u v : Sem Value).run Tryz.prog w = .ok r' w) ∧ plainV r' = true ∧ K r' := x_eqS (v_119 r) (v_119 s) (fun w => runn_119 r s x y w) rfl hK

end Go.Vm
end
section
namespace Go.Vm
open Go.RowKit Go.Proofs
set_option linter.unusedVariables false
set_option linter.unusedSimpArgs false
set_option maxRecDepth 10000

theorem past_end {α : Type} {l : List α} {k : Nat} (h : ¬ (k : Int) < (l.length : Int)) : l.length ≤ k := by omega
theorem lt_len {α : Type} {l : List α} {k : Nat} {p : α} (hp : l[k]? = some p) : k < l.length := (List.getElem?_eq_some_iff.1 hp).1
theorem not_mem_next {α : Type} {l : List α} {s p : α} {k : Nat} (hp : l[k]? = some p) (h : s ∉ l.take k) (hn : ¬ s = p) : s ∉ l.take (k + 1) := by
  rw [List.take_add_one, hp]; simp [h, hn]
theorem not_mem_end {α : Type} {l : List α} {s : α} {k : Nat} (hk : l.length ≤ k) (h : s ∉ l.take k) : s ∉ l := by rwa [List.take_of_length_le hk] at h
theorem take_eq_next {α : Type} {l m : List α} {p q : α} {k : Nat} (hp : l[k]? = some p) (hq : m[k]? = some q) (h : l.take k = m.take k) (hn : p = q) : l.take (k + 1) = m.take (k + 1) := by
  rw [List.take_add_one, List.take_add_one, hp, hq, h, hn]
theorem take_eq_end {α : Type} {l m : List α} {k : Nat} (hl : l.length = m.length) (hk : l.length ≤ k) (h : l.take k = m.take k) : l = m := by
  rwa [List.take_of_length_le hk, List.take_of_length_le (by omega)] at h
theorem ne_at {α : Type} {l m : List α} {p q : α} {k : Nat} (hp : l[k]? = some p) (hq : m[k]? = some q) (hn : ¬ p = q) : ¬ l = m := by
  rintro rfl; rw [hp] at hq; injection hq with hq; exact hn hq
theorem elem_too {α β : Type} {l : List α} {m : List β} {k : Nat} {p : α} (hp : l[k]? = some p) (hl : l.length = m.length) : ∃ q, m[k]? = some q := ⟨_, List.getElem?_eq_getElem (by have := lt_len hp; omega)⟩
def idxB (s : ByteArray) (l : List ByteArray) : Int := if s ∈ l then ((l.findIdx (fun x => decide (x = s)) : Nat) : Int) else -1
theorem idx_hit {l : List ByteArray} {s p : ByteArray} {k : Nat} (hp : l[k]? = some p) (h : s ∉ l.take k) (hn : s = p) : idxB s l = (k : Int) := by
  subst hn
  obtain ⟨hlt, hpe⟩ := List.getElem?_eq_some_iff.1 hp
  have e : l.findIdx (fun x => decide (x = s)) = k := by
    rw [List.findIdx_eq hlt]
    refine ⟨by simp [hpe], fun j hj => ?_⟩
    simp only [decide_eq_false_iff_not]
    intro e
    exact h (List.mem_take_iff_getElem.2 ⟨j, by omega, e⟩)
  unfold idxB
  rw [if_pos (List.mem_of_getElem? hp), e]
theorem idx_miss {l : List ByteArray} {s : ByteArray} {k : Nat} (hk : l.length ≤ k) (h : s ∉ l.take k) : idxB s l = -1 := if_neg (not_mem_end hk h)
theorem idx_iff {l : List ByteArray} {s : ByteArray} : decide (0 ≤ idxB s l) = decide (s ∈ l) := by
  unfold idxB
  by_cases h : s ∈ l
  · rw [if_pos h]; simp [h]
  · rw [if_neg h]; simp [h]
theorem scb' {a b : Bool} (h : a = b) : D.sc (.bool a) = D.sc (.bool b) := by rw [h]

set_option maxHeartbeats 1000000 in
theorem refHas_any (l : List ByteArray) (s : ByteArray) (hl : l.length ≤ 1000000) : Contract Tryz.prog 132 [.row (l.map strD), .sc (.string s)] [.d (.sc (.bool (decide (s ∈ l))))] := by
 refine T.fn [] Tryz.func132 ?_
 refine xloopR (fb := []) T.ok (Nat.le_of_ble_eq_true rfl) [0, 1] (fun (k : Nat) => [(5, .c (.d (.sc (.int .i64 (k : Nat)))))]) (fun k => k ≤ l.length ∧ s ∉ l.take k) (fun k => l.length - k) 0 ⟨Nat.zero_le _, by simp⟩ (x_ent (by first | rfl | (simp only [Tr.get]; simp; done)) trivial) ?_
 rintro k ⟨hk, hi⟩
 refine x_len ?_
 refine br (fun hc1 => ?y1) (fun hc1 => ?n1)
 case' y1 =>
  obtain ⟨p, hp⟩ := elem_at hc1
  first | refine x_ix (by exact mapAt hp) ?_ | refine x_ixI (by exact mapAt hp) ?_
  refine br (fun hc2 => ?y2) (fun hc2 => ?n2)
  case' n2 =>
   first | refine x_inc ?_ | refine x_add ?_ | refine x_bin rfl rfl ?_
   refine x_rnd (k + 1) ⟨lt_len hp, not_mem_next hp hi (fun e => by simp_all)⟩ (by (try dsimp only); have := lt_len hp; omega) rfl (x_ent (by first | rfl | (simp only [Tr.get]; simp; done)) trivial) rfl
 all_goals (refine x_ret ?_; simp only [fitsL, fits, C.asD, and_true] <;> (refine scb ?_; first | (refine (decide_eq_true (?_ : s ∈ l)).symm; have h := ‹p = s›; rw [← h]; exact List.mem_of_getElem? hp) | (refine (decide_eq_true (?_ : s ∈ l)).symm; have h := ‹s = p›; rw [h]; exact List.mem_of_getElem? hp) | exact (decide_eq_false (not_mem_end (past_end (by assumption)) hi)).symm))

set_option maxHeartbeats 1000000 in
theorem index_any (l : List ByteArray) (s : ByteArray) (hl : l.length ≤ 1000000) : Contract Tryz.prog 149 [.row (l.map strD), .sc (.string s)] [.d (.sc (.int .i64 (idxB s l)))] := by
 refine T.fn [] Tryz.func149 ?_
 refine x_len ?_
 refine xloopR (fb := []) T.ok (Nat.le_of_ble_eq_true rfl) [0, 1, 7] (fun (k : Nat) => [(8, .c (.d (.sc (.int .i64 (k : Nat)))))]) (fun k => k ≤ l.length ∧ s ∉ l.take k) (fun k => l.length - k) 0 ⟨Nat.zero_le _, by simp⟩ (x_ent (by first | rfl | (simp only [Tr.get]; simp; done)) trivial) ?_
 rintro k ⟨hk, hi⟩
 refine br (fun hc1 => ?y1) (fun hc1 => ?n1)
 case' y1 =>
  obtain ⟨p, hp⟩ := elem_at hc1
  first | refine x_ix (by exact mapAt hp) ?_ | refine x_ixI (by exact mapAt hp) ?_
  refine br (fun hc2 => ?y2) (fun hc2 => ?n2)
  case' n2 =>
   first | refine x_inc ?_ | refine x_add ?_ | refine x_bin rfl rfl ?_
   refine x_rnd (k + 1) ⟨lt_len hp, not_mem_next hp hi (fun e => by simp_all)⟩ (by (try dsimp only); have := lt_len hp; omega) rfl (x_ent (by first | rfl | (simp only [Tr.get]; simp; done)) trivial) rfl
 all_goals (refine x_ret ?_; simp only [fitsL, fits, C.asD, and_true] <;> (first | (rw [idx_hit hp hi ‹s = p›]) | (rw [idx_miss (past_end (by assumption)) hi])))

set_option maxHeartbeats 1000000 in
theorem contains_any (l : List ByteArray) (s : ByteArray) (hl : l.length ≤ 1000000) : Contract Tryz.prog 129 [.row (l.map strD), .sc (.string s)] [.d (.sc (.bool (decide (s ∈ l))))] := by
 refine T.fn [] Tryz.func129 ?_
 refine x_call T.en_149 (index_any _ _ (by assumption)) ?_
 all_goals (refine x_ret ?_; simp only [fitsL, fits, C.asD, and_true] <;> (refine scb ?_; exact idx_iff))

set_option maxHeartbeats 1000000 in
theorem equal_any (l m : List ByteArray) (hl : l.length ≤ 1000000) : Contract Tryz.prog 133 [.row (l.map strD), .row (m.map strD)] [.d (.sc (.bool (decide (l = m))))] := by
 refine T.fn [] Tryz.func133 ?_
 refine x_len ?_
 refine x_len ?_
 refine br (fun hc1 => ?y1) (fun hc1 => ?n1)
 case' n1 =>
  have hlen : l.length = m.length := by omega
  refine x_len ?_
  refine xloopR (fb := []) T.ok (Nat.le_of_ble_eq_true rfl) [0, 1, 12] (fun (k : Nat) => [(13, .c (.d (.sc (.int .i64 (k : Nat)))))]) (fun k => k ≤ l.length ∧ l.take k = m.take k) (fun k => l.length - k) 0 ⟨Nat.zero_le _, rfl⟩ (x_ent (by first | rfl | (simp only [Tr.get]; simp; done)) trivial) ?_
  rintro k ⟨hk, hi⟩
  refine br (fun hc2 => ?y2) (fun hc2 => ?n2)
  case' y2 =>
   obtain ⟨p, hp⟩ := elem_at hc2
   obtain ⟨q, hq⟩ := elem_too hp hlen
   refine And.intro ⟨T.mixed, by decide +kernel⟩ ?_
   first | refine x_ix (by first | exact mapAt hp | exact mapAt hq) ?_ | refine x_ixI (by first | exact mapAt hp | exact mapAt hq) ?_
   first | refine x_ix (by first | exact mapAt hp | exact mapAt hq) ?_ | refine x_ixI (by first | exact mapAt hp | exact mapAt hq) ?_
   refine br (fun hc3 => ?y3) (fun hc3 => ?n3)
   case' n3 =>
    first | refine x_inc ?_ | refine x_add ?_ | refine x_bin rfl rfl ?_
    refine x_rnd (k + 1) ⟨lt_len hp, take_eq_next hp hq hi (by simp_all)⟩ (by (try dsimp only); have := lt_len hp; omega) rfl (x_ent (by first | rfl | (simp only [Tr.get]; simp; done)) trivial) rfl
 all_goals (refine x_ret ?_; simp only [fitsL, fits, C.asD, and_true] <;> (refine scb ?_; first | exact (decide_eq_false (fun e => by simp_all)).symm | exact (decide_eq_false (ne_at hp hq (fun e => by simp_all))).symm | exact (decide_eq_true (take_eq_end hlen (past_end (by assumption)) hi)).symm))

set_option maxHeartbeats 1000000 in
theorem refSames_any (l m : List ByteArray) (hl : l.length ≤ 1000000) : Contract Tryz.prog 116 [.row (l.map strD), .row (m.map strD)] [.d (.sc (.bool (decide (l = m))))] := by
 refine T.fn [] Tryz.func116 ?_
 refine x_len ?_
 refine x_len ?_
 refine br (fun hc1 => ?y1) (fun hc1 => ?n1)
 case' n1 =>
  have hlen : l.length = m.length := by omega
  refine xloopR (fb := []) T.ok (Nat.le_of_ble_eq_true rfl) [0, 1] (fun (k : Nat) => [(5, .c (.d (.sc (.int .i64 (k : Nat)))))]) (fun k => k ≤ l.length ∧ l.take k = m.take k) (fun k => l.length - k) 0 ⟨Nat.zero_le _, rfl⟩ (x_ent (by first | rfl | (simp only [Tr.get]; simp; done)) trivial) ?_
  rintro k ⟨hk, hi⟩
  refine x_len ?_
  refine br (fun hc2 => ?y2) (fun hc2 => ?n2)
  case' y2 =>
   obtain ⟨p, hp⟩ := elem_at hc2
   obtain ⟨q, hq⟩ := elem_too hp hlen
   refine And.intro ⟨T.mixed, by decide +kernel⟩ ?_
   first | refine x_ix (by first | exact mapAt hp | exact mapAt hq) ?_ | refine x_ixI (by first | exact mapAt hp | exact mapAt hq) ?_
   first | refine x_ix (by first | exact mapAt hp | exact mapAt hq) ?_ | refine x_ixI (by first | exact mapAt hp | exact mapAt hq) ?_
   refine br (fun hc3 => ?y3) (fun hc3 => ?n3)
   case' n3 =>
    first | refine x_inc ?_ | refine x_add ?_ | refine x_bin rfl rfl ?_
    refine x_rnd (k + 1) ⟨lt_len hp, take_eq_next hp hq hi (by simp_all)⟩ (by (try dsimp only); have := lt_len hp; omega) rfl (x_ent (by first | rfl | (simp only [Tr.get]; simp; done)) trivial) rfl
 all_goals (refine x_ret ?_; simp only [fitsL, fits, C.asD, and_true] <;> (refine scb ?_; first | exact (decide_eq_false (fun e => by simp_all)).symm | exact (decide_eq_false (ne_at hp hq (fun e => by simp_all))).symm | exact (decide_eq_true (take_eq_end hlen (past_end (by assumption)) hi)).symm))
end Go.Vm
end
section
namespace Go.Vm
open Go.RowKit Go.Proofs
set_option linter.unusedVariables false
set_option linter.unusedSimpArgs false
set_option maxRecDepth 10000

theorem take_fold {α : Type} {f : α → D} {l : List α} {k : Nat} : List.drop 0 (List.take k (l.map f)) = (l.take k).map f := by rw [List.drop_zero, List.map_take]
theorem strs_wide {l : List ByteArray} : ∀ x ∈ l.map strD, x.cells.length = 1 := by
  intro x hx; obtain ⟨y, _, rfl⟩ := List.mem_map.1 hx; rfl
theorem take_short {α : Type} {l : List α} {k n : Nat} (h : l.length ≤ n) : (l.take k).length ≤ n := by rw [List.length_take]; omega

set_option maxHeartbeats 1000000 in
theorem cases_any (l : List ByteArray) (hl : l.length ≤ 1000000) : Contract Tryz.prog 128 [.row (l.map strD)] [.d (.sc (.bool (casesB l)))] := by
 refine T.fn [] Tryz.func128 ?_
 refine x_len ?_
 refine br (fun hg1 => ?y1) (fun hg1 => ?n1)
 case' y1 =>
  refine brT ?_
 case' n1 =>
  refine x_len ?_
  refine br (fun hc3 => ?y3) (fun hc3 => ?n3)
  case' n3 =>
   have hlo : 1 ≤ l.length := by omega
   have hhi : l.length ≤ 6 := by omega
   refine x_len ?_
   refine xloopR (fb := []) T.ok (Nat.le_of_ble_eq_true rfl) [0, 13, 14] (fun (k : Nat) => [(15, .c (.d (.sc (.int .i64 (k : Nat)))))]) (fun k => k ≤ l.length ∧ okC l k = true ∧ 1 ≤ l.length ∧ l.length ≤ 6) (fun k => l.length - k) 0 ⟨Nat.zero_le _, ⟨okC_zero l, hlo, hhi⟩⟩ (x_ent (by first | rfl | (simp only [Tr.get]; simp; done)) trivial) ?_
   rintro k ⟨hk, hi⟩
   refine br (fun hc4 => ?y4) (fun hc4 => ?n4)
   case' y4 =>
    obtain ⟨p, hp⟩ := elem_at hc4
    have hkl := lt_len hp
    have htk := take_short (k := k) hl
    first | refine x_ix (by exact mapAt hp) ?_ | refine x_ixI (by exact mapAt hp) ?_
    refine x_call T.en_81 (name_any _) ?_
    refine br (fun hg5 => ?y5) (fun hg5 => ?n5)
    case' y5 =>
     refine brT ?_
    case' n5 =>
     first | refine x_bnd ?_ | refine x_bndI ?_
     refine x_row ?_ (by exact strs_wide) (hy := by first | exact take_fold | rfl)
     refine x_call T.en_129 (contains_any _ _ (by assumption)) ?_
     refine br (fun hc7 => ?y7) (fun hc7 => ?n7)
     case' n7 =>
      first | refine x_inc ?_ | refine x_add ?_ | refine x_bin rfl rfl ?_
      refine x_rnd (k + 1) ⟨lt_len hp, okC_next hp hi.1 (by simp_all) (by simp_all), hi.2⟩ (by (try dsimp only); have := lt_len hp; omega) rfl (x_ent (by first | rfl | (simp only [Tr.get]; simp; done)) trivial) rfl
 all_goals (refine x_ret ?_; simp only [fitsL, fits, C.asD, and_true] <;> (refine scb ?_; first | (refine (cases_short ?_).symm; omega; done) | (refine (cases_long ?_).symm; omega; done) | (refine (cases_no hp ?_).symm; simp_all; done) | exact (cases_yes hi.2.1 hi.2.2 (past_end (by assumption)) hi.1).symm))

set_option maxHeartbeats 1000000 in
theorem fieldRight_any (f : FieldD) (hl : f.cases.length ≤ 1000000) : Contract Tryz.prog 79 [fD f] [.d (.sc (.bool (rightF f)))] := by
 refine T.fn [] Tryz.func79 ?_
 refine x_call T.en_80 (place_any f.at_) ?_
 refine br (fun hc1 => ?y1) (fun hc1 => ?n1)
 case' n1 =>
  refine x_len ?_
  refine br (fun hc2 => ?y2) (fun hc2 => ?n2)
  case' y2 =>
   refine br (fun hg3 => ?y3) (fun hg3 => ?n3)
   case' y3 =>
    refine br (fun hg4 => ?y4) (fun hg4 => ?n4)
    case' y4 =>
     refine br (fun hg5 => ?y5) (fun hg5 => ?n5)
    case' n4 =>
     refine brF ?_
   case' n3 =>
    refine brF ?_
    refine brF ?_
  case' n2 =>
   refine br (fun hc9 => ?y9) (fun hc9 => ?n9)
   case' y9 =>
    refine x_call T.en_83 (text_any _) ?_
    refine br (fun hg10 => ?y10) (fun hg10 => ?n10)
    case' y10 =>
     refine br (fun hg11 => ?y11) (fun hg11 => ?n11)
    case' n10 =>
     refine brF ?_
   case' n9 =>
    refine br (fun hc13 => ?y13) (fun hc13 => ?n13)
    case' y13 =>
     refine x_call T.en_128 (cases_any _ (by assumption)) ?_
     refine br (fun hg14 => ?y14) (fun hg14 => ?n14)
     case' y14 =>
      refine x_call T.en_129 (contains_any _ _ (by assumption)) ?_
      refine br (fun hg15 => ?y15) (fun hg15 => ?n15)
     case' n14 =>
      refine brF ?_
    case' n13 =>
     refine br (fun hc17 => ?y17) (fun hc17 => ?n17)
     case' y17 =>
      refine br (fun hg18 => ?y18) (fun hg18 => ?n18)
      case' y18 =>
       refine br (fun hg19 => ?y19) (fun hg19 => ?n19)
      case' n18 =>
       refine brF ?_
 all_goals (refine x_ret ?_; simp only [fitsL, fits, C.asD, and_true] <;> (refine scb ?_; first | (simp_all [rightF]; done) | (simp_all [rightF] <;> (intros; omega))))

set_option maxHeartbeats 1000000 in
theorem fieldSame_any (f g : FieldD) (hl : f.cases.length ≤ 1000000) : Contract Tryz.prog 92 [fD f, fD g] [.d (.sc (.bool (decide (f = g))))] := by
 refine T.fn [] Tryz.func92 ?_
 first | refine xeq_25e _ _ ?_ | refine xeq_25e _ noRef ?_ | refine xeq_25e noRef _ ?_
 refine br (fun hg1 => ?y1) (fun hg1 => ?n1)
 case' y1 =>
  refine br (fun hg2 => ?y2) (fun hg2 => ?n2)
  case' y2 =>
   refine br (fun hg3 => ?y3) (fun hg3 => ?n3)
   case' y3 =>
    refine x_call T.en_133 (equal_any _ _ (by assumption)) ?_
    refine br (fun hg4 => ?y4) (fun hg4 => ?n4)
   case' n3 =>
    refine brF ?_
  case' n2 =>
   refine brF ?_
   refine brF ?_
 case' n1 =>
  refine brF ?_
  refine brF ?_
  refine brF ?_
 all_goals (refine x_ret ?_; simp only [fitsL, fits, C.asD, and_true] <;> (refine scb ?_; cases f; cases g; simp_all))

set_option maxHeartbeats 1000000 in
theorem sameTexts_any (l m : List ByteArray) (hl : l.length ≤ 1000000) : Contract Tryz.prog 120 [.row (l.map strD), .row (m.map strD)] [.d (.sc (.bool (decide (l = m))))] := by
 refine T.fn [] Tryz.func120 ?_
 refine x_call T.en_116 (refSames_any _ _ (by assumption)) ?_
 all_goals (refine x_ret ?_; simp only [fitsL, fits, C.asD, and_true] <;> (first | rfl | trivial))

set_option maxHeartbeats 1000000 in
theorem refFieldSame_any (f g : FieldD) (hl : f.cases.length ≤ 1000000) : Contract Tryz.prog 65 [fD f, fD g] [.d (.sc (.bool (decide (f = g))))] := by
 refine T.fn [] Tryz.func65 ?_
 first | refine xeq_25e _ _ ?_ | refine xeq_25e _ noRef ?_ | refine xeq_25e noRef _ ?_
 refine br (fun hg1 => ?y1) (fun hg1 => ?n1)
 case' y1 =>
  refine br (fun hg2 => ?y2) (fun hg2 => ?n2)
  case' y2 =>
   refine br (fun hg3 => ?y3) (fun hg3 => ?n3)
   case' y3 =>
    refine br (fun hg4 => ?y4) (fun hg4 => ?n4)
    case' y4 =>
     refine x_call T.en_120 (sameTexts_any _ _ (by assumption)) ?_
   case' n3 =>
    refine brF ?_
  case' n2 =>
   refine brF ?_
   refine brF ?_
 case' n1 =>
  refine brF ?_
  refine brF ?_
  refine brF ?_
 all_goals (refine x_ret ?_; simp only [fitsL, fits, C.asD, and_true] <;> (refine scb ?_; cases f; cases g; simp_all))

set_option maxHeartbeats 1000000 in
theorem fieldOwn_any (f : FieldD) (hl : f.cases.length ≤ 1000000) : Contract Tryz.prog 119 [fD f] [.d (fD f)] := by
 refine T.fn [] Tryz.func119 ?_
 first | refine x_app ?_ (by exact strs_wide) | refine x_appN ?_ (by exact strs_wide)
 all_goals (refine x_ret ?_; simp only [fitsL, fits, C.asD, and_true] <;> (rfl))

set_option maxHeartbeats 1000000 in
theorem refFieldRight_any (f : FieldD) (hl : f.cases.length ≤ 1000000) : Contract Tryz.prog 86 [fD f] [.d (.sc (.bool (rightF f)))] := by
 refine T.fn [] Tryz.func86 ?_
 refine x_call T.en_87 (refPlace_any _) ?_
 refine br (fun hc1 => ?y1) (fun hc1 => ?n1)
 case' n1 =>
  refine br (fun hc2 => ?y2) (fun hc2 => ?n2)
  case' y2 =>
   refine br (fun hg3 => ?y3) (fun hg3 => ?n3)
   case' y3 =>
    refine x_len ?_
    refine br (fun hg4 => ?y4) (fun hg4 => ?n4)
    case' y4 =>
     refine br (fun hg5 => ?y5) (fun hg5 => ?n5)
    case' n4 =>
     refine brF ?_
   case' n3 =>
    refine brF ?_
    refine brF ?_
  case' n2 =>
   refine br (fun hc9 => ?y9) (fun hc9 => ?n9)
   case' n9 =>
    refine br (fun hc10 => ?y10) (fun hc10 => ?n10)
    case' y10 =>
     refine xloopR (fb := []) T.ok (Nat.le_of_ble_eq_true rfl) [1] (fun (k : Nat) => [(3, .c (.d (.sc (.int .i64 (k : Nat)))))]) (fun k => k ≤ f.cases.length ∧ okC f.cases k = true) (fun k => f.cases.length - k) 0 ⟨Nat.zero_le _, okC_zero _⟩ (x_ent (by first | rfl | (simp only [Tr.get]; simp; done)) trivial) ?_
     rintro k ⟨hk, hi⟩
     refine x_len ?_
     refine br (fun hc11 => ?y11) (fun hc11 => ?n11)
     case' y11 =>
      obtain ⟨p, hp⟩ := elem_at hc11
      have hkl := lt_len hp
      have htk := take_short (k := k) hl
      refine And.intro ⟨T.mixed, by decide +kernel⟩ ?_
      first | refine x_ix (by exact mapAt hp) ?_ | refine x_ixI (by exact mapAt hp) ?_
      refine x_call T.en_91 (refName_any _) ?_
      refine br (fun hg12 => ?y12) (fun hg12 => ?n12)
      case' y12 =>
       refine brT ?_
      case' n12 =>
       first | refine x_bnd ?_ | refine x_bndI ?_
       refine x_row ?_ (by exact strs_wide) (hy := by first | exact take_fold | rfl)
       first | refine x_ix (by exact mapAt hp) ?_ | refine x_ixI (by exact mapAt hp) ?_
       refine x_call T.en_132 (refHas_any _ _ (by assumption)) ?_
       refine br (fun hc14 => ?y14) (fun hc14 => ?n14)
       case' n14 =>
        first | refine x_inc ?_ | refine x_add ?_ | refine x_bin rfl rfl ?_
        refine x_rnd (k + 1) ⟨lt_len hp, okC_next hp hi (by simp_all) (by simp_all)⟩ (by (try dsimp only); have := lt_len hp; omega) rfl (x_ent (by first | rfl | (simp only [Tr.get]; simp; done)) trivial) rfl
     case' n11 =>
      refine x_len ?_
      refine br (fun hg15 => ?y15) (fun hg15 => ?n15)
      case' y15 =>
       refine x_call T.en_132 (refHas_any _ _ (by assumption)) ?_
    case' n10 =>
     refine x_len ?_
     refine br (fun hc16 => ?y16) (fun hc16 => ?n16)
     case' n16 =>
      refine br (fun hg17 => ?y17) (fun hg17 => ?n17)
      case' y17 =>
       refine x_len ?_
       refine br (fun hg18 => ?y18) (fun hg18 => ?n18)
       case' n18 =>
        refine br (fun hg19 => ?y19) (fun hg19 => ?n19)
        case' y19 =>
         exfalso; omega
      case' n17 =>
       refine brF ?_
       refine br (fun hg21 => ?y21) (fun hg21 => ?n21)
 all_goals (refine x_ret ?_; simp only [fitsL, fits, C.asD, and_true] <;> (refine scb ?_; first | (refine (rightF_bare ?_ ?_ ?_).symm <;> omega; done) | (have hno := cases_no hp (by simp_all); simp_all [rightF]; done) | (have hC := okC_end (past_end (by assumption)) hi; clear hi; have h1 : f.deft ∈ f.cases → 0 < f.cases.length := List.length_pos_of_mem; by_cases hm : f.deft ∈ f.cases <;> simp_all [rightF, casesB] <;> omega) | (simp_all [rightF]; done) | (rw [Bool.eq_iff_iff]; simp_all [rightF, emp] <;> omega) | (rcases (show f.kind = 1 ∨ f.kind = 2 ∨ f.kind = 3 ∨ f.kind = 4 ∨ (f.kind ≠ 1 ∧ f.kind ≠ 2 ∧ f.kind ≠ 3 ∧ f.kind ≠ 4) by omega) with h | h | h | h | h <;> simp_all [rightF, emp] <;> (intros; omega)) | (simp_all [rightF, emp] <;> (intros; omega))))
end Go.Vm
end
section
namespace Go.Vm
set_option linter.unusedVariables false
set_option linter.unusedSimpArgs false

/-! ### Order -/
theorem bl_irrefl : ∀ a : List UInt8, Op.bytesLess a a = false
  | [] => rfl
  | x :: l => by simp [Op.bytesLess, bl_irrefl l, UInt8.lt_irrefl]
theorem bl_trans : ∀ a b c : List UInt8, Op.bytesLess a b = true → Op.bytesLess b c = true → Op.bytesLess a c = true
  | [], _, [], h, h2 => by cases ‹List UInt8› <;> simp [Op.bytesLess] at h h2
  | [], _, _ :: _, _, _ => rfl
  | _ :: _, [], _, h, _ => by simp [Op.bytesLess] at h
  | _ :: _, _ :: _, [], _, h => by simp [Op.bytesLess] at h
  | x :: a, y :: b, z :: c, h, h2 => by
    simp only [Op.bytesLess, Bool.or_eq_true, Bool.and_eq_true, decide_eq_true_eq, beq_iff_eq] at h h2 ⊢
    rcases h with h | ⟨rfl, h⟩
    · rcases h2 with h2 | ⟨rfl, h2⟩
      · exact .inl (UInt8.lt_trans h h2)
      · exact .inl h
    · rcases h2 with h2 | ⟨rfl, h2⟩
      · exact .inl h2
      · exact .inr ⟨rfl, bl_trans a b c h h2⟩
theorem ltB_irrefl (a : ByteArray) : ltB a a = false := bl_irrefl _
theorem ltB_trans {a b c : ByteArray} (h : ltB a b = true) (h2 : ltB b c = true) : ltB a c = true := bl_trans _ _ _ h h2
theorem lessB_irrefl (r : RefD) : lessB r r = false := by simp [lessB, ltB_irrefl]
theorem lessB_iff {a b : RefD} : lessB a b = true ↔ a.scope < b.scope ∨ a.scope = b.scope ∧ (ltB a.group b.group = true ∨ a.group = b.group ∧ ltB a.name b.name = true) := by
  unfold lessB
  by_cases e1 : a.scope = b.scope
  · rw [if_neg (by simpa using e1)]
    by_cases e2 : a.group = b.group
    · rw [if_neg (by simpa using e2), e2, ltB_irrefl]; simp [e1]
    · rw [if_pos e2]; simp [e1, e2]
  · rw [if_pos e1]; simp [e1]
theorem lessB_trans {a b c : RefD} (h : lessB a b = true) (h2 : lessB b c = true) : lessB a c = true := by
  rw [lessB_iff] at *
  rcases h with h | ⟨e, h⟩
  · rcases h2 with h2 | ⟨e2, h2⟩
    · left; omega
    · left; omega
  · rcases h2 with h2 | ⟨e2, h2⟩
    · left; omega
    · right
      refine ⟨by omega, ?_⟩
      rcases h with h | ⟨g, h⟩
      · rcases h2 with h2 | ⟨g2, h2⟩
        · exact .inl (ltB_trans h h2)
        · exact .inl (g2 ▸ h)
      · rcases h2 with h2 | ⟨g2, h2⟩
        · exact .inl (g ▸ h2)
        · exact .inr ⟨g.trans g2, ltB_trans h h2⟩

/-! ### Schemas -/
/-- A list of fields that isn't long. -/
def okL (l : List FieldD) : Prop := l.length ≤ 1000 ∧ ∀ f ∈ l, f.cases.length ≤ 1000000
theorem okL.at {l : List FieldD} {k : Nat} {p : FieldD} (h : okL l) (hp : l[k]? = some p) : p.cases.length ≤ 1000000 := h.2 p (List.mem_of_getElem? hp)
def okSk (l : List FieldD) (k : Nat) : Bool := (List.range k).all fun j => match l[j]? with
  | some f => rightF f && (match l[j - 1]? with | some g => decide (j = 0) || lessB g.at_ f.at_ | none => true)
  | none => true
/-- Is a schema right? -/
def rightS (l : List FieldD) : Bool := decide (l.length ≤ 16) && okSk l l.length
theorem okSk_zero (l : List FieldD) : okSk l 0 = true := rfl
theorem okSk_first {l : List FieldD} {p : FieldD} (hp : l[0]? = some p) (h : okSk l 0 = true) (h1 : rightF p = true) : okSk l (0 + 1) = true := by
  unfold okSk at *
  rw [List.range_succ, List.all_append, h]
  simp [hp, h1]
theorem okSk_next {l : List FieldD} {k : Nat} {p q : FieldD} (hp : l[k]? = some p) (hq : l[k - 1]? = some q) (h : okSk l k = true) (h1 : rightF p = true) (h2 : lessB q.at_ p.at_ = true) : okSk l (k + 1) = true := by
  unfold okSk at *
  rw [List.range_succ, List.all_append, h]
  simp [hp, hq, h1, h2]
theorem rightS_no {l : List FieldD} {k : Nat} {p : FieldD} (hp : l[k]? = some p) (h : rightF p = false) : rightS l = false := by
  unfold rightS okSk
  rw [Bool.and_eq_false_iff]
  right
  rw [List.all_eq_false]
  exact ⟨k, List.mem_range.2 (lt_len hp), by simp [hp, h]⟩
theorem rightS_un {l : List FieldD} {k : Nat} {p q : FieldD} (hp : l[k]? = some p) (hq : l[k - 1]? = some q) (h0 : ¬ k = 0) (h : lessB q.at_ p.at_ = false) : rightS l = false := by
  unfold rightS okSk
  rw [Bool.and_eq_false_iff]
  right
  rw [List.all_eq_false]
  exact ⟨k, List.mem_range.2 (lt_len hp), by simp [hp, hq, h, h0]⟩
theorem rightS_yes {l : List FieldD} {k : Nat} (h1 : l.length ≤ 16) (hk : l.length ≤ k) (h : okSk l k = true) : rightS l = true := by
  unfold rightS
  rw [decide_eq_true h1, Bool.true_and]
  unfold okSk at *
  rw [List.all_eq_true] at *
  intro j hj
  exact h j (List.mem_range.2 (by have := List.mem_range.1 hj; omega))
theorem rightS_long {l : List FieldD} (h : 16 < l.length) : rightS l = false := by unfold rightS; rw [decide_eq_false (by omega)]; rfl
theorem prev_at {α : Type} {l : List α} {k : Nat} {p : α} (hp : l[k]? = some p) : ∃ q, l[k - 1]? = some q := ⟨_, List.getElem?_eq_getElem (by have := lt_len hp; omega)⟩
theorem map_prev' {α : Type} {f : α → D} {l : List α} {k : Nat} {q : α} (h : l[k - 1]? = some q) (h0 : 0 < k) : (l.map f)[(((k : Nat) : Int) - 1).toNat]? = some (f q) := by
  rw [show (((k : Nat) : Int) - 1).toNat = k - 1 by omega, List.getElem?_map, h]; rfl

theorem rightS_len {l : List FieldD} (h : rightS l = true) : l.length ≤ 16 := by
  unfold rightS at h; simp only [Bool.and_eq_true, decide_eq_true_eq] at h; exact h.1
theorem rightS_at {l : List FieldD} {k : Nat} {p : FieldD} (h : rightS l = true) (hp : l[k]? = some p) : rightF p = true := by
  unfold rightS okSk at h
  simp only [Bool.and_eq_true, decide_eq_true_eq, List.all_eq_true] at h
  have := h.2 k (List.mem_range.2 (lt_len hp))
  rw [hp] at this
  simp only [Bool.and_eq_true] at this
  exact this.1
theorem rightS_adj {l : List FieldD} {k : Nat} {p q : FieldD} (h : rightS l = true) (hp : l[k]? = some p) (hq : l[k + 1]? = some q) : lessB p.at_ q.at_ = true := by
  unfold rightS okSk at h
  simp only [Bool.and_eq_true, decide_eq_true_eq, List.all_eq_true] at h
  have := h.2 (k + 1) (List.mem_range.2 (lt_len hq))
  rw [hq] at this
  simp only [Bool.and_eq_true, Nat.add_sub_cancel, hp, Nat.add_eq_zero_iff, Nat.one_ne_zero, and_false, decide_false, Bool.false_or] at this
  exact this.2
theorem rightS_lt {l : List FieldD} (h : rightS l = true) : ∀ (d i : Nat) {p q : FieldD}, l[i]? = some p → l[i + d + 1]? = some q → lessB p.at_ q.at_ = true
  | 0, i, p, q, hp, hq => rightS_adj h hp hq
  | d + 1, i, p, q, hp, hq => by
    have hlt := lt_len hq
    obtain ⟨r, hr⟩ : ∃ r, l[i + d + 1]? = some r := ⟨_, List.getElem?_eq_getElem (by omega)⟩
    exact lessB_trans (rightS_lt h d i hp hr) (rightS_adj h hr (by rw [show i + d + 1 + 1 = i + (d + 1) + 1 by omega]; exact hq))
/-- No two fields of a right schema stand at one place. -/
theorem rightS_uniq {l : List FieldD} (h : rightS l = true) {i j : Nat} {p q : FieldD} (hp : l[i]? = some p) (hq : l[j]? = some q) (e : p.at_ = q.at_) : i = j := by
  rcases Nat.lt_trichotomy i j with hlt | rfl | hlt
  · have := rightS_lt h (j - i - 1) i hp (by rw [show i + (j - i - 1) + 1 = j by omega]; exact hq)
    rw [e, lessB_irrefl] at this; cases this
  · rfl
  · have := rightS_lt h (i - j - 1) j hq (by rw [show j + (i - j - 1) + 1 = i by omega]; exact hp)
    rw [e, lessB_irrefl] at this; cases this
theorem rightF_cases {f : FieldD} (h : rightF f = true) : f.cases.length ≤ 1000000 := by
  unfold rightF at h
  simp only [Bool.and_eq_true] at h
  have h := h.2
  split at h
  · simp only [Bool.and_eq_true, decide_eq_true_eq] at h; omega
  split at h
  · simp only [Bool.and_eq_true, decide_eq_true_eq] at h; omega
  split at h
  · simp only [Bool.and_eq_true, decide_eq_true_eq, casesB] at h; omega
  split at h
  · simp only [Bool.and_eq_true, decide_eq_true_eq] at h; omega
  · cases h
theorem okL_right {l : List FieldD} (h : rightS l = true) : okL l := by
  refine ⟨by have := rightS_len h; omega, fun f hf => ?_⟩
  obtain ⟨i, hi, rfl⟩ := List.getElem_of_mem hf
  have := rightS_at h (List.getElem?_eq_getElem hi)
  exact rightF_cases this

def indexS (l : List FieldD) (r : RefD) : Int := if (l.findIdx fun f => decide (f.at_ = r)) < l.length then ((l.findIdx fun f => decide (f.at_ = r) : Nat) : Int) else -1
theorem indexS_hit {l : List FieldD} {r : RefD} {k : Nat} {p : FieldD} (hp : l[k]? = some p) (h : ∀ j q, j < k → l[j]? = some q → ¬ q.at_ = r) (hn : p.at_ = r) : indexS l r = (k : Int) := by
  obtain ⟨hlt, hpe⟩ := List.getElem?_eq_some_iff.1 hp
  have e : l.findIdx (fun f => decide (f.at_ = r)) = k := by
    rw [List.findIdx_eq hlt]
    refine ⟨by simp [hpe, hn], fun j hj => ?_⟩
    simp only [decide_eq_false_iff_not]
    exact h j _ hj (List.getElem?_eq_getElem (by omega))
  unfold indexS
  rw [e, if_pos hlt]
theorem indexS_miss {l : List FieldD} {r : RefD} {k : Nat} (hk : l.length ≤ k) (h : ∀ j q, j < k → l[j]? = some q → ¬ q.at_ = r) : indexS l r = -1 := by
  unfold indexS
  rw [if_neg]
  intro hlt
  have h1 := List.findIdx_getElem (w := hlt)
  exact h _ _ (by omega) (List.getElem?_eq_getElem hlt) (of_decide_eq_true h1)
theorem none_next {l : List FieldD} {r : RefD} {k : Nat} {p : FieldD} (hp : l[k]? = some p) (h : ∀ j q, j < k → l[j]? = some q → ¬ q.at_ = r) (hn : ¬ p.at_ = r) : ∀ j q, j < k + 1 → l[j]? = some q → ¬ q.at_ = r := by
  intro j q hj hq
  by_cases e : j = k
  · subst e; rw [hp] at hq; injection hq with hq; subst hq; exact hn
  · exact h j q (by omega) hq
/-- Either a place has a first field, or none. -/
theorem indexS_cases (l : List FieldD) (r : RefD) : (indexS l r = -1 ∧ ∀ (j : Nat) (q : FieldD), l[j]? = some q → ¬ q.at_ = r) ∨ ∃ (k : Nat) (p : FieldD), indexS l r = (k : Int) ∧ l[k]? = some p ∧ p.at_ = r ∧ ∀ (j : Nat) (q : FieldD), j < k → l[j]? = some q → ¬ q.at_ = r := by
  unfold indexS
  by_cases h : (l.findIdx fun f => decide (f.at_ = r)) < l.length
  · right
    rw [if_pos h]
    refine ⟨_, _, rfl, List.getElem?_eq_getElem h, of_decide_eq_true (List.findIdx_getElem (w := h)), fun j q hj hq => ?_⟩
    have := List.not_of_lt_findIdx hj
    obtain ⟨hlt, rfl⟩ := List.getElem?_eq_some_iff.1 hq
    simpa using this
  · left
    rw [if_neg h]
    refine ⟨rfl, fun j q hq e => h ?_⟩
    obtain ⟨hlt, rfl⟩ := List.getElem?_eq_some_iff.1 hq
    exact List.findIdx_lt_length_of_exists ⟨_, List.getElem_mem hlt, by simpa using e⟩

/-- The field of a place. -/
def fieldAt (l : List FieldD) (r : RefD) : FieldD := match l[(indexS l r).toNat]? with
  | some f => f
  | none => noField
def findS (l : List FieldD) (r : RefD) : FieldD × Int := if indexS l r < 0 then (noField, 6) else (fieldAt l r, 0)
def insF (l : List FieldD) (f : FieldD) : List FieldD := (l.takeWhile fun g => lessB g.at_ f.at_) ++ f :: (l.dropWhile fun g => lessB g.at_ f.at_)
def withS (l : List FieldD) (f : FieldD) : List FieldD × Int :=
  if (rightS l && rightF f) = false then ([], 5) else if 0 ≤ indexS l f.at_ then ([], 7) else if 16 ≤ l.length then ([], 14) else (insF l f, 0)
def delF (l : List FieldD) (r : RefD) : List FieldD := l.filter fun f => !decide (f.at_ = r)
def withoutS (l : List FieldD) (r : RefD) : List FieldD × Int := if rightS l = false then ([], 5) else if indexS l r < 0 then ([], 6) else (delF l r, 0)

theorem ins_at {l : List FieldD} {f : FieldD} {k : Nat} (h1 : ∀ j q, j < k → l[j]? = some q → lessB q.at_ f.at_ = true) (h2 : l.length ≤ k ∨ ∃ q, l[k]? = some q ∧ lessB q.at_ f.at_ = false) : insF l f = l.take k ++ f :: l.drop k := by
  have key : ∀ (l : List FieldD) (k : Nat), (∀ j q, j < k → l[j]? = some q → lessB q.at_ f.at_ = true) → (l.length ≤ k ∨ ∃ q, l[k]? = some q ∧ lessB q.at_ f.at_ = false) → (l.takeWhile fun g => lessB g.at_ f.at_) = l.take k ∧ (l.dropWhile fun g => lessB g.at_ f.at_) = l.drop k := by
    intro l
    induction l with
    | nil => intro k _ _; simp
    | cons x l ih =>
      intro k h1 h2
      cases k with
      | zero =>
        rcases h2 with h2 | ⟨q, hq, h2⟩
        · simp at h2
        · simp at hq; subst hq; simp [h2]
      | succ k =>
        have hx := h1 0 x (by omega) rfl
        obtain ⟨e1, e2⟩ := ih k (fun j q hj hq => h1 (j + 1) q (by omega) (by simpa using hq)) (by
          rcases h2 with h2 | ⟨q, hq, h2⟩
          · left; simp at h2; omega
          · right; exact ⟨q, by simpa using hq, h2⟩)
        simp [hx, e1, e2]
  unfold insF
  rw [(key l k h1 h2).1, (key l k h1 h2).2]
end Go.Vm
end
section
namespace Go.Vm
set_option linter.unusedVariables false
set_option linter.unusedSimpArgs false

/-! ### Schemas as sorted lists -/
theorem bl_total : ∀ a b : List UInt8, Op.bytesLess a b = false → a ≠ b → Op.bytesLess b a = true
  | [], [], _, h => absurd rfl h
  | [], _ :: _, h, _ => by simp [Op.bytesLess] at h
  | _ :: _, [], _, _ => rfl
  | x :: a, y :: b, h, hn => by
    simp only [Op.bytesLess, Bool.or_eq_false_iff, decide_eq_false_iff_not, Bool.and_eq_false_iff, beq_eq_false_iff_ne, Bool.or_eq_true, decide_eq_true_eq, Bool.and_eq_true, beq_iff_eq] at h ⊢
    by_cases e : x = y
    · subst e
      right
      refine ⟨rfl, bl_total a b (by rcases h.2 with h | h; exact absurd rfl h; exact h) (fun k => hn (by rw [k]))⟩
    · left
      have h1 := h.1
      have : ¬ x.toNat = y.toNat := fun k => e (UInt8.toNat_inj.1 k)
      rw [UInt8.lt_iff_toNat_lt] at h1 ⊢
      omega
theorem ltB_total {a b : ByteArray} (h : ltB a b = false) (hn : a ≠ b) : ltB b a = true := by
  refine bl_total _ _ h fun k => hn ?_
  exact ByteArray.ext (Array.toList_inj.1 (by rw [← ByteArray.toList_eq, ← ByteArray.toList_eq]; exact k))
theorem lessB_total {a b : RefD} (h : lessB a b = false) (hn : a ≠ b) : lessB b a = true := by
  have h' : ¬ lessB a b = true := by rw [h]; simp
  rw [lessB_iff] at h' ⊢
  by_cases e1 : a.scope = b.scope
  · right
    refine ⟨e1.symm, ?_⟩
    by_cases e2 : a.group = b.group
    · right
      refine ⟨e2.symm, ltB_total ?_ fun k => hn ?_⟩
      · cases hc : ltB a.name b.name with
        | false => rfl
        | true => exact absurd (.inr ⟨e1, .inr ⟨e2, hc⟩⟩) h'
      · obtain ⟨s, g, n⟩ := a; obtain ⟨s', g', n'⟩ := b; simp only at e1 e2 k; rw [e1, e2, k]
    · left
      refine ltB_total ?_ e2
      cases hc : ltB a.group b.group with
      | false => rfl
      | true => exact absurd (.inr ⟨e1, .inl hc⟩) h'
  · left
    have : ¬ a.scope < b.scope := fun k => h' (.inl k)
    omega
theorem rightS_iff {l : List FieldD} : rightS l = true ↔ l.length ≤ 16 ∧ (∀ f ∈ l, rightF f = true) ∧ l.Pairwise fun a b => lessB a.at_ b.at_ = true := by
  constructor
  · intro h
    refine ⟨rightS_len h, fun f hf => ?_, ?_⟩
    · obtain ⟨i, hi, rfl⟩ := List.getElem_of_mem hf
      exact rightS_at h (List.getElem?_eq_getElem hi)
    · rw [List.pairwise_iff_getElem]
      intro i j hi hj hij
      exact rightS_lt h (j - i - 1) i (List.getElem?_eq_getElem hi) (by rw [show i + (j - i - 1) + 1 = j by omega]; exact List.getElem?_eq_getElem hj)
  · rintro ⟨h1, h2, h3⟩
    refine rightS_yes h1 (Nat.le_refl _) ?_
    unfold okSk
    rw [List.all_eq_true]
    intro j hj
    have hj := List.mem_range.1 hj
    rw [List.getElem?_eq_getElem hj, List.getElem?_eq_getElem (show j - 1 < l.length by omega)]
    simp only [Bool.and_eq_true]
    refine ⟨h2 _ (List.getElem_mem hj), ?_⟩
    by_cases e : j = 0
    · simp [e]
    · rw [List.pairwise_iff_getElem] at h3
      rw [h3 (j - 1) j (by omega) hj (by omega), Bool.or_true]
theorem rightS_del {l : List FieldD} (h : rightS l = true) (r : RefD) : rightS (delF l r) = true := by
  rw [rightS_iff] at *
  exact ⟨Nat.le_trans (List.length_filter_le ..) h.1, fun f hf => h.2.1 f (List.mem_filter.1 hf).1, h.2.2.filter _⟩
theorem takeW_all {α : Type} {p : α → Bool} {l : List α} : ∀ x ∈ l.takeWhile p, p x = true := by
  induction l with
  | nil => simp
  | cons a l ih =>
    intro x hx
    rw [List.takeWhile_cons] at hx
    split at hx
    · rcases List.mem_cons.1 hx with rfl | hx
      · assumption
      · exact ih x hx
    · cases hx
theorem dropW_sorted {l : List FieldD} {r : RefD} (h : l.Pairwise fun a b => lessB a.at_ b.at_ = true) (hn : ∀ g ∈ l, g.at_ ≠ r) : ∀ g ∈ l.dropWhile (fun g => lessB g.at_ r), lessB r g.at_ = true := by
  induction l with
  | nil => simp
  | cons a l ih =>
    intro g hg
    rw [List.dropWhile_cons] at hg
    split at hg
    · exact ih (List.pairwise_cons.1 h).2 (fun g hg => hn g (List.mem_cons_of_mem _ hg)) g hg
    · rename_i hf
      have ha : lessB r a.at_ = true := lessB_total (by simpa using hf) (hn a (List.mem_cons_self ..))
      rcases List.mem_cons.1 hg with rfl | hg
      · exact ha
      · exact lessB_trans ha ((List.pairwise_cons.1 h).1 g hg)
theorem mem_insF {l : List FieldD} {f g : FieldD} : g ∈ insF l f ↔ g = f ∨ g ∈ l := by
  have e : l.takeWhile (fun g => lessB g.at_ f.at_) ++ l.dropWhile (fun g => lessB g.at_ f.at_) = l := List.takeWhile_append_dropWhile
  unfold insF
  rw [List.mem_append, List.mem_cons]
  conv => rhs; rw [← e, List.mem_append]
  constructor <;> rintro (h | h | h) <;> simp [h]
theorem length_insF {l : List FieldD} {f : FieldD} : (insF l f).length = l.length + 1 := by
  have e : (l.takeWhile (fun g => lessB g.at_ f.at_) ++ l.dropWhile (fun g => lessB g.at_ f.at_)).length = l.length := by rw [List.takeWhile_append_dropWhile]
  unfold insF
  rw [List.length_append] at e ⊢
  rw [List.length_cons]; omega
theorem rightS_ins {l : List FieldD} {f : FieldD} (h : rightS l = true) (hf : rightF f = true) (hl : l.length < 16) (hn : ∀ g ∈ l, g.at_ ≠ f.at_) : rightS (insF l f) = true := by
  rw [rightS_iff] at *
  obtain ⟨h1, h2, h3⟩ := h
  refine ⟨by rw [length_insF]; omega, fun g hg => ?_, ?_⟩
  · rcases mem_insF.1 hg with rfl | hg
    · exact hf
    · exact h2 g hg
  · have hd := dropW_sorted h3 hn
    have e : l.takeWhile (fun g => lessB g.at_ f.at_) ++ l.dropWhile (fun g => lessB g.at_ f.at_) = l := List.takeWhile_append_dropWhile
    rw [← e] at h3
    obtain ⟨q1, q2, q3⟩ := List.pairwise_append.1 h3
    unfold insF
    refine List.pairwise_append.2 ⟨q1, List.pairwise_cons.2 ⟨hd, q2⟩, fun a ha b hb => ?_⟩
    rcases List.mem_cons.1 hb with rfl | hb
    · exact takeW_all (p := fun g => lessB g.at_ b.at_) a ha
    · exact q3 a ha b hb

/-! ### Looking a place up -/
theorem index_neg {l : List FieldD} {r : RefD} : indexS l r < 0 ↔ ∀ f ∈ l, f.at_ ≠ r := by
  rcases indexS_cases l r with ⟨h, h2⟩ | ⟨k, p, h, hp, e, _⟩
  · refine ⟨fun _ f hf => ?_, fun _ => by omega⟩
    obtain ⟨i, hi, rfl⟩ := List.getElem_of_mem hf
    exact h2 i _ (List.getElem?_eq_getElem hi)
  · exact ⟨fun h' => by omega, fun h' => absurd e (h' p (List.mem_of_getElem? hp))⟩
theorem index_pos {l : List FieldD} {r : RefD} : 0 ≤ indexS l r ↔ ∃ f ∈ l, f.at_ = r := by
  have := @index_neg l r
  constructor
  · intro h
    rcases indexS_cases l r with ⟨h', _⟩ | ⟨k, p, _, hp, e, _⟩
    · omega
    · exact ⟨p, List.mem_of_getElem? hp, e⟩
  · rintro ⟨f, hf, e⟩
    by_cases hn : indexS l r < 0
    · exact absurd e (this.1 hn f hf)
    · omega
theorem fieldAt_spec {l : List FieldD} {r : RefD} (h : ¬ indexS l r < 0) : fieldAt l r ∈ l ∧ (fieldAt l r).at_ = r := by
  rcases indexS_cases l r with ⟨h', _⟩ | ⟨k, p, h', hp, e, _⟩
  · omega
  · unfold fieldAt; rw [h', Int.toNat_natCast, hp]; exact ⟨List.mem_of_getElem? hp, e⟩
theorem fieldAt_uniq {l : List FieldD} (hr : rightS l = true) {f : FieldD} (hf : f ∈ l) : fieldAt l f.at_ = f := by
  have h0 : ¬ indexS l f.at_ < 0 := by rw [index_neg]; intro h; exact h f hf rfl
  obtain ⟨h1, h2⟩ := fieldAt_spec h0
  obtain ⟨i, hi, e1⟩ := List.getElem_of_mem h1
  obtain ⟨j, hj, e2⟩ := List.getElem_of_mem hf
  have := rightS_uniq hr (i := i) (j := j) (p := fieldAt l f.at_) (q := f) (by rw [List.getElem?_eq_getElem hi, e1]) (by rw [List.getElem?_eq_getElem hj, e2]) h2
  subst this
  rw [← e1, e2]
/-- Two right schemas that have the same field at a place, or both none. -/
theorem find_same {l m : List FieldD} {r : RefD} (hl : rightS l = true) (hm : rightS m = true) (h : ∀ f, f.at_ = r → (f ∈ l ↔ f ∈ m)) : findS l r = findS m r := by
  unfold findS
  by_cases h0 : indexS l r < 0
  · have h1 : indexS m r < 0 := by
      rw [index_neg] at *
      intro f hf e
      exact h0 f ((h f e).2 hf) e
    rw [if_pos h0, if_pos h1]
  · obtain ⟨h1, h2⟩ := fieldAt_spec h0
    have h3 := (h _ h2).1 h1
    have h4 := fieldAt_uniq hm h3
    rw [h2] at h4
    have h5 : ¬ indexS m r < 0 := by rw [index_neg]; intro k; exact k _ h3 h2
    rw [if_neg h0, if_neg h5, h4]

/-! ### Lenses -/
def caseT (t : List (ByteArray × ByteArray)) (s : ByteArray) : ByteArray × Bool := match t.find? fun p => decide (p.1 = s) with
  | some p => (p.2, true)
  | none => (noB, false)
def froms (t : List (ByteArray × ByteArray)) : List ByteArray := t.map (·.1)
theorem caseT_some {t : List (ByteArray × ByteArray)} {s : ByteArray} : (caseT t s).2 = decide (s ∈ froms t) := by
  unfold caseT froms
  cases h : t.find? fun p => decide (p.1 = s) with
  | none =>
    rw [List.find?_eq_none] at h
    symm
    simp only [decide_eq_false_iff_not, List.mem_map, not_exists, not_and]
    intro p hp e
    exact h p hp (by simpa using e)
  | some p =>
    have h1 := List.find?_some h
    have h2 := List.mem_of_find?_eq_some h
    symm
    simp only [decide_eq_true_eq] at h1
    rw [decide_eq_true_eq, ← h1]
    exact List.mem_map.2 ⟨p, h2, rfl⟩
def okT (t o : List (ByteArray × ByteArray)) (k : Nat) : Bool := (List.range k).all fun j => match t[j]? with
  | some p => nameB p.1 && !decide (p.1 ∈ froms (t.take j)) && decide (p.2 ∈ froms o)
  | none => true
def rightT (t o : List (ByteArray × ByteArray)) : Bool := decide (1 ≤ t.length) && decide (t.length ≤ 6) && okT t o t.length
theorem okT_zero (t o : List (ByteArray × ByteArray)) : okT t o 0 = true := rfl
theorem okT_next {t o : List (ByteArray × ByteArray)} {k : Nat} {p : ByteArray × ByteArray} (hp : t[k]? = some p) (h : okT t o k = true) (h1 : nameB p.1 = true) (h2 : ¬ p.1 ∈ froms (t.take k)) (h3 : p.2 ∈ froms o) : okT t o (k + 1) = true := by
  unfold okT at *
  rw [List.range_succ, List.all_append, h]
  simp [hp, h1, h2, h3]
theorem rightT_no {t o : List (ByteArray × ByteArray)} {k : Nat} {p : ByteArray × ByteArray} (hp : t[k]? = some p) (h : (nameB p.1 && !decide (p.1 ∈ froms (t.take k)) && decide (p.2 ∈ froms o)) = false) : rightT t o = false := by
  unfold rightT okT
  rw [Bool.and_eq_false_iff]
  right
  rw [List.all_eq_false]
  exact ⟨k, List.mem_range.2 (lt_len hp), by simp only [hp, h]; simp⟩
theorem rightT_yes {t o : List (ByteArray × ByteArray)} {k : Nat} (h1 : 1 ≤ t.length) (h2 : t.length ≤ 6) (hk : t.length ≤ k) (h : okT t o k = true) : rightT t o = true := by
  unfold rightT
  rw [decide_eq_true h1, decide_eq_true h2, Bool.true_and, Bool.true_and]
  unfold okT at *
  rw [List.all_eq_true] at *
  intro j hj
  exact h j (List.mem_range.2 (by have := List.mem_range.1 hj; omega))
theorem rightT_short {t o : List (ByteArray × ByteArray)} (h : t.length < 1) : rightT t o = false := by unfold rightT; rw [decide_eq_false (by omega)]; rfl
theorem rightT_long {t o : List (ByteArray × ByteArray)} (h : 6 < t.length) : rightT t o = false := by unfold rightT; rw [decide_eq_false (show ¬ t.length ≤ 6 by omega), Bool.and_false]; rfl
theorem rightT_name {t o : List (ByteArray × ByteArray)} {s : ByteArray} (h : rightT t o = true) (hs : (caseT t s).2 = true) : nameB s = true := by
  rw [caseT_some, decide_eq_true_eq] at hs
  obtain ⟨p, hp, rfl⟩ := List.mem_map.1 hs
  obtain ⟨i, hi, rfl⟩ := List.getElem_of_mem hp
  unfold rightT okT at h
  simp only [Bool.and_eq_true, List.all_eq_true] at h
  have := h.2 i (List.mem_range.2 hi)
  rw [List.getElem?_eq_getElem hi] at this
  simp only [Bool.and_eq_true] at this
  exact this.1.1
/-- Is a lens right? -/
def rightL (x : LensD) : Bool :=
  if x.kind = 2 ∨ x.kind = 3 then decide (x.at_ = noRef) && decide (x.name = noB) && decide (x.other = noB) && decide (x.factor = 0) && decide (x.forth.length = 0) && decide (x.back.length = 0) && rightF x.field
  else placeB x.at_ && decide (x.field = noField) &&
    (if x.kind = 8 then decide (x.factor = 0) && rightT x.forth x.back && rightT x.back x.forth && decide (caseT x.forth x.name = (x.other, true)) && decide (caseT x.back x.other = (x.name, true))
     else decide (x.forth.length = 0) && decide (x.back.length = 0) &&
      (if x.kind = 6 ∨ x.kind = 9 then nameB x.name && nameB x.other && !decide (x.name = x.other) && decide (2 ≤ x.factor) && decide (x.factor ≤ 1000)
       else decide (x.factor = 0) &&
        (if x.kind = 7 ∨ x.kind = 10 then decide (x.name = noB) && decide (x.other.size ≤ 40)
         else decide (x.other = noB) && (if x.kind = 1 then nameB x.name else if x.kind = 4 then decide (x.name = noB) && !decide (x.at_.group = noB) else if x.kind = 5 then decide (x.at_.group = noB) && nameB x.name else false))))
def named (r : RefD) (s : ByteArray) : RefD := ⟨r.scope, r.group, s⟩
def goesL (x : LensD) : List RefD := if x.kind = 2 then [] else if x.kind = 3 then [x.field.at_] else if x.kind = 9 then [named x.at_ x.name, named x.at_ x.other] else [x.at_]
def comesL (x : LensD) : List RefD := if x.kind = 2 then [x.field.at_] else if x.kind = 3 then [] else if x.kind = 6 then [named x.at_ x.name, named x.at_ x.other] else if x.kind = 1 then [named x.at_ x.name]
  else if x.kind = 4 then [⟨x.at_.scope, noB, x.at_.name⟩] else if x.kind = 5 then [⟨x.at_.scope, x.name, x.at_.name⟩] else [x.at_]
/-- What comes over a right lens from a right schema; none: it doesn't fit. -/
def newsL (l : List FieldD) (x : LensD) : Option (List FieldD) :=
  if x.kind = 2 then some [x.field]
  else if x.kind = 3 then (if fieldAt l x.field.at_ = x.field then some [] else none)
  else if x.kind = 9 then (if (fieldAt l (named x.at_ x.name)).kind = 1 ∧ (fieldAt l (named x.at_ x.other)).kind = 1 ∧ (fieldAt l (named x.at_ x.other)).worth = (fieldAt l (named x.at_ x.name)).worth * x.factor then some [⟨x.at_, 1, noB, [], (fieldAt l (named x.at_ x.name)).worth⟩] else none)
  else if x.kind = 6 then (if (fieldAt l x.at_).kind = 1 then some [⟨named x.at_ x.name, 1, noB, [], (fieldAt l x.at_).worth⟩, ⟨named x.at_ x.other, 1, noB, [], (fieldAt l x.at_).worth * x.factor⟩] else none)
  else if x.kind = 7 then (if (fieldAt l x.at_).kind = 2 ∧ (fieldAt l x.at_).deft = x.other then some [⟨x.at_, 4, noB, [], 0⟩] else none)
  else if x.kind = 10 then (if (fieldAt l x.at_).kind = 4 then some [⟨x.at_, 2, x.other, [], 0⟩] else none)
  else if x.kind = 8 then (if fieldAt l x.at_ = ⟨x.at_, 3, x.name, froms x.forth, 0⟩ then some [⟨x.at_, 3, x.other, froms x.back, 0⟩] else none)
  else some (match comesL x with | [] => [] | c :: _ => [⟨c, (fieldAt l x.at_).kind, (fieldAt l x.at_).deft, (fieldAt l x.at_).cases, (fieldAt l x.at_).worth⟩])
def withAll : List FieldD → List FieldD → List FieldD × Int
  | l, [] => (l, 0)
  | l, f :: fs => if (withS l f).2 = 0 then withAll (withS l f).1 fs else ([], 16)
def delAll (l : List FieldD) (rs : List RefD) : List FieldD := rs.foldl delF l
/-- Where a lens leads. -/
def applyS (l : List FieldD) (x : LensD) : List FieldD × Int :=
  if (rightS l && rightL x) = false then ([], 5)
  else if (goesL x).any (fun g => decide (indexS l g < 0)) then ([], 16)
  else match newsL l x with
    | none => ([], 16)
    | some fs => withAll (delAll l (goesL x)) fs
end Go.Vm
end
section
namespace Go.Vm
set_option linter.unusedVariables false
set_option linter.unusedSimpArgs false

theorem length_delF {l : List FieldD} {r : RefD} (h : l.Pairwise fun a b => lessB a.at_ b.at_ = true) (h0 : ∃ f ∈ l, f.at_ = r) : (delF l r).length + 1 = l.length := by
  induction l with
  | nil => obtain ⟨f, hf, _⟩ := h0; cases hf
  | cons a l ih =>
    obtain ⟨h1, h2⟩ := List.pairwise_cons.1 h
    unfold delF at *
    by_cases e : a.at_ = r
    · have hall : l.filter (fun f => !decide (f.at_ = r)) = l := by
        rw [List.filter_eq_self]
        intro g hg
        have := h1 g hg
        simp only [Bool.not_eq_true', decide_eq_false_iff_not]
        intro e2
        rw [e, e2, lessB_irrefl] at this; cases this
      rw [List.filter_cons_of_neg (by simp [e]), hall, List.length_cons]
    · rw [List.filter_cons_of_pos (by simp [e]), List.length_cons, List.length_cons]
      have := ih h2 (by
        obtain ⟨f, hf, e2⟩ := h0
        rcases List.mem_cons.1 hf with rfl | hf
        · exact absurd e2 e
        · exact ⟨f, hf, e2⟩)
      omega
theorem mem_delF {l : List FieldD} {r : RefD} {f : FieldD} : f ∈ delF l r ↔ f ∈ l ∧ f.at_ ≠ r := by
  unfold delF; rw [List.mem_filter]; simp
theorem mem_delAll {rs : List RefD} : ∀ {l : List FieldD} {f : FieldD}, f ∈ delAll l rs ↔ f ∈ l ∧ f.at_ ∉ rs := by
  induction rs with
  | nil => intro l f; simp [delAll]
  | cons r rs ih =>
    intro l f
    have : delAll l (r :: rs) = delAll (delF l r) rs := rfl
    rw [this, ih, mem_delF, List.mem_cons]
    constructor
    · rintro ⟨⟨h1, h2⟩, h3⟩; exact ⟨h1, fun k => k.elim h2 h3⟩
    · rintro ⟨h1, h2⟩; exact ⟨⟨h1, fun k => h2 (.inl k)⟩, fun k => h2 (.inr k)⟩
theorem rightS_delAll {rs : List RefD} : ∀ {l : List FieldD}, rightS l = true → rightS (delAll l rs) = true := by
  induction rs with
  | nil => intro l h; exact h
  | cons r rs ih => intro l h; exact ih (rightS_del h r)
theorem length_delAll {rs : List RefD} : ∀ {l : List FieldD}, rightS l = true → rs.Nodup → (∀ r ∈ rs, 0 ≤ indexS l r) → (delAll l rs).length + rs.length = l.length := by
  induction rs with
  | nil => intro l _ _ _; rfl
  | cons r rs ih =>
    intro l h hnd hall
    obtain ⟨hr, hnd⟩ := List.nodup_cons.1 hnd
    have h1 := length_delF (rightS_iff.1 h).2.2 (index_pos.1 (hall r (List.mem_cons_self ..)))
    have h2 := ih (rightS_del h r) hnd (fun s hs => by
      obtain ⟨f, hf, e⟩ := index_pos.1 (hall s (List.mem_cons_of_mem _ hs))
      refine index_pos.2 ⟨f, mem_delF.2 ⟨hf, ?_⟩, e⟩
      rintro rfl
      exact hr (e ▸ hs))
    have : delAll l (r :: rs) = delAll (delF l r) rs := rfl
    rw [this, List.length_cons]; omega
theorem withS_ok {l : List FieldD} {f : FieldD} (h : (withS l f).2 = 0) : rightS l = true ∧ rightF f = true ∧ indexS l f.at_ < 0 ∧ l.length < 16 ∧ (withS l f).1 = insF l f := by
  unfold withS at *
  split at h
  · simp at h
  rename_i h1
  split at h
  · simp at h
  rename_i h2
  split at h
  · simp at h
  rename_i h3
  rw [if_neg h1, if_neg h2, if_neg h3]
  simp only [Bool.not_eq_false, Bool.and_eq_true] at h1
  exact ⟨h1.1, h1.2, by omega, by omega, rfl⟩
theorem withAll_ok : ∀ {fs l : List FieldD}, rightS l = true → (withAll l fs).2 = 0 → rightS (withAll l fs).1 = true ∧ (withAll l fs).1.length = l.length + fs.length ∧ ∀ g, g ∈ (withAll l fs).1 ↔ g ∈ fs ∨ g ∈ l
  | [], l, h, _ => ⟨h, rfl, fun g => by simp [withAll]⟩
  | f :: fs, l, h, h0 => by
    unfold withAll at *
    split at h0
    · rename_i hw
      rw [if_pos hw]
      obtain ⟨q1, q2, q3, q4, q5⟩ := withS_ok hw
      rw [q5] at h0 ⊢
      have hr := rightS_ins q1 q2 q4 (index_neg.1 q3)
      obtain ⟨k1, k2, k3⟩ := withAll_ok hr h0
      refine ⟨k1, by rw [k2, length_insF, List.length_cons]; omega, fun g => ?_⟩
      rw [k3, mem_insF, List.mem_cons]
      constructor
      · rintro (h | h | h) <;> simp [h]
      · rintro ((h | h) | h) <;> simp [h]
    · simp at h0
theorem news_comes {l : List FieldD} {x : LensD} {fs : List FieldD} (h : newsL l x = some fs) : fs.map (·.at_) = comesL x := by
  unfold newsL at h
  split at h
  · injection h with h; subst h; simp [comesL, *]
  split at h
  · split at h
    · injection h with h; subst h; simp [comesL, *]
    · cases h
  split at h
  · split at h
    · injection h with h; subst h; simp [comesL, *]
    · cases h
  split at h
  · split at h
    · injection h with h; subst h; simp [comesL, *]
    · cases h
  split at h
  · split at h
    · injection h with h; subst h; simp [comesL, *]
    · cases h
  split at h
  · split at h
    · injection h with h; subst h; simp [comesL, *]
    · cases h
  split at h
  · split at h
    · injection h with h; subst h; simp [comesL, *]
    · cases h
  · injection h with h; subst h
    cases hc : comesL x with
    | nil => rfl
    | cons c cs =>
      have : cs = [] := by
        unfold comesL at hc
        repeat (split at hc; · first | (injection hc with _ hc; exact hc.symm) | (simp_all))
        injection hc with _ hc; exact hc.symm
      subst this; rfl
theorem goes_nodup {x : LensD} (h : rightL x = true) : (goesL x).Nodup := by
  unfold goesL
  split
  · simp
  split
  · simp
  split
  · rename_i h2 h3 h9
    unfold rightL at h
    rw [if_neg (by omega), if_neg (show ¬ x.kind = 8 by omega), if_pos (show x.kind = 6 ∨ x.kind = 9 from .inr h9)] at h
    simp only [Bool.and_eq_true, Bool.not_eq_true', decide_eq_false_iff_not] at h
    have hne := h.2.2.1.1.2
    refine List.nodup_cons.2 ⟨?_, by simp⟩
    simp only [List.mem_singleton, named]
    intro e
    injection e with _ _ e
    exact hne e
  · simp
/-- From a right schema a lens that fits leads to a right one, and what it doesn't touch stays. -/
theorem keeps {l m : List FieldD} {x : LensD} (h : applyS l x = (m, 0)) :
    rightS l = true ∧ rightL x = true ∧ rightS m = true ∧ m.length + (goesL x).length = l.length + (comesL x).length ∧ (∀ c ∈ comesL x, 0 ≤ indexS m c) ∧ ∀ r, r ∉ goesL x → r ∉ comesL x → findS l r = findS m r := by
  unfold applyS at h
  split at h
  · simp at h
  rename_i h1
  split at h
  · simp at h
  rename_i h2
  split at h
  · simp at h
  rename_i fs hfs
  simp only [Bool.not_eq_false, Bool.and_eq_true] at h1
  simp only [Bool.not_eq_true, List.any_eq_false, decide_eq_true_eq] at h2
  obtain ⟨hl, hx⟩ := h1
  have hd := rightS_delAll (rs := goesL x) hl
  have hm0 : (withAll (delAll l (goesL x)) fs).2 = 0 := by rw [h]
  obtain ⟨k1, k2, k3⟩ := withAll_ok hd hm0
  rw [h] at k1 k2 k3
  have hlen := length_delAll hl (goes_nodup hx) (fun r hr => by have := h2 r hr; omega)
  have hc := news_comes hfs
  refine ⟨hl, hx, k1, ?_, fun c hcm => ?_, fun r hg hcm => find_same hl k1 fun f e => ?_⟩
  · rw [← hc, List.length_map]; simp only at k2; omega
  · rw [← hc] at hcm
    obtain ⟨f, hf, rfl⟩ := List.mem_map.1 hcm
    exact index_pos.2 ⟨f, (k3 f).2 (.inl hf), rfl⟩
  · rw [k3, mem_delAll]
    constructor
    · intro hf; exact .inr ⟨hf, by rw [e]; exact hg⟩
    · rintro (hf | ⟨hf, _⟩)
      · exfalso
        apply hcm
        rw [← hc, ← e]
        exact List.mem_map.2 ⟨f, hf, rfl⟩
      · exact hf
theorem apply_err {l : List FieldD} {x : LensD} (h : (applyS l x).2 ≠ 0) : (applyS l x).1 = [] := by
  have key : ∀ fs l, (withAll l fs).2 ≠ 0 → (withAll l fs).1 = [] := by
    intro fs
    induction fs with
    | nil => intro l h; exact absurd rfl h
    | cons f fs ih =>
      intro l h
      unfold withAll at h ⊢
      split
      · rename_i hw; rw [if_pos hw] at h; exact ih _ h
      · rfl
  unfold applyS at *
  split
  · rfl
  split
  · rfl
  split
  · rfl
  rename_i h1 h2 _ fs hfs
  rw [if_neg h1, if_neg h2] at h
  simp only [hfs] at h
  exact key _ _ h
end Go.Vm
end
section
namespace Go.Vm
set_option linter.unusedVariables false
set_option linter.unusedSimpArgs false

/-- A lens that isn't long. -/
def okX (x : LensD) : Prop := x.field.cases.length ≤ 1000000 ∧ x.forth.length ≤ 1000 ∧ x.back.length ≤ 1000
def partsL (x : LensD) : LensD × Bool :=
  if x.kind = 1 ∨ x.kind = 5 then (⟨x.kind, x.at_, x.name, noB, 0, noField, [], []⟩, true)
  else if x.kind = 2 ∨ x.kind = 3 then (⟨x.kind, noRef, noB, noB, 0, x.field, [], []⟩, true)
  else if x.kind = 4 then (⟨x.kind, x.at_, noB, noB, 0, noField, [], []⟩, true)
  else if x.kind = 6 ∨ x.kind = 9 then (⟨x.kind, x.at_, x.name, x.other, x.factor, noField, [], []⟩, true)
  else if x.kind = 7 ∨ x.kind = 10 then (⟨x.kind, x.at_, noB, x.other, 0, noField, [], []⟩, true)
  else if x.kind = 8 then (⟨x.kind, x.at_, x.name, x.other, 0, noField, x.forth, x.back⟩, true)
  else (noLens, false)
def rightTb (x : LensD) : Bool := nameB x.name && rightT x.forth x.back && rightT x.back x.forth && decide (caseT x.forth x.name = (x.other, true)) && decide (caseT x.back x.other = (x.name, true))
def rightLp (x : LensD) : Bool :=
  if (partsL x).2 = false then false else if ¬ x = (partsL x).1 then false
  else if x.kind = 2 ∨ x.kind = 3 then rightF x.field
  else if placeB x.at_ = false then false
  else if x.kind = 1 then nameB x.name
  else if x.kind = 4 then !decide (x.at_.group = noB)
  else if x.kind = 5 then decide (x.at_.group = noB) && nameB x.name
  else if x.kind = 6 ∨ x.kind = 9 then nameB x.name && nameB x.other && !decide (x.name = x.other) && decide (2 ≤ x.factor) && decide (x.factor ≤ 1000)
  else if x.kind = 7 ∨ x.kind = 10 then decide (x.other.size ≤ 40)
  else rightTb x
def rightLq (b2 b1 : Bool) (x : LensD) : Bool :=
  if b2 = false then false else if b1 = false then false
  else if x.kind = 2 ∨ x.kind = 3 then rightF x.field
  else if placeB x.at_ = false then false
  else if x.kind = 1 then nameB x.name
  else if x.kind = 4 then !decide (x.at_.group = noB)
  else if x.kind = 5 then decide (x.at_.group = noB) && nameB x.name
  else if x.kind = 6 ∨ x.kind = 9 then nameB x.name && nameB x.other && !decide (x.name = x.other) && decide (2 ≤ x.factor) && decide (x.factor ≤ 1000)
  else if x.kind = 7 ∨ x.kind = 10 then decide (x.other.size ≤ 40)
  else rightTb x
theorem rightLp_q (x : LensD) : rightLp x = rightLq (partsL x).2 (decide (x = (partsL x).1)) x := by
  unfold rightLp rightLq
  by_cases h : x = (partsL x).1
  · rw [if_neg (not_not_intro h), decide_eq_true h, if_neg (show ¬ (true = false) by simp)]
  · rw [if_pos h, decide_eq_false h, if_pos (show false = false from rfl)]
theorem rightTb_eq (x : LensD) : rightTb x = (rightT x.forth x.back && rightT x.back x.forth && decide (caseT x.forth x.name = (x.other, true)) && decide (caseT x.back x.other = (x.name, true))) := by
  unfold rightTb
  by_cases h : rightT x.forth x.back = true
  · by_cases h2 : caseT x.forth x.name = (x.other, true)
    · rw [rightT_name h (by rw [h2])]; rfl
    · simp [h2]
  · simp [h]
theorem rightLp_eq (x : LensD) : rightLp x = rightL x := by
  have hp := rightTb_eq x
  obtain ⟨k, ⟨s, g, n⟩, nm, ot, fa, f, fo, ba⟩ := x
  unfold rightLp rightL partsL
  simp only at *
  rw [hp]
  by_cases h2 : k = 2
  · subst h2; simp [noRef]; by_cases hh : rightF f = true <;> simp [hh] <;> grind
  by_cases h3 : k = 3
  · subst h3; simp [noRef]; by_cases hh : rightF f = true <;> simp [hh] <;> grind
  by_cases h1 : k = 1
  · subst h1; simp [noRef]; grind
  by_cases h4 : k = 4
  · subst h4; simp [noRef]; grind
  by_cases h5 : k = 5
  · subst h5; simp [noRef]; grind
  by_cases h6 : k = 6
  · subst h6; simp [noRef]; grind
  by_cases h9 : k = 9
  · subst h9; simp [noRef]; grind
  by_cases h7 : k = 7
  · subst h7; simp [noRef]; grind
  by_cases h10 : k = 10
  · subst h10; simp [noRef]; grind
  by_cases h8 : k = 8
  · subst h8; simp [noRef]; grind
  · simp [h1, h2, h3, h4, h5, h6, h7, h8, h9, h10]

/-! ### Where a lens leads, as the program goes -/
def comeL (x : LensD) : RefD := match comesL x with
  | [] => noRef
  | c :: _ => c
def mergedS (l : List FieldD) (x : LensD) : List FieldD × Bool :=
  if ¬ (findS l (named x.at_ x.name)).2 = 0 ∨ ¬ (findS l (named x.at_ x.name)).1.kind = 1 then ([], false)
  else if ¬ (findS l (named x.at_ x.other)).2 = 0 ∨ ¬ (findS l (named x.at_ x.other)).1.kind = 1 ∨ ¬ (findS l (named x.at_ x.other)).1.worth = (findS l (named x.at_ x.name)).1.worth * x.factor then ([], false)
  else ([⟨x.at_, 1, noB, [], (findS l (named x.at_ x.name)).1.worth⟩], true)
def arrS (l : List FieldD) (x : LensD) : List FieldD × Bool :=
  if x.kind = 2 then ([x.field], true)
  else if x.kind = 3 then ([], decide ((findS l x.field.at_).2 = 0) && decide ((findS l x.field.at_).1 = x.field))
  else if x.kind = 9 then mergedS l x
  else if ¬ (findS l x.at_).2 = 0 then ([], false)
  else if x.kind = 6 then ([⟨named x.at_ x.name, 1, noB, [], (findS l x.at_).1.worth⟩, ⟨named x.at_ x.other, 1, noB, [], (findS l x.at_).1.worth * x.factor⟩], decide ((findS l x.at_).1.kind = 1))
  else if x.kind = 7 then ([⟨x.at_, 4, noB, [], 0⟩], decide ((findS l x.at_).1.kind = 2) && decide ((findS l x.at_).1.deft = x.other))
  else if x.kind = 10 then ([⟨x.at_, 2, x.other, [], 0⟩], decide ((findS l x.at_).1.kind = 4))
  else if x.kind = 8 then ([⟨x.at_, 3, x.other, froms x.back, 0⟩], decide ((findS l x.at_).1 = ⟨x.at_, 3, x.name, froms x.forth, 0⟩))
  else ([⟨comeL x, (findS l x.at_).1.kind, (findS l x.at_).1.deft, (findS l x.at_).1.cases, (findS l x.at_).1.worth⟩], true)
def delLoop : List FieldD → List RefD → List FieldD × Int
  | l, [] => (l, 0)
  | l, r :: rs => if (withoutS l r).2 = 0 then delLoop (withoutS l r).1 rs else ([], 16)
def applyP (l : List FieldD) (x : LensD) : List FieldD × Int :=
  if (rightS l && rightL x) = false then ([], 5)
  else if (arrS l x).2 = false then ([], 16)
  else if ¬ (delLoop l (goesL x)).2 = 0 then ([], 16)
  else withAll (delLoop l (goesL x)).1 (arrS l x).1
theorem without_ok {l : List FieldD} {r : RefD} (h : rightS l = true) (h0 : ¬ indexS l r < 0) : withoutS l r = (delF l r, 0) := by
  unfold withoutS; rw [h, if_neg (by simp), if_neg h0]
theorem delLoop_ok {rs : List RefD} : ∀ {l : List FieldD}, rightS l = true → rs.Nodup → (∀ r ∈ rs, ¬ indexS l r < 0) → delLoop l rs = (delAll l rs, 0) := by
  induction rs with
  | nil => intro l _ _ _; rfl
  | cons r rs ih =>
    intro l h hnd hall
    obtain ⟨hr, hnd⟩ := List.nodup_cons.1 hnd
    have e := without_ok h (hall r (List.mem_cons_self ..))
    unfold delLoop
    rw [e, if_pos rfl]
    refine ih (rightS_del h r) hnd (fun s hs => ?_)
    have h1 := hall s (List.mem_cons_of_mem _ hs)
    have h2 : 0 ≤ indexS l s := by omega
    obtain ⟨f, hf, e2⟩ := index_pos.1 h2
    have : 0 ≤ indexS (delF l r) s := index_pos.2 ⟨f, mem_delF.2 ⟨hf, by rw [e2]; rintro rfl; exact hr hs⟩, e2⟩
    show ¬ indexS (delF l r) s < 0
    omega
theorem find_neg {l : List FieldD} {r : RefD} (h : indexS l r < 0) : findS l r = (noField, 6) := by unfold findS; rw [if_pos h]
theorem find_pos {l : List FieldD} {r : RefD} (h : ¬ indexS l r < 0) : findS l r = (fieldAt l r, 0) := by unfold findS; rw [if_neg h]
theorem find_nn {l : List FieldD} {r : RefD} (h : 0 ≤ indexS l r) : findS l r = (fieldAt l r, 0) := find_pos (by omega)
theorem arr_missing {l : List FieldD} {x : LensD} (h : (goesL x).any (fun g => decide (indexS l g < 0)) = true) : (arrS l x).2 = false := by
  unfold goesL at h
  unfold arrS mergedS
  by_cases h2 : x.kind = 2
  · simp [h2] at h
  by_cases h3 : x.kind = 3
  · simp [h3] at h; simp [h3, find_neg h]
  by_cases h9 : x.kind = 9
  · simp [h9] at h
    simp only [h2, h3, h9, if_true, if_false]
    rcases h with h | h
    · simp [find_neg h]
    · by_cases h' : indexS l (named x.at_ x.name) < 0
      · simp [find_neg h']
      · by_cases hk : (fieldAt l (named x.at_ x.name)).kind = 1 <;> simp [find_neg h, find_pos h', hk]
  · simp [h2, h3, h9] at h; simp [h2, h3, h9, find_neg h]
theorem arr_news {l : List FieldD} {x : LensD} (h : ∀ g ∈ goesL x, ¬ indexS l g < 0) : match newsL l x with
    | none => (arrS l x).2 = false
    | some fs => arrS l x = (fs, true) := by
  unfold goesL at h
  unfold newsL arrS mergedS comeL
  by_cases h2 : x.kind = 2
  · simp [h2]
  by_cases h3 : x.kind = 3
  · simp [h3] at h; simp only [h2, h3, if_true, if_false, find_nn h]; by_cases e : fieldAt l x.field.at_ = x.field <;> simp [e]
  by_cases h9 : x.kind = 9
  · simp [h9] at h
    simp only [h2, h3, h9, if_true, if_false, find_nn h.1, find_nn h.2]
    by_cases e1 : (fieldAt l (named x.at_ x.name)).kind = 1 <;> by_cases e2 : (fieldAt l (named x.at_ x.other)).kind = 1 <;> by_cases e3 : (fieldAt l (named x.at_ x.other)).worth = (fieldAt l (named x.at_ x.name)).worth * x.factor <;> simp [e1, e2, e3]
  simp [h2, h3, h9] at h
  simp only [h2, h3, h9, if_false, find_nn h]
  by_cases h6 : x.kind = 6
  · by_cases e : (fieldAt l x.at_).kind = 1 <;> simp [h6, e]
  by_cases h7 : x.kind = 7
  · by_cases e : (fieldAt l x.at_).kind = 2 <;> by_cases e2 : (fieldAt l x.at_).deft = x.other <;> simp [h7, e, e2]
  by_cases h10 : x.kind = 10
  · by_cases e : (fieldAt l x.at_).kind = 4 <;> simp [h10, e]
  by_cases h8 : x.kind = 8
  · by_cases e : fieldAt l x.at_ = ⟨x.at_, 3, x.name, froms x.forth, 0⟩ <;> simp [h8, e]
  · simp only [h6, h7, h10, h8, if_false]
    have : comesL x ≠ [] := by unfold comesL; simp only [h2, h3, h6, if_false]; (repeat' split) <;> simp
    cases hc : comesL x with
    | nil => exact absurd hc this
    | cons c cs => simp
theorem applyP_eq (l : List FieldD) (x : LensD) : applyP l x = applyS l x := by
  unfold applyP applyS
  by_cases h : (rightS l && rightL x) = false
  · rw [if_pos h, if_pos h]
  rw [if_neg h, if_neg h]
  obtain ⟨hl, hx⟩ : rightS l = true ∧ rightL x = true := by simpa using h
  by_cases hg : (goesL x).any (fun g => decide (indexS l g < 0)) = true
  · rw [if_pos hg, if_pos (arr_missing hg)]
  · rw [if_neg hg]
    have hall : ∀ g ∈ goesL x, ¬ indexS l g < 0 := by simpa using hg
    rw [delLoop_ok hl (goes_nodup hx) hall]
    have h4 := arr_news hall
    cases hn : newsL l x with
    | none => rw [hn] at h4; rw [if_pos h4]
    | some fs => rw [hn] at h4; simp only at h4; rw [h4]; simp

/-! ### Where a lens leads, as the reference goes -/
def putS (l : List FieldD) (f : FieldD) (ok : Bool) : List FieldD × Bool := ((withS l f).1, ok && decide ((withS l f).2 = 0))
def refA (rest : List FieldD) (w v : FieldD) (x : LensD) : List FieldD × Bool :=
  if x.kind = 2 then putS rest x.field true
  else if x.kind = 3 then (rest, decide (w = x.field))
  else if x.kind = 6 then putS (putS rest ⟨named x.at_ x.name, 1, noB, [], w.worth⟩ (decide (w.kind = 1) && decide (w.worth * x.factor < 1048577))).1 ⟨named x.at_ x.other, 1, noB, [], w.worth * x.factor⟩ (putS rest ⟨named x.at_ x.name, 1, noB, [], w.worth⟩ (decide (w.kind = 1) && decide (w.worth * x.factor < 1048577))).2
  else if x.kind = 7 then putS rest ⟨x.at_, 4, noB, [], 0⟩ (decide (w.kind = 2) && decide (w.deft = x.other))
  else if x.kind = 8 then putS rest ⟨x.at_, 3, x.other, froms x.back, 0⟩ (decide (w.kind = 3) && decide (w.deft = x.name) && decide (w.cases = froms x.forth))
  else if x.kind = 9 then putS rest ⟨x.at_, 1, noB, [], w.worth⟩ (decide (w.kind = 1) && decide (v.kind = 1) && decide (v.worth = w.worth * x.factor))
  else if x.kind = 10 then putS rest ⟨x.at_, 2, x.other, [], 0⟩ (decide (w.kind = 4))
  else putS rest ⟨comeL x, w.kind, w.deft, w.cases, w.worth⟩ true
/-- The fields that go. -/
def wasL (l : List FieldD) (x : LensD) : List FieldD := (goesL x).map (fieldAt l)
def at0 (l : List FieldD) : FieldD := l.headD noField
def at1 (l : List FieldD) : FieldD := l.tail.headD noField
def applyR (l : List FieldD) (x : LensD) : List FieldD × Int :=
  if (rightS l && rightL x) = false then ([], 5)
  else if (goesL x).any (fun g => decide (indexS l g < 0)) then ([], 16)
  else if (refA (delAll l (goesL x)) (at0 (wasL l x)) (at1 (wasL l x)) x).2 = false then ([], 16)
  else ((refA (delAll l (goesL x)) (at0 (wasL l x)) (at1 (wasL l x)) x).1, 0)
theorem withAll_one {l : List FieldD} {f : FieldD} : withAll l [f] = if (withS l f).2 = 0 then ((withS l f).1, 0) else ([], 16) := by
  unfold withAll withAll; rfl
theorem put_one {l : List FieldD} {f : FieldD} {ok : Bool} : (if (putS l f ok).2 = false then (([] : List FieldD), (16 : Int)) else ((putS l f ok).1, 0)) = if ok = true then withAll l [f] else ([], 16) := by
  rw [withAll_one]
  unfold putS
  by_cases h : (withS l f).2 = 0 <;> cases ok <;> simp [h]
theorem with_big {l : List FieldD} {f : FieldD} (h : rightF f = false) : ¬ (withS l f).2 = 0 := by unfold withS; rw [h, Bool.and_false, if_pos rfl]; simp
theorem rightF_worth {f : FieldD} (h : rightF f = true) : 0 ≤ f.worth ∧ f.worth ≤ 1048576 := by
  unfold rightF at h
  simp only [Bool.and_eq_true] at h
  have h := h.2
  split at h
  · simp only [Bool.and_eq_true, decide_eq_true_eq] at h; omega
  split at h
  · simp only [Bool.and_eq_true, decide_eq_true_eq] at h; omega
  split at h
  · simp only [Bool.and_eq_true, decide_eq_true_eq] at h; omega
  split at h
  · simp only [Bool.and_eq_true, decide_eq_true_eq] at h; omega
  · cases h
theorem rightF_enum {f : FieldD} (h : rightF f = true) (hk : f.kind = 3) : f.worth = 0 := by
  unfold rightF at h
  rw [hk] at h
  simp only [Bool.and_eq_true, decide_eq_true_eq] at h
  simp at h
  exact h.2.2
theorem worth_big {r : RefD} {n : Int} (h : ¬ n < 1048577) : rightF ⟨r, 1, noB, [], n⟩ = false := by
  cases hc : rightF ⟨r, 1, noB, [], n⟩ with
  | false => rfl
  | true => have := rightF_worth hc; simp only at this; omega
theorem rightS_mem {l : List FieldD} {f : FieldD} (h : rightS l = true) (hf : f ∈ l) : rightF f = true := (rightS_iff.1 h).2.1 f hf
theorem applyR_eq (l : List FieldD) (x : LensD) : applyR l x = applyS l x := by
  unfold applyR applyS
  by_cases h : (rightS l && rightL x) = false
  · rw [if_pos h, if_pos h]
  rw [if_neg h, if_neg h]
  obtain ⟨hl, hx⟩ : rightS l = true ∧ rightL x = true := by simpa using h
  by_cases hg : (goesL x).any (fun g => decide (indexS l g < 0)) = true
  · rw [if_pos hg, if_pos hg]
  rw [if_neg hg, if_neg hg]
  have hall : ∀ g ∈ goesL x, ¬ indexS l g < 0 := by simpa using hg
  generalize hR : delAll l (goesL x) = R
  unfold refA newsL wasL
  by_cases h2 : x.kind = 2
  · simp only [h2, if_true]; rw [put_one]; simp
  simp only [h2, if_false]
  by_cases h3 : x.kind = 3
  · simp only [h3, if_true, goesL, List.map_cons, List.map_nil, at0, List.headD_cons]
    by_cases e : fieldAt l x.field.at_ = x.field <;> simp [e, withAll]
  simp only [h3, if_false]
  by_cases h9 : x.kind = 9
  · simp only [h9, if_true, show ¬ (9 : Int) = 6 by omega, show ¬ (9 : Int) = 7 by omega, show ¬ (9 : Int) = 8 by omega, show ¬ (9 : Int) = 2 by omega, show ¬ (9 : Int) = 3 by omega, if_false, goesL, List.map_cons, List.map_nil, at0, at1, List.headD_cons, List.tail_cons]
    rw [put_one]
    by_cases e1 : (fieldAt l (named x.at_ x.name)).kind = 1 <;> by_cases e2 : (fieldAt l (named x.at_ x.other)).kind = 1 <;> by_cases e3 : (fieldAt l (named x.at_ x.other)).worth = (fieldAt l (named x.at_ x.name)).worth * x.factor <;> simp [e1, e2, e3]
  simp only [h9, if_false, goesL, h2, h3, List.map_cons, List.map_nil, at0, List.headD_cons]
  have hat := hall x.at_ (by simp [goesL, h2, h3, h9])
  obtain ⟨hm, he⟩ := fieldAt_spec hat
  have hrf := rightS_mem hl hm
  by_cases h6 : x.kind = 6
  · simp only [h6, if_true]
    by_cases e : (fieldAt l x.at_).kind = 1
    · by_cases e2 : (fieldAt l x.at_).worth * x.factor < 1048577
      · simp only [e, e2, decide_true, Bool.and_true, if_true]
        unfold withAll
        rw [withAll_one]
        unfold putS
        by_cases q : (withS R ⟨named x.at_ x.name, 1, noB, [], (fieldAt l x.at_).worth⟩).2 = 0
        · by_cases q2 : (withS (withS R ⟨named x.at_ x.name, 1, noB, [], (fieldAt l x.at_).worth⟩).1 ⟨named x.at_ x.other, 1, noB, [], (fieldAt l x.at_).worth * x.factor⟩).2 = 0 <;> simp [q, q2]
        · simp [q]
      · simp only [e, e2, decide_true, decide_false, Bool.and_false, if_true]
        unfold withAll
        rw [withAll_one]
        unfold putS
        have q2 := with_big (l := (withS R ⟨named x.at_ x.name, 1, noB, [], (fieldAt l x.at_).worth⟩).1) (worth_big (r := named x.at_ x.other) e2)
        simp [q2]
    · simp only [e, decide_false, Bool.false_and, if_false]
      unfold putS; simp
  simp only [h6, if_false]
  by_cases h7 : x.kind = 7
  · simp only [h7, if_true]; rw [put_one]
    by_cases e : (fieldAt l x.at_).kind = 2 <;> by_cases e2 : (fieldAt l x.at_).deft = x.other <;> simp [e, e2]
  simp only [h7, if_false]
  by_cases h8 : x.kind = 8
  · simp only [h8, if_true, show ¬ (8 : Int) = 10 by omega, if_false]; rw [put_one]
    have key : (fieldAt l x.at_ = ⟨x.at_, 3, x.name, froms x.forth, 0⟩) ↔ ((decide ((fieldAt l x.at_).kind = 3) && decide ((fieldAt l x.at_).deft = x.name) && decide ((fieldAt l x.at_).cases = froms x.forth)) = true) := by
      constructor
      · intro k; rw [k]; simp
      · intro k
        simp only [Bool.and_eq_true, decide_eq_true_eq] at k
        have hw := rightF_enum hrf k.1.1
        generalize fieldAt l x.at_ = F at he k hw ⊢
        obtain ⟨a, b, c, d, e⟩ := F
        simp only at he k hw
        rw [he, k.1.1, k.1.2, k.2, hw]
    by_cases e : fieldAt l x.at_ = ⟨x.at_, 3, x.name, froms x.forth, 0⟩
    · rw [if_pos (key.1 e), if_pos e]
    · rw [if_neg (fun k => e (key.2 k)), if_neg e]
  simp only [h8, if_false]
  by_cases h10 : x.kind = 10
  · simp only [h10, if_true]; rw [put_one]
    by_cases e : (fieldAt l x.at_).kind = 4 <;> simp [e]
  · simp only [h10, if_false]; rw [put_one, if_pos rfl]
    have : comesL x ≠ [] := by unfold comesL; simp only [h2, h3, h6, if_false]; (repeat' split) <;> simp
    unfold comeL
    cases hc : comesL x with
    | nil => exact absurd hc this
    | cons c cs => rfl
end Go.Vm
end
section
namespace Go.Vm
set_option linter.unusedVariables false
set_option linter.unusedSimpArgs false

-- what is put
def textsP (f : Int) (l : List ByteArray) : List UInt8 := l.flatMap (textP f)
def fieldP (f : Int) (x : FieldD) : List UInt8 := refP f x.at_ ++ (putN f x.kind ++ (textP f x.deft ++ (putN f (x.cases.length : Nat) ++ (textsP f x.cases ++ putN f x.worth))))
def pairP (f : Int) (p : ByteArray × ByteArray) : List UInt8 := textP f p.1 ++ textP f p.2
def pairsB (f : Int) (l : List (ByteArray × ByteArray)) : List UInt8 := l.flatMap (pairP f)
def pairsP (f : Int) (l : List (ByteArray × ByteArray)) : List UInt8 := putN f (l.length : Nat) ++ pairsB f l
def lensP (f : Int) (x : LensD) : List UInt8 := putN f x.kind ++ (refP f x.at_ ++ (textP f x.name ++ (textP f x.other ++ (putN f x.factor ++ (pairsP f x.forth ++ (pairsP f x.back ++ (if x.kind = 2 ∨ x.kind = 3 then fieldP f x.field else [])))))))

-- what a reader reads
def textsR (b : List UInt8) (f : Int) : Nat → St → List ByteArray × St
  | 0, s => ([], s)
  | n + 1, s => ((textsR b f n s).1 ++ [strL (textR b f 12 (textsR b f n s).2).1], (textR b f 12 (textsR b f n s).2).2)
def pairL (b : List UInt8) (f : Int) : Nat → St → List (ByteArray × ByteArray) × St
  | 0, s => ([], s)
  | n + 1, s => ((pairL b f n s).1 ++ [(strL (textR b f 12 (pairL b f n s).2).1, strL (textR b f 12 (textR b f 12 (pairL b f n s).2).2).1)], (textR b f 12 (textR b f 12 (pairL b f n s).2).2).2)
def pairsR (b : List UInt8) (f : Int) (s : St) : List (ByteArray × ByteArray) × St := pairL b f (countR b f 6 s).1.toNat (countR b f 6 s).2
-- the states of a field's reader, one behind the other
def fs1 (b : List UInt8) (f : Int) (s : St) : St := (refR b f s).2
def fs2 (b : List UInt8) (f : Int) (s : St) : St := (numR b f (fs1 b f s)).2
def fs3 (b : List UInt8) (f : Int) (s : St) : St := (textR b f 40 (fs2 b f s)).2
def fs4 (b : List UInt8) (f : Int) (s : St) : St := (countR b f 6 (fs3 b f s)).2
def fsn (b : List UInt8) (f : Int) (s : St) : Nat := (countR b f 6 (fs3 b f s)).1.toNat
def fs5 (b : List UInt8) (f : Int) (s : St) : St := (textsR b f (fsn b f s) (fs4 b f s)).2
def fs6 (b : List UInt8) (f : Int) (s : St) : St := (numR b f (fs5 b f s)).2
def fieldV (b : List UInt8) (f : Int) (s : St) : FieldD := ⟨(refR b f s).1, (numR b f (fs1 b f s)).1, strL (textR b f 40 (fs2 b f s)).1, (textsR b f (fsn b f s) (fs4 b f s)).1, (numR b f (fs5 b f s)).1⟩
def fieldR (b : List UInt8) (f : Int) (s : St) : FieldD × St := if badR f (fs6 b f s) = true ∨ rightF (fieldV b f s) = false then (noField, ((fs6 b f s).1, true)) else (fieldV b f s, fs6 b f s)
-- and of a lens's
def ls1 (b : List UInt8) (f : Int) (s : St) : St := (numR b f s).2
def ls2 (b : List UInt8) (f : Int) (s : St) : St := (refR b f (ls1 b f s)).2
def ls3 (b : List UInt8) (f : Int) (s : St) : St := (textR b f 12 (ls2 b f s)).2
def ls4 (b : List UInt8) (f : Int) (s : St) : St := (textR b f 40 (ls3 b f s)).2
def ls5 (b : List UInt8) (f : Int) (s : St) : St := (numR b f (ls4 b f s)).2
def ls6 (b : List UInt8) (f : Int) (s : St) : St := (pairsR b f (ls5 b f s)).2
def ls7 (b : List UInt8) (f : Int) (s : St) : St := (pairsR b f (ls6 b f s)).2
def lsk (b : List UInt8) (f : Int) (s : St) : Int := (numR b f s).1
def ls8 (b : List UInt8) (f : Int) (s : St) : St := if lsk b f s = 2 ∨ lsk b f s = 3 then (fieldR b f (ls7 b f s)).2 else ls7 b f s
def lsf (b : List UInt8) (f : Int) (s : St) : FieldD := if lsk b f s = 2 ∨ lsk b f s = 3 then (fieldR b f (ls7 b f s)).1 else noField
def lensV (b : List UInt8) (f : Int) (s : St) : LensD := ⟨lsk b f s, (refR b f (ls1 b f s)).1, strL (textR b f 12 (ls2 b f s)).1, strL (textR b f 40 (ls3 b f s)).1, (numR b f (ls4 b f s)).1, lsf b f s, (pairsR b f (ls5 b f s)).1, (pairsR b f (ls6 b f s)).1⟩
def lensR (b : List UInt8) (f : Int) (s : St) : LensD × St := if badR f (ls8 b f s) = true then (noLens, ls8 b f s) else if rightL (lensV b f s) = false then (noLens, ((ls8 b f s).1, true)) else (lensV b f s, ls8 b f s)

section
variable {b : List UInt8} {f most : Int} {s : St}
theorem textsR_inv (hs : s.1 ≤ b.length) : ∀ n, (textsR b f n s).2.1 ≤ b.length
  | 0 => hs
  | n + 1 => textR_inv (textsR_inv hs n)
theorem pairL_inv (hs : s.1 ≤ b.length) : ∀ n, (pairL b f n s).2.1 ≤ b.length
  | 0 => hs
  | n + 1 => textR_inv (textR_inv (pairL_inv hs n))
theorem textsR_len : ∀ n, (textsR b f n s).1.length = n
  | 0 => rfl
  | n + 1 => by rw [textsR, List.length_append, textsR_len n]; rfl
theorem pairL_len : ∀ n, (pairL b f n s).1.length = n
  | 0 => rfl
  | n + 1 => by rw [pairL, List.length_append, pairL_len n]; rfl
theorem pairsR_inv (hs : s.1 ≤ b.length) : (pairsR b f s).2.1 ≤ b.length := pairL_inv (countR_inv hs) _
theorem pairsR_len : (pairsR b f s).1.length ≤ 6 := by
  unfold pairsR
  rw [pairL_len]
  have := countR_le (b := b) (f := f) (most := 6) (s := s) (by decide)
  omega
theorem fs1_inv (hs : s.1 ≤ b.length) : (fs1 b f s).1 ≤ b.length := refR_inv hs
theorem fs2_inv (hs : s.1 ≤ b.length) : (fs2 b f s).1 ≤ b.length := numR_inv (fs1_inv hs)
theorem fs3_inv (hs : s.1 ≤ b.length) : (fs3 b f s).1 ≤ b.length := textR_inv (fs2_inv hs)
theorem fs4_inv (hs : s.1 ≤ b.length) : (fs4 b f s).1 ≤ b.length := countR_inv (fs3_inv hs)
theorem fs5_inv (hs : s.1 ≤ b.length) : (fs5 b f s).1 ≤ b.length := textsR_inv (fs4_inv hs) _
theorem fs6_inv (hs : s.1 ≤ b.length) : (fs6 b f s).1 ≤ b.length := numR_inv (fs5_inv hs)
theorem fsn_le : fsn b f s ≤ 6 := by
  unfold fsn
  have := countR_le (b := b) (f := f) (most := 6) (s := fs3 b f s) (by decide)
  omega
theorem fieldV_len : (fieldV b f s).cases.length ≤ 6 := by
  show (textsR b f (fsn b f s) (fs4 b f s)).1.length ≤ 6
  rw [textsR_len]; exact fsn_le
theorem fieldR_inv (hs : s.1 ≤ b.length) : (fieldR b f s).2.1 ≤ b.length := by unfold fieldR; split <;> exact fs6_inv hs
theorem fieldR_len : (fieldR b f s).1.cases.length ≤ 6 := by
  unfold fieldR
  split
  · show (0 : Nat) ≤ 6; decide
  · exact fieldV_len
theorem ls1_inv (hs : s.1 ≤ b.length) : (ls1 b f s).1 ≤ b.length := numR_inv hs
theorem ls2_inv (hs : s.1 ≤ b.length) : (ls2 b f s).1 ≤ b.length := refR_inv (ls1_inv hs)
theorem ls3_inv (hs : s.1 ≤ b.length) : (ls3 b f s).1 ≤ b.length := textR_inv (ls2_inv hs)
theorem ls4_inv (hs : s.1 ≤ b.length) : (ls4 b f s).1 ≤ b.length := textR_inv (ls3_inv hs)
theorem ls5_inv (hs : s.1 ≤ b.length) : (ls5 b f s).1 ≤ b.length := numR_inv (ls4_inv hs)
theorem ls6_inv (hs : s.1 ≤ b.length) : (ls6 b f s).1 ≤ b.length := pairsR_inv (ls5_inv hs)
theorem ls7_inv (hs : s.1 ≤ b.length) : (ls7 b f s).1 ≤ b.length := pairsR_inv (ls6_inv hs)
theorem ls8_inv (hs : s.1 ≤ b.length) : (ls8 b f s).1 ≤ b.length := by
  unfold ls8
  split
  · exact fieldR_inv (ls7_inv hs)
  · exact ls7_inv hs
theorem lsf_len : (lsf b f s).cases.length ≤ 6 := by
  unfold lsf
  split
  · exact fieldR_len
  · show (0 : Nat) ≤ 6; decide
theorem lensV_ok : okX (lensV b f s) := by
  refine ⟨?_, ?_, ?_⟩
  · have := lsf_len (b := b) (f := f) (s := s); show (lsf b f s).cases.length ≤ 1000000; omega
  · have := pairsR_len (b := b) (f := f) (s := ls5 b f s); show (pairsR b f (ls5 b f s)).1.length ≤ 1000; omega
  · have := pairsR_len (b := b) (f := f) (s := ls6 b f s); show (pairsR b f (ls6 b f s)).1.length ≤ 1000; omega
theorem lensR_inv (hs : s.1 ≤ b.length) : (lensR b f s).2.1 ≤ b.length := by unfold lensR; split; exact ls8_inv hs; split <;> exact ls8_inv hs

-- what the document reads
def textsO (b : List UInt8) (f : Int) : Nat → Nat → Option (List ByteArray × Nat)
  | 0, a => some ([], a)
  | n + 1, a => match textsO b f n a with
    | none => none
    | some r => match textO b r.2 f 12 with
      | none => none
      | some t => some (r.1 ++ [strL t.1], t.2)
def pairLO (b : List UInt8) (f : Int) : Nat → Nat → Option (List (ByteArray × ByteArray) × Nat)
  | 0, a => some ([], a)
  | n + 1, a => match pairLO b f n a with
    | none => none
    | some r => match textO b r.2 f 12 with
      | none => none
      | some t => match textO b t.2 f 12 with
        | none => none
        | some u => some (r.1 ++ [(strL t.1, strL u.1)], u.2)
def pairsO (b : List UInt8) (a : Nat) (f : Int) : Option (List (ByteArray × ByteArray) × Nat) := match countO b a f 6 with
  | none => none
  | some n => pairLO b f n.1.toNat n.2
def fieldO (b : List UInt8) (a : Nat) (f : Int) : Option (FieldD × Nat) := match refO b a f with
  | none => none
  | some r => match getN b r.2 f with
    | none => none
    | some k => match textO b k.2 f 40 with
      | none => none
      | some d => match countO b d.2 f 6 with
        | none => none
        | some n => match textsO b f n.1.toNat n.2 with
          | none => none
          | some l => match getN b l.2 f with
            | none => none
            | some w => if rightF ⟨r.1, k.1, strL d.1, l.1, w.1⟩ = true then some (⟨r.1, k.1, strL d.1, l.1, w.1⟩, w.2) else none
def lensO (b : List UInt8) (a : Nat) (f : Int) : Option (LensD × Nat) := match countO b a f 10 with
  | none => none
  | some k => match refO b k.2 f with
    | none => none
    | some r => match textO b r.2 f 12 with
      | none => none
      | some n => match textO b n.2 f 40 with
        | none => none
        | some o => match getN b o.2 f with
          | none => none
          | some x => match pairsO b x.2 f with
            | none => none
            | some p => match pairsO b p.2 f with
              | none => none
              | some q => match (if k.1 = 2 ∨ k.1 = 3 then fieldO b q.2 f else some (noField, q.2)) with
                | none => none
                | some d => if rightL ⟨k.1, r.1, strL n.1, strL o.1, x.1, d.1, p.1, q.1⟩ = true then some (⟨k.1, r.1, strL n.1, strL o.1, x.1, d.1, p.1, q.1⟩, d.2) else none
theorem textsO_le : ∀ {n a : Nat} {x : List ByteArray × Nat}, a ≤ b.length → textsO b f n a = some x → a ≤ x.2 ∧ x.2 ≤ b.length ∧ x.1.length = n
  | 0, a, x, ha, h => by injection h with h; subst h; exact ⟨Nat.le_refl _, ha, rfl⟩
  | n + 1, a, x, ha, h => by
    rw [textsO] at h
    split at h
    · cases h
    · rename_i r hr
      obtain ⟨h1, h2, h3⟩ := textsO_le ha hr
      split at h
      · cases h
      · rename_i t ht
        have h4 := textO_le ht
        injection h with h; subst h
        exact ⟨by show a ≤ t.2; omega, h4.2.1, by simp [h3]⟩
theorem pairLO_le : ∀ {n a : Nat} {x : List (ByteArray × ByteArray) × Nat}, a ≤ b.length → pairLO b f n a = some x → a ≤ x.2 ∧ x.2 ≤ b.length ∧ x.1.length = n
  | 0, a, x, ha, h => by injection h with h; subst h; exact ⟨Nat.le_refl _, ha, rfl⟩
  | n + 1, a, x, ha, h => by
    rw [pairLO] at h
    split at h
    · cases h
    · rename_i r hr
      obtain ⟨h1, h2, h3⟩ := pairLO_le ha hr
      split at h
      · cases h
      · rename_i t ht
        have h4 := textO_le ht
        split at h
        · cases h
        · rename_i u hu
          have h5 := textO_le hu
          injection h with h; subst h
          exact ⟨by show a ≤ u.2; omega, h5.2.1, by simp [h3]⟩
theorem pairsO_le {a : Nat} {x : List (ByteArray × ByteArray) × Nat} (h : pairsO b a f = some x) : a ≤ x.2 ∧ x.2 ≤ b.length ∧ x.1.length ≤ 6 := by
  unfold pairsO at h
  split at h
  · cases h
  · rename_i n hn
    have h1 := countO_le hn
    obtain ⟨h2, h3, h4⟩ := pairLO_le h1.2.1 h
    exact ⟨by omega, h3, by omega⟩
-- the reader does what the document says
theorem textsR_badS (h : badR f s = true) : ∀ n, badR f (textsR b f n s).2 = true
  | 0 => h
  | n + 1 => (textR_badS (textsR_badS h n)).2
theorem pairL_badS (h : badR f s = true) : ∀ n, badR f (pairL b f n s).2 = true
  | 0 => h
  | n + 1 => (textR_badS (textR_badS (pairL_badS h n)).2).2
theorem textsR_get (hf : fmtF f) {a : Nat} (ha : a ≤ b.length) : ∀ n, match textsO b f n a with
    | some x => textsR b f n (a, false) = (x.1, (x.2, false))
    | none => badR f (textsR b f n (a, false)).2 = true
  | 0 => rfl
  | n + 1 => by
    have ih := textsR_get hf ha n
    rw [textsO, textsR]
    cases h : textsO b f n a with
    | none => rw [h] at ih; exact (textR_badS ih).2
    | some r =>
      rw [h] at ih
      simp only at ih ⊢
      rw [ih]
      have h1 := textsO_le ha h
      have ht := textR_get (b := b) (most := 12) hf (a := r.2) h1.2.1
      cases h2 : textO b r.2 f 12 with
      | none => rw [h2] at ht; exact ht.2
      | some t => rw [h2] at ht; simp only at ht ⊢; rw [ht]
theorem pairL_get (hf : fmtF f) {a : Nat} (ha : a ≤ b.length) : ∀ n, match pairLO b f n a with
    | some x => pairL b f n (a, false) = (x.1, (x.2, false))
    | none => badR f (pairL b f n (a, false)).2 = true
  | 0 => rfl
  | n + 1 => by
    have ih := pairL_get hf ha n
    rw [pairLO, pairL]
    cases h : pairLO b f n a with
    | none => rw [h] at ih; exact (textR_badS (textR_badS ih).2).2
    | some r =>
      rw [h] at ih
      simp only at ih ⊢
      rw [ih]
      have h1 := pairLO_le ha h
      have ht := textR_get (b := b) (most := 12) hf (a := r.2) h1.2.1
      cases h2 : textO b r.2 f 12 with
      | none => rw [h2] at ht; exact (textR_badS ht.2).2
      | some t =>
        rw [h2] at ht
        simp only at ht ⊢
        rw [ht]
        have h3 := textO_le h2
        have hu := textR_get (b := b) (most := 12) hf (a := t.2) h3.2.1
        cases h4 : textO b t.2 f 12 with
        | none => rw [h4] at hu; exact hu.2
        | some u => rw [h4] at hu; simp only at hu ⊢; rw [hu]
theorem pairsR_get (hf : fmtF f) {a : Nat} : match pairsO b a f with
    | some x => pairsR b f (a, false) = (x.1, (x.2, false))
    | none => badR f (pairsR b f (a, false)).2 = true := by
  unfold pairsO pairsR
  have hc := countR_get (b := b) (most := 6) hf (a := a)
  cases h : countO b a f 6 with
  | none => rw [h] at hc; exact pairL_badS hc _
  | some n =>
    rw [h] at hc
    simp only at hc ⊢
    rw [hc]
    exact pairL_get hf (countO_le h).2.1 _
theorem pairsR_badS (h : badR f s = true) : badR f (pairsR b f s).2 = true := pairL_badS (countR_badS h) _
theorem fieldR_badS (h : badR f s = true) : (fieldR b f s).1 = noField ∧ badR f (fieldR b f s).2 = true := by
  have h1 : badR f (fs6 b f s) = true := (numR_badS (textsR_badS (countR_badS (textR_badS (numR_badS (refR_badS h).2).2).2) _)).2
  unfold fieldR
  rw [if_pos (.inl h1)]
  exact ⟨rfl, rfl⟩
theorem fieldR_bad6 (h : badR f (fs6 b f s) = true) : (fieldR b f s).1 = noField ∧ badR f (fieldR b f s).2 = true := by
  unfold fieldR
  rw [if_pos (.inl h)]
  exact ⟨rfl, rfl⟩
theorem fieldR_get (hf : fmtF f) {a : Nat} (ha : a ≤ b.length) : match fieldO b a f with
    | some x => fieldR b f (a, false) = (x.1, (x.2, false))
    | none => (fieldR b f (a, false)).1 = noField ∧ badR f (fieldR b f (a, false)).2 = true := by
  unfold fieldO
  have h1 := refR_get (b := b) hf ha
  cases g1 : refO b a f with
  | none => rw [g1] at h1; exact fieldR_bad6 (numR_badS (textsR_badS (countR_badS (textR_badS (numR_badS h1).2).2) _)).2
  | some r =>
    rw [g1] at h1
    simp only at h1 ⊢
    have e1 : fs1 b f (a, false) = (r.2, false) := by unfold fs1; rw [h1]
    have h2 := numR_get (b := b) hf (a := r.2)
    cases g2 : getN b r.2 f with
    | none => rw [g2] at h2; exact fieldR_bad6 (numR_badS (textsR_badS (countR_badS (textR_badS (by unfold fs2; rw [e1, h2]; rfl)).2) _)).2
    | some k =>
      rw [g2] at h2
      simp only at h2 ⊢
      have e2 : fs2 b f (a, false) = (k.2, false) := by unfold fs2; rw [e1, h2]
      have l2 := getN_in (n := k.1) (e := k.2) g2
      have h3 := textR_get (b := b) (most := 40) hf (a := k.2) l2.2.2.1
      cases g3 : textO b k.2 f 40 with
      | none => rw [g3] at h3; exact fieldR_bad6 (numR_badS (textsR_badS (countR_badS (by unfold fs3; rw [e2]; exact h3.2)) _)).2
      | some d =>
        rw [g3] at h3
        simp only at h3 ⊢
        have e3 : fs3 b f (a, false) = (d.2, false) := by unfold fs3; rw [e2, h3]
        have h4 := countR_get (b := b) (most := 6) hf (a := d.2)
        cases g4 : countO b d.2 f 6 with
        | none => rw [g4] at h4; exact fieldR_bad6 (numR_badS (textsR_badS (by unfold fs4; rw [e3]; exact h4) _)).2
        | some n =>
          rw [g4] at h4
          simp only at h4 ⊢
          have e4 : fs4 b f (a, false) = (n.2, false) := by unfold fs4; rw [e3, h4]
          have en : fsn b f (a, false) = n.1.toNat := by unfold fsn; rw [e3, h4]
          have l4 := countO_le g4
          have h5 := textsR_get (b := b) hf (a := n.2) l4.2.1 n.1.toNat
          cases g5 : textsO b f n.1.toNat n.2 with
          | none => rw [g5] at h5; exact fieldR_bad6 (numR_badS (by unfold fs5; rw [e4, en]; exact h5)).2
          | some l =>
            rw [g5] at h5
            simp only at h5 ⊢
            have e5 : fs5 b f (a, false) = (l.2, false) := by unfold fs5; rw [e4, en, h5]
            have h6 := numR_get (b := b) hf (a := l.2)
            cases g6 : getN b l.2 f with
            | none => rw [g6] at h6; exact fieldR_bad6 (by unfold fs6; rw [e5, h6]; rfl)
            | some w =>
              rw [g6] at h6
              simp only at h6 ⊢
              have e6 : fs6 b f (a, false) = (w.2, false) := by unfold fs6; rw [e5, h6]
              have ev : fieldV b f (a, false) = ⟨r.1, k.1, strL d.1, l.1, w.1⟩ := by
                unfold fieldV
                rw [h1, e1, h2, e2, h3, e4, en, h5, e5, h6]
              unfold fieldR
              rw [ev, e6]
              by_cases hr : rightF ⟨r.1, k.1, strL d.1, l.1, w.1⟩ = true
              · rw [if_pos hr, if_neg (by rw [hr]; intro e; rcases e with e | e; exact badR_right hf e; cases e)]
              · rw [if_neg hr, if_pos (.inr (by simpa using hr))]
                exact ⟨rfl, rfl⟩
theorem lensR_bad8 (h : badR f (ls8 b f s) = true) : (lensR b f s).1 = noLens ∧ badR f (lensR b f s).2 = true := by
  unfold lensR
  rw [if_pos h]
  exact ⟨rfl, h⟩
theorem ls8_bad (h : badR f (ls7 b f s) = true) : badR f (ls8 b f s) = true := by
  unfold ls8
  split
  · exact (fieldR_badS h).2
  · exact h
theorem lensR_bad1 (h : badR f (ls1 b f s) = true) : (lensR b f s).1 = noLens ∧ badR f (lensR b f s).2 = true := lensR_bad8 (ls8_bad (pairsR_badS (pairsR_badS (numR_badS (textR_badS (textR_badS (refR_badS h).2).2).2).2)))
theorem lensR_bad2 (h : badR f (ls2 b f s) = true) : (lensR b f s).1 = noLens ∧ badR f (lensR b f s).2 = true := lensR_bad8 (ls8_bad (pairsR_badS (pairsR_badS (numR_badS (textR_badS (textR_badS h).2).2).2)))
theorem lensR_bad3 (h : badR f (ls3 b f s) = true) : (lensR b f s).1 = noLens ∧ badR f (lensR b f s).2 = true := lensR_bad8 (ls8_bad (pairsR_badS (pairsR_badS (numR_badS (textR_badS h).2).2)))
theorem lensR_bad4 (h : badR f (ls4 b f s) = true) : (lensR b f s).1 = noLens ∧ badR f (lensR b f s).2 = true := lensR_bad8 (ls8_bad (pairsR_badS (pairsR_badS (numR_badS h).2)))
theorem lensR_bad5 (h : badR f (ls5 b f s) = true) : (lensR b f s).1 = noLens ∧ badR f (lensR b f s).2 = true := lensR_bad8 (ls8_bad (pairsR_badS (pairsR_badS h)))
theorem lensR_bad6 (h : badR f (ls6 b f s) = true) : (lensR b f s).1 = noLens ∧ badR f (lensR b f s).2 = true := lensR_bad8 (ls8_bad (pairsR_badS h))
theorem rightL_kd {x : LensD} (h : rightL x = true) : 1 ≤ x.kind ∧ x.kind ≤ 10 := by
  unfold rightL at h
  by_cases h1 : x.kind = 2 ∨ x.kind = 3
  · omega
  · rw [if_neg h1] at h
    by_cases h2 : x.kind = 8
    · omega
    · rw [if_neg h2] at h
      by_cases h3 : x.kind = 6 ∨ x.kind = 9
      · omega
      · rw [if_neg h3] at h
        by_cases h4 : x.kind = 7 ∨ x.kind = 10
        · omega
        · rw [if_neg h4] at h
          by_cases h5 : x.kind = 1
          · omega
          · rw [if_neg h5] at h
            by_cases h6 : x.kind = 4
            · omega
            · rw [if_neg h6] at h
              by_cases h7 : x.kind = 5
              · omega
              · rw [if_neg h7] at h; simp at h
theorem lensR_get (hf : fmtF f) {a : Nat} (ha : a ≤ b.length) : match lensO b a f with
    | some x => lensR b f (a, false) = (x.1, (x.2, false))
    | none => (lensR b f (a, false)).1 = noLens ∧ badR f (lensR b f (a, false)).2 = true := by
  unfold lensO
  have h1 := numR_get (b := b) hf (a := a)
  cases g1 : countO b a f 10 with
  | none =>
    unfold countO at g1
    cases g0 : getN b a f with
    | none => rw [g0] at h1; exact lensR_bad1 (by unfold ls1; rw [h1]; rfl)
    | some k =>
      rw [g0] at h1 g1
      simp only at h1 g1
      split at g1
      · cases g1
      · rename_i hk
        -- a kind that is none: read on, and refused
        have ek : lsk b f (a, false) = k.1 := by unfold lsk; rw [h1]
        by_cases h8 : badR f (ls8 b f (a, false)) = true
        · exact lensR_bad8 h8
        · unfold lensR
          rw [if_neg h8, if_pos]
          · exact ⟨rfl, rfl⟩
          · cases hr : rightL (lensV b f (a, false)) with
            | false => rfl
            | true =>
              have := rightL_kd hr
              rw [show (lensV b f (a, false)).kind = k.1 from ek] at this
              omega
  | some k =>
    have g0 : getN b a f = some k := by
      unfold countO at g1
      split at g1
      · rename_i x hx
        split at g1
        · rw [← g1]; exact hx
        · cases g1
      · cases g1
    rw [g0] at h1
    simp only at h1 ⊢
    have e1 : ls1 b f (a, false) = (k.2, false) := by unfold ls1; rw [h1]
    have ek : lsk b f (a, false) = k.1 := by unfold lsk; rw [h1]
    have l1 := countO_le g1
    have h2 := refR_get (b := b) hf (a := k.2) l1.2.1
    cases g2 : refO b k.2 f with
    | none => rw [g2] at h2; exact lensR_bad2 (by unfold ls2; rw [e1]; exact h2)
    | some r =>
      rw [g2] at h2
      simp only at h2 ⊢
      have e2 : ls2 b f (a, false) = (r.2, false) := by unfold ls2; rw [e1, h2]
      have h3 := textR_get (b := b) (most := 12) hf (a := r.2) (refO_le g2).2
      cases g3 : textO b r.2 f 12 with
      | none => rw [g3] at h3; exact lensR_bad3 (by unfold ls3; rw [e2]; exact h3.2)
      | some n =>
        rw [g3] at h3
        simp only at h3 ⊢
        have e3 : ls3 b f (a, false) = (n.2, false) := by unfold ls3; rw [e2, h3]
        have h4 := textR_get (b := b) (most := 40) hf (a := n.2) (textO_le g3).2.1
        cases g4 : textO b n.2 f 40 with
        | none => rw [g4] at h4; exact lensR_bad4 (by unfold ls4; rw [e3]; exact h4.2)
        | some o =>
          rw [g4] at h4
          simp only at h4 ⊢
          have e4 : ls4 b f (a, false) = (o.2, false) := by unfold ls4; rw [e3, h4]
          have h5 := numR_get (b := b) hf (a := o.2)
          cases g5 : getN b o.2 f with
          | none => rw [g5] at h5; exact lensR_bad5 (by unfold ls5; rw [e4, h5]; rfl)
          | some x =>
            rw [g5] at h5
            simp only at h5 ⊢
            have e5 : ls5 b f (a, false) = (x.2, false) := by unfold ls5; rw [e4, h5]
            have h6 := pairsR_get (b := b) hf (a := x.2)
            cases g6 : pairsO b x.2 f with
            | none => rw [g6] at h6; exact lensR_bad6 (by unfold ls6; rw [e5]; exact h6)
            | some p =>
              rw [g6] at h6
              simp only at h6 ⊢
              have e6 : ls6 b f (a, false) = (p.2, false) := by unfold ls6; rw [e5, h6]
              have h7 := pairsR_get (b := b) hf (a := p.2)
              cases g7 : pairsO b p.2 f with
              | none => rw [g7] at h7; exact lensR_bad8 (ls8_bad (by unfold ls7; rw [e6]; exact h7))
              | some q =>
                rw [g7] at h7
                simp only at h7 ⊢
                have e7 : ls7 b f (a, false) = (q.2, false) := by unfold ls7; rw [e6, h7]
                have h8 : match (if k.1 = 2 ∨ k.1 = 3 then fieldO b q.2 f else some (noField, q.2)) with
                    | some d => lsf b f (a, false) = d.1 ∧ ls8 b f (a, false) = (d.2, false)
                    | none => badR f (ls8 b f (a, false)) = true := by
                  unfold lsf ls8
                  rw [ek, e7]
                  by_cases hk : k.1 = 2 ∨ k.1 = 3
                  · simp only [if_pos hk]
                    have h9 := fieldR_get (b := b) hf (a := q.2) (pairsO_le g7).2.1
                    cases g9 : fieldO b q.2 f with
                    | none => rw [g9] at h9; exact h9.2
                    | some d => rw [g9] at h9; simp only at h9 ⊢; rw [h9]; exact ⟨rfl, rfl⟩
                  · simp [hk]
                cases g8 : (if k.1 = 2 ∨ k.1 = 3 then fieldO b q.2 f else some (noField, q.2)) with
                | none => rw [g8] at h8; exact lensR_bad8 h8
                | some d =>
                  rw [g8] at h8
                  simp only at h8 ⊢
                  have ev : lensV b f (a, false) = ⟨k.1, r.1, strL n.1, strL o.1, x.1, d.1, p.1, q.1⟩ := by
                    unfold lensV
                    rw [ek, e1, h2, e2, h3, e3, h4, e4, h5, h8.1, e5, h6, e6, h7]
                  unfold lensR
                  rw [ev, h8.2, if_neg (badR_right hf)]
                  by_cases hr : rightL ⟨k.1, r.1, strL n.1, strL o.1, x.1, d.1, p.1, q.1⟩ = true
                  · rw [if_pos hr, if_neg (by rw [hr]; decide)]
                  · rw [if_neg hr, if_pos (by simpa using hr)]
                    exact ⟨rfl, rfl⟩

-- what is put is got
theorem texts_put (hf : fmtF f) {l : List ByteArray} {pre post : List UInt8} (h : ∀ t ∈ l, t.size ≤ 12) : ∀ n, n ≤ l.length → textsO (pre ++ (textsP f l ++ post)) f n pre.length = some (l.take n, pre.length + (textsP f (l.take n)).length)
  | 0, _ => by simp [textsO, textsP]
  | n + 1, hn => by
    have ih := texts_put hf h (pre := pre) (post := post) n (by omega)
    rw [textsO, ih]
    simp only
    have hx : l[n] ∈ l := List.getElem_mem (by omega)
    have e : pre ++ (textsP f l ++ post) = (pre ++ textsP f (l.take n)) ++ (textP f l[n] ++ (textsP f (l.drop (n + 1)) ++ post)) := by
      have h1 : l = l.take n ++ l[n] :: l.drop (n + 1) := by rw [← List.drop_eq_getElem_cons (by omega), List.take_append_drop]
      have h2 : textsP f l = textsP f (l.take n) ++ (textP f l[n] ++ textsP f (l.drop (n + 1))) := by
        conv => lhs; rw [h1]
        unfold textsP
        rw [List.flatMap_append, List.flatMap_cons]
      rw [h2]
      simp only [List.append_assoc]
    have ht := text_put hf (t := l[n]) (pre := pre ++ textsP f (l.take n)) (post := textsP f (l.drop (n + 1)) ++ post) (most := 12) (by have := h _ hx; omega) (by have := h _ hx; omega)
    rw [← e, List.length_append] at ht
    rw [ht]
    have hh : l.take (n + 1) = l.take n ++ [l[n]] := by rw [List.take_add_one, List.getElem?_eq_getElem (by omega)]; rfl
    simp only [strL_list]
    rw [hh]
    congr 2
    unfold textsP
    rw [List.flatMap_append, List.length_append]
    simp [Nat.add_assoc]
theorem pairs_put (hf : fmtF f) {l : List (ByteArray × ByteArray)} {pre post : List UInt8} (h : ∀ t ∈ l, t.1.size ≤ 12 ∧ t.2.size ≤ 12) : ∀ n, n ≤ l.length → pairLO (pre ++ (pairsB f l ++ post)) f n pre.length = some (l.take n, pre.length + (pairsB f (l.take n)).length)
  | 0, _ => by simp [pairLO, pairsB]
  | n + 1, hn => by
    have ih := pairs_put hf h (pre := pre) (post := post) n (by omega)
    rw [pairLO, ih]
    simp only
    have hx : l[n] ∈ l := List.getElem_mem (by omega)
    have hsz := h _ hx
    have e : pre ++ (pairsB f l ++ post) = (pre ++ pairsB f (l.take n)) ++ (textP f l[n].1 ++ (textP f l[n].2 ++ (pairsB f (l.drop (n + 1)) ++ post))) := by
      have h1 : l = l.take n ++ l[n] :: l.drop (n + 1) := by rw [← List.drop_eq_getElem_cons (by omega), List.take_append_drop]
      have h2 : pairsB f l = pairsB f (l.take n) ++ ((textP f l[n].1 ++ textP f l[n].2) ++ pairsB f (l.drop (n + 1))) := by
        conv => lhs; rw [h1]
        unfold pairsB
        rw [List.flatMap_append, List.flatMap_cons]
        rfl
      rw [h2]
      simp only [List.append_assoc]
    have ht := text_put hf (t := l[n].1) (pre := pre ++ pairsB f (l.take n)) (post := textP f l[n].2 ++ (pairsB f (l.drop (n + 1)) ++ post)) (most := 12) (by omega) (by omega)
    have hu := text_put hf (t := l[n].2) (pre := (pre ++ pairsB f (l.take n)) ++ textP f l[n].1) (post := pairsB f (l.drop (n + 1)) ++ post) (most := 12) (by omega) (by omega)
    rw [← e, List.length_append] at ht
    rw [List.append_assoc, ← e, List.length_append, List.length_append] at hu
    rw [ht]
    simp only
    rw [hu]
    have hh : l.take (n + 1) = l.take n ++ [l[n]] := by rw [List.take_add_one, List.getElem?_eq_getElem (by omega)]; rfl
    simp only [strL_list]
    rw [hh]
    congr 2
    unfold pairsB
    rw [List.flatMap_append, List.length_append]
    simp [Nat.add_assoc, pairP]
theorem count_put (hf : fmtF f) {n most : Int} {pre post : List UInt8} (h0 : 0 ≤ n) (h1 : n ≤ most) (h2 : inI64 n) : countO (pre ++ (putN f n ++ post)) pre.length f most = some (n, pre.length + (putN f n).length) := by
  unfold countO
  rw [get_put hf h2]
  simp only
  rw [if_pos ⟨h0, h1⟩]
theorem pairsP_put (hf : fmtF f) {l : List (ByteArray × ByteArray)} {pre post : List UInt8} (hl : l.length ≤ 6) (h : ∀ t ∈ l, t.1.size ≤ 12 ∧ t.2.size ≤ 12) : pairsO (pre ++ (pairsP f l ++ post)) pre.length f = some (l, pre.length + (pairsP f l).length) := by
  unfold pairsO pairsP
  rw [List.append_assoc, count_put hf (by omega) (by omega) (by omega)]
  simp only
  have hp := pairs_put hf (pre := pre ++ putN f (l.length : Nat)) (post := post) h l.length (Nat.le_refl _)
  rw [List.append_assoc, List.length_append] at hp
  rw [Int.toNat_natCast, hp, List.take_length, List.length_append, Nat.add_assoc]
theorem nameB_size {s : ByteArray} (h : nameB s = true) : s.size ≤ 12 := by
  unfold nameB at h
  simp only [Bool.and_eq_true, decide_eq_true_eq] at h
  exact h.1.2
theorem placeB_size {r : RefD} (h : placeB r = true) : inI64 r.scope ∧ r.group.size ≤ 12 ∧ r.name.size ≤ 12 := by
  unfold placeB at h
  simp only [Bool.and_eq_true, Bool.or_eq_true, decide_eq_true_eq] at h
  obtain ⟨⟨h1, h2⟩, h3⟩ := h
  refine ⟨by omega, ?_, nameB_size h2⟩
  rcases h3 with h3 | h3
  · rw [h3]; decide
  · exact nameB_size h3
theorem casesB_size {l : List ByteArray} (h : casesB l = true) : l.length ≤ 6 ∧ ∀ t ∈ l, t.size ≤ 12 := by
  unfold casesB okC at h
  simp only [Bool.and_eq_true, decide_eq_true_eq, List.all_eq_true] at h
  refine ⟨h.1.2, fun t ht => ?_⟩
  obtain ⟨i, hi, rfl⟩ := List.getElem_of_mem ht
  have := h.2 i (List.mem_range.2 hi)
  rw [List.getElem?_eq_getElem hi] at this
  simp only [Bool.and_eq_true] at this
  exact nameB_size this.1
theorem rightF_size {x : FieldD} (h : rightF x = true) : placeB x.at_ = true ∧ x.deft.size ≤ 40 ∧ x.cases.length ≤ 6 ∧ (∀ t ∈ x.cases, t.size ≤ 12) ∧ inI64 x.kind ∧ inI64 x.worth := by
  unfold rightF at h
  rw [Bool.and_eq_true] at h
  obtain ⟨h0, h⟩ := h
  refine ⟨h0, ?_⟩
  have none : x.cases.length = 0 → x.cases.length ≤ 6 ∧ ∀ t ∈ x.cases, t.size ≤ 12 := fun h => by
    rw [List.length_eq_zero_iff.1 h]; exact ⟨by decide, by simp⟩
  by_cases k1 : x.kind = 1
  · rw [if_pos k1] at h
    simp only [Bool.and_eq_true, decide_eq_true_eq] at h
    obtain ⟨⟨⟨a, b⟩, c⟩, d⟩ := h
    exact ⟨by rw [a]; decide, (none b).1, (none b).2, by omega, by omega⟩
  · rw [if_neg k1] at h
    by_cases k2 : x.kind = 2
    · rw [if_pos k2] at h
      simp only [Bool.and_eq_true, decide_eq_true_eq] at h
      obtain ⟨⟨a, b⟩, c⟩ := h
      exact ⟨a, (none b).1, (none b).2, by omega, by omega⟩
    · rw [if_neg k2] at h
      by_cases k3 : x.kind = 3
      · rw [if_pos k3] at h
        simp only [Bool.and_eq_true, decide_eq_true_eq] at h
        obtain ⟨⟨a, b⟩, c⟩ := h
        have hc := casesB_size a
        have := hc.2 _ b
        exact ⟨by omega, hc.1, hc.2, by omega, by omega⟩
      · rw [if_neg k3] at h
        by_cases k4 : x.kind = 4
        · rw [if_pos k4] at h
          simp only [Bool.and_eq_true, decide_eq_true_eq] at h
          obtain ⟨⟨a, b⟩, c⟩ := h
          exact ⟨by rw [a]; decide, (none b).1, (none b).2, by omega, by omega⟩
        · rw [if_neg k4] at h; cases h
theorem field_put (hf : fmtF f) {x : FieldD} {pre post : List UInt8} (h : rightF x = true) : fieldO (pre ++ (fieldP f x ++ post)) pre.length f = some (x, pre.length + (fieldP f x).length) := by
  obtain ⟨h1, h2, h3, h4, h5, h6⟩ := rightF_size h
  obtain ⟨p1, p2, p3⟩ := placeB_size h1
  have e1 := ref_put hf (r := x.at_) (pre := pre) (post := putN f x.kind ++ (textP f x.deft ++ (putN f (x.cases.length : Nat) ++ (textsP f x.cases ++ (putN f x.worth ++ post))))) p1 p2 p3
  have e2 := get_put hf (n := x.kind) (pre := pre ++ refP f x.at_) (post := textP f x.deft ++ (putN f (x.cases.length : Nat) ++ (textsP f x.cases ++ (putN f x.worth ++ post)))) h5
  have e3 := text_put hf (t := x.deft) (pre := (pre ++ refP f x.at_) ++ putN f x.kind) (post := putN f (x.cases.length : Nat) ++ (textsP f x.cases ++ (putN f x.worth ++ post))) (most := 40) (by omega) (by omega)
  have e4 := count_put hf (n := (x.cases.length : Nat)) (most := 6) (pre := ((pre ++ refP f x.at_) ++ putN f x.kind) ++ textP f x.deft) (post := textsP f x.cases ++ (putN f x.worth ++ post)) (by omega) (by omega) (by omega)
  have e5 := texts_put hf (l := x.cases) (pre := (((pre ++ refP f x.at_) ++ putN f x.kind) ++ textP f x.deft) ++ putN f (x.cases.length : Nat)) (post := putN f x.worth ++ post) h4 x.cases.length (Nat.le_refl _)
  have e6 := get_put hf (n := x.worth) (pre := ((((pre ++ refP f x.at_) ++ putN f x.kind) ++ textP f x.deft) ++ putN f (x.cases.length : Nat)) ++ textsP f x.cases) (post := post) h6
  simp only [List.append_assoc, List.length_append, Nat.add_assoc, List.take_length] at e1 e2 e3 e4 e5 e6
  unfold fieldO fieldP
  simp only [List.append_assoc, List.length_append, Nat.add_assoc]
  rw [e1]
  simp only
  rw [e2]
  simp only
  rw [e3]
  simp only
  rw [e4]
  simp only
  rw [Int.toNat_natCast, e5]
  simp only
  rw [e6]
  simp only [strL_list]
  rw [if_pos h]
theorem rightT_size {t o : List (ByteArray × ByteArray)} (h : rightT t o = true) : t.length ≤ 6 ∧ ∀ p ∈ t, p.1.size ≤ 12 ∧ p.2 ∈ froms o := by
  unfold rightT okT at h
  simp only [Bool.and_eq_true, decide_eq_true_eq, List.all_eq_true] at h
  refine ⟨h.1.2, fun p hp => ?_⟩
  obtain ⟨i, hi, rfl⟩ := List.getElem_of_mem hp
  have := h.2 i (List.mem_range.2 hi)
  rw [List.getElem?_eq_getElem hi] at this
  simp only [Bool.and_eq_true, decide_eq_true_eq] at this
  exact ⟨nameB_size this.1.1, this.2⟩
theorem rightT_both {t o : List (ByteArray × ByteArray)} (h : rightT t o = true) (k : rightT o t = true) : (∀ p ∈ t, p.1.size ≤ 12 ∧ p.2.size ≤ 12) ∧ ∀ p ∈ o, p.1.size ≤ 12 ∧ p.2.size ≤ 12 := by
  have h1 := (rightT_size h).2
  have h2 := (rightT_size k).2
  have key : ∀ {t o : List (ByteArray × ByteArray)}, (∀ p ∈ t, p.1.size ≤ 12 ∧ p.2 ∈ froms o) → (∀ p ∈ o, p.1.size ≤ 12 ∧ p.2 ∈ froms t) → ∀ p ∈ t, p.1.size ≤ 12 ∧ p.2.size ≤ 12 := by
    intro t o h1 h2 p hp
    refine ⟨(h1 p hp).1, ?_⟩
    obtain ⟨q, hq, e⟩ := List.mem_map.1 (h1 p hp).2
    rw [← e]
    exact (h2 q hq).1
  exact ⟨key h1 h2, key h2 h1⟩
structure SizeL (x : LensD) : Prop where
  kind : 1 ≤ x.kind ∧ x.kind ≤ 10
  place : inI64 x.at_.scope ∧ x.at_.group.size ≤ 12 ∧ x.at_.name.size ≤ 12
  name : x.name.size ≤ 12
  other : x.other.size ≤ 40
  factor : inI64 x.factor
  forth : x.forth.length ≤ 6 ∧ ∀ p ∈ x.forth, p.1.size ≤ 12 ∧ p.2.size ≤ 12
  back : x.back.length ≤ 6 ∧ ∀ p ∈ x.back, p.1.size ≤ 12 ∧ p.2.size ≤ 12
  field : (x.kind = 2 ∨ x.kind = 3 → rightF x.field = true) ∧ (¬ (x.kind = 2 ∨ x.kind = 3) → x.field = noField)
theorem noB_size : noB.size = 0 := rfl
theorem rightL_size {x : LensD} (h : rightL x = true) : SizeL x := by
  have hk := rightL_kd h
  have none : ∀ {l : List (ByteArray × ByteArray)}, l.length = 0 → l.length ≤ 6 ∧ ∀ p ∈ l, p.1.size ≤ 12 ∧ p.2.size ≤ 12 := fun h => by
    rw [List.length_eq_zero_iff.1 h]; exact ⟨by decide, by simp⟩
  have hz : inI64 0 := ⟨by decide, by decide⟩
  unfold rightL at h
  by_cases h1 : x.kind = 2 ∨ x.kind = 3
  · rw [if_pos h1] at h
    simp only [Bool.and_eq_true, decide_eq_true_eq] at h
    obtain ⟨⟨⟨⟨⟨⟨a, b⟩, c⟩, d⟩, e⟩, g⟩, i⟩ := h
    exact ⟨hk, by rw [a]; exact ⟨hz, by decide, by decide⟩, by rw [b]; decide, by rw [c]; decide, by rw [d]; exact hz, none e, none g, fun _ => i, fun k => absurd h1 k⟩
  · rw [if_neg h1] at h
    rw [Bool.and_eq_true, Bool.and_eq_true, decide_eq_true_eq] at h
    obtain ⟨⟨hp, hfd⟩, h⟩ := h
    have hp := placeB_size hp
    have hfl : (x.kind = 2 ∨ x.kind = 3 → rightF x.field = true) ∧ (¬ (x.kind = 2 ∨ x.kind = 3) → x.field = noField) := ⟨fun k => absurd k h1, fun _ => hfd⟩
    by_cases h2 : x.kind = 8
    · rw [if_pos h2] at h
      simp only [Bool.and_eq_true, decide_eq_true_eq] at h
      obtain ⟨⟨⟨⟨a, b⟩, c⟩, d⟩, e⟩ := h
      have hb := rightT_both b c
      have n1 := nameB_size (rightT_name b (s := x.name) (by rw [d]))
      have n2 := nameB_size (rightT_name c (s := x.other) (by rw [e]))
      exact ⟨hk, hp, n1, by omega, by rw [a]; exact hz, ⟨(rightT_size b).1, hb.1⟩, ⟨(rightT_size c).1, hb.2⟩, hfl⟩
    · rw [if_neg h2] at h
      rw [Bool.and_eq_true, Bool.and_eq_true, decide_eq_true_eq, decide_eq_true_eq] at h
      obtain ⟨⟨hf1, hf2⟩, h⟩ := h
      by_cases h3 : x.kind = 6 ∨ x.kind = 9
      · rw [if_pos h3] at h
        simp only [Bool.and_eq_true, decide_eq_true_eq] at h
        obtain ⟨⟨⟨⟨a, b⟩, c⟩, d⟩, e⟩ := h
        have n2 := nameB_size b
        exact ⟨hk, hp, nameB_size a, by omega, by omega, none hf1, none hf2, hfl⟩
      · rw [if_neg h3] at h
        rw [Bool.and_eq_true, decide_eq_true_eq] at h
        obtain ⟨hfa, h⟩ := h
        have hfa : inI64 x.factor := by rw [hfa]; exact hz
        by_cases h4 : x.kind = 7 ∨ x.kind = 10
        · rw [if_pos h4] at h
          simp only [Bool.and_eq_true, decide_eq_true_eq] at h
          exact ⟨hk, hp, by rw [h.1]; decide, h.2, hfa, none hf1, none hf2, hfl⟩
        · rw [if_neg h4] at h
          rw [Bool.and_eq_true, decide_eq_true_eq] at h
          obtain ⟨ho, h⟩ := h
          refine ⟨hk, hp, ?_, by rw [ho]; decide, hfa, none hf1, none hf2, hfl⟩
          by_cases h5 : x.kind = 1
          · rw [if_pos h5] at h; exact nameB_size h
          · rw [if_neg h5] at h
            by_cases h6 : x.kind = 4
            · rw [if_pos h6] at h
              simp only [Bool.and_eq_true, decide_eq_true_eq] at h
              rw [h.1]; decide
            · rw [if_neg h6] at h
              by_cases h7 : x.kind = 5
              · rw [if_pos h7] at h
                simp only [Bool.and_eq_true, decide_eq_true_eq] at h
                exact nameB_size h.2
              · rw [if_neg h7] at h; cases h
theorem lens_put (hf : fmtF f) {x : LensD} {pre post : List UInt8} (h : rightL x = true) : lensO (pre ++ (lensP f x ++ post)) pre.length f = some (x, pre.length + (lensP f x).length) := by
  have z := rightL_size h
  obtain ⟨p1, p2, p3⟩ := z.place
  have hki : inI64 x.kind := by have := z.kind; omega
  generalize hF : (if x.kind = 2 ∨ x.kind = 3 then fieldP f x.field else []) = F
  have e1 := count_put hf (n := x.kind) (most := 10) (pre := pre) (post := refP f x.at_ ++ (textP f x.name ++ (textP f x.other ++ (putN f x.factor ++ (pairsP f x.forth ++ (pairsP f x.back ++ (F ++ post))))))) (by have := z.kind; omega) z.kind.2 hki
  have e2 := ref_put hf (r := x.at_) (pre := pre ++ putN f x.kind) (post := textP f x.name ++ (textP f x.other ++ (putN f x.factor ++ (pairsP f x.forth ++ (pairsP f x.back ++ (F ++ post)))))) p1 p2 p3
  have e3 := text_put hf (t := x.name) (pre := (pre ++ putN f x.kind) ++ refP f x.at_) (post := textP f x.other ++ (putN f x.factor ++ (pairsP f x.forth ++ (pairsP f x.back ++ (F ++ post))))) (most := 12) (by have := z.name; omega) (by have := z.name; omega)
  have e4 := text_put hf (t := x.other) (pre := ((pre ++ putN f x.kind) ++ refP f x.at_) ++ textP f x.name) (post := putN f x.factor ++ (pairsP f x.forth ++ (pairsP f x.back ++ (F ++ post)))) (most := 40) (by have := z.other; omega) (by have := z.other; omega)
  have e5 := get_put hf (n := x.factor) (pre := (((pre ++ putN f x.kind) ++ refP f x.at_) ++ textP f x.name) ++ textP f x.other) (post := pairsP f x.forth ++ (pairsP f x.back ++ (F ++ post))) z.factor
  have e6 := pairsP_put hf (l := x.forth) (pre := ((((pre ++ putN f x.kind) ++ refP f x.at_) ++ textP f x.name) ++ textP f x.other) ++ putN f x.factor) (post := pairsP f x.back ++ (F ++ post)) z.forth.1 z.forth.2
  have e7 := pairsP_put hf (l := x.back) (pre := (((((pre ++ putN f x.kind) ++ refP f x.at_) ++ textP f x.name) ++ textP f x.other) ++ putN f x.factor) ++ pairsP f x.forth) (post := F ++ post) z.back.1 z.back.2
  have e8 : (if x.kind = 2 ∨ x.kind = 3 then fieldO (((((((pre ++ putN f x.kind) ++ refP f x.at_) ++ textP f x.name) ++ textP f x.other) ++ putN f x.factor) ++ pairsP f x.forth) ++ pairsP f x.back ++ (F ++ post)) ((((((((pre ++ putN f x.kind) ++ refP f x.at_) ++ textP f x.name) ++ textP f x.other) ++ putN f x.factor) ++ pairsP f x.forth) ++ pairsP f x.back).length) f else some (noField, (((((((pre ++ putN f x.kind) ++ refP f x.at_) ++ textP f x.name) ++ textP f x.other) ++ putN f x.factor) ++ pairsP f x.forth) ++ pairsP f x.back).length)) = some (x.field, (((((((pre ++ putN f x.kind) ++ refP f x.at_) ++ textP f x.name) ++ textP f x.other) ++ putN f x.factor) ++ pairsP f x.forth) ++ pairsP f x.back).length + F.length) := by
    by_cases hk : x.kind = 2 ∨ x.kind = 3
    · rw [if_pos hk, ← hF, if_pos hk]
      exact field_put hf (z.field.1 hk)
    · rw [if_neg hk, ← hF, if_neg hk, z.field.2 hk]; rfl
  simp only [List.append_assoc, List.length_append, Nat.add_assoc] at e1 e2 e3 e4 e5 e6 e7 e8
  unfold lensO lensP
  rw [hF]
  simp only [List.append_assoc, List.length_append, Nat.add_assoc]
  rw [e1]
  simp only
  rw [e2]
  simp only
  rw [e3]
  simp only
  rw [e4]
  simp only
  rw [e5]
  simp only
  rw [e6]
  simp only
  rw [e7]
  simp only
  rw [e8]
  simp only [strL_list]
  rw [if_pos h]
-- how much is put
theorem textsP_len {l : List ByteArray} (h : ∀ t ∈ l, t.size ≤ 200) : (textsP f l).length ≤ 210 * l.length := by
  induction l with
  | nil => simp [textsP]
  | cons t l ih =>
    have h1 := textP_len f (s := t) (by have := h t (List.mem_cons_self ..); omega)
    have h2 := h t (List.mem_cons_self ..)
    have h3 := ih fun u hu => h u (List.mem_cons_of_mem _ hu)
    unfold textsP at h3 ⊢
    rw [List.flatMap_cons, List.length_append, List.length_cons]
    omega
theorem pairsB_len {l : List (ByteArray × ByteArray)} (h : ∀ t ∈ l, t.1.size ≤ 200 ∧ t.2.size ≤ 200) : (pairsB f l).length ≤ 420 * l.length := by
  induction l with
  | nil => simp [pairsB]
  | cons t l ih =>
    have h0 := h t (List.mem_cons_self ..)
    have h1 := textP_len f (s := t.1) (by omega)
    have h2 := textP_len f (s := t.2) (by omega)
    have h3 := ih fun u hu => h u (List.mem_cons_of_mem _ hu)
    unfold pairsB at h3 ⊢
    rw [List.flatMap_cons, List.length_append, List.length_cons]
    show (textP f t.1 ++ textP f t.2).length + _ ≤ _
    rw [List.length_append]
    omega
theorem refP_len {r : RefD} (h0 : inI64 r.scope) (h1 : r.group.size ≤ 200) (h2 : r.name.size ≤ 200) : (refP f r).length ≤ 430 := by
  have a := putN_len f h0
  have b := textP_len f (s := r.group) (by omega)
  have c := textP_len f (s := r.name) (by omega)
  unfold refP
  rw [List.length_append, List.length_append]
  omega
structure OkF (x : FieldD) : Prop where
  scope : inI64 x.at_.scope
  group : x.at_.group.size ≤ 200
  name : x.at_.name.size ≤ 200
  kind : inI64 x.kind
  deft : x.deft.size ≤ 200
  cases : x.cases.length ≤ 20
  each : ∀ t ∈ x.cases, t.size ≤ 200
  worth : inI64 x.worth
theorem fieldP_len {x : FieldD} (h : OkF x) : (fieldP f x).length ≤ 4900 := by
  have a := refP_len (f := f) h.scope h.group h.name
  have b := putN_len f h.kind
  have c := textP_len f (s := x.deft) (by have := h.deft; omega)
  have d := putN_len f (n := (x.cases.length : Nat)) (by have := h.cases; omega)
  have e := textsP_len (f := f) h.each
  have g := putN_len f h.worth
  have := h.deft
  have := h.cases
  unfold fieldP
  simp only [List.length_append]
  omega
structure OkB (x : LensD) : Prop where
  kind : inI64 x.kind
  scope : inI64 x.at_.scope
  group : x.at_.group.size ≤ 200
  rname : x.at_.name.size ≤ 200
  name : x.name.size ≤ 200
  other : x.other.size ≤ 200
  factor : inI64 x.factor
  field : OkF x.field
  forth : x.forth.length ≤ 20
  feach : ∀ t ∈ x.forth, t.1.size ≤ 200 ∧ t.2.size ≤ 200
  back : x.back.length ≤ 20
  beach : ∀ t ∈ x.back, t.1.size ≤ 200 ∧ t.2.size ≤ 200
theorem pairsP_len {l : List (ByteArray × ByteArray)} (hl : l.length ≤ 20) (h : ∀ t ∈ l, t.1.size ≤ 200 ∧ t.2.size ≤ 200) : (pairsP f l).length ≤ 8410 := by
  have a := pairsB_len (f := f) h
  have b := putN_len f (n := (l.length : Nat)) (by omega)
  unfold pairsP
  rw [List.length_append]
  omega
theorem lensP_len {x : LensD} (h : OkB x) : (lensP f x).length ≤ 30000 := by
  have a := putN_len f h.kind
  have b := refP_len (f := f) h.scope h.group h.rname
  have c := textP_len f (s := x.name) (by have := h.name; omega)
  have d := textP_len f (s := x.other) (by have := h.other; omega)
  have e := putN_len f h.factor
  have g := pairsP_len (f := f) h.forth h.feach
  have i := pairsP_len (f := f) h.back h.beach
  have j := fieldP_len (f := f) h.field
  have := h.name
  have := h.other
  unfold lensP
  simp only [List.length_append]
  split
  · omega
  · simp only [List.length_nil]; omega
theorem textsP_take {l : List ByteArray} {k : Nat} {p : ByteArray} (h : l[k]? = some p) : textsP f (l.take (k + 1)) = textsP f (l.take k) ++ textP f p := by
  unfold textsP
  rw [List.take_add_one, h, List.flatMap_append]; simp
theorem pairsB_take {l : List (ByteArray × ByteArray)} {k : Nat} {p : ByteArray × ByteArray} (h : l[k]? = some p) : pairsB f (l.take (k + 1)) = pairsB f (l.take k) ++ (textP f p.1 ++ textP f p.2) := by
  unfold pairsB
  rw [List.take_add_one, h, List.flatMap_append]; simp [pairP]
theorem textsP_takeL {l : List ByteArray} {k : Nat} (hl : l.length ≤ 20) (h : ∀ t ∈ l, t.size ≤ 200) : (textsP f (l.take k)).length ≤ 4200 := by
  have h1 := textsP_len (f := f) (l := l.take k) fun t ht => h t (List.mem_of_mem_take ht)
  rw [List.length_take] at h1
  omega
theorem pairsB_takeL {l : List (ByteArray × ByteArray)} {k : Nat} (hl : l.length ≤ 20) (h : ∀ t ∈ l, t.1.size ≤ 200 ∧ t.2.size ≤ 200) : (pairsB f (l.take k)).length ≤ 8400 := by
  have h1 := pairsB_len (f := f) (l := l.take k) fun t ht => h t (List.mem_of_mem_take ht)
  rw [List.length_take] at h1
  omega
def oF (g : Option (FieldD × Nat)) : FieldD := g.elim noField (·.1)
def oP (g : Option (List (ByteArray × ByteArray) × Nat)) : List (ByteArray × ByteArray) := g.elim [] (·.1)
def oL (g : Option (LensD × Nat)) : LensD := g.elim noLens (·.1)
theorem textsO_none {n m a : Nat} (h : textsO b f n a = none) (hm : n ≤ m) : textsO b f m a = none := by
  induction m with
  | zero => obtain rfl : n = 0 := by omega
            exact h
  | succ m ih =>
    by_cases e : n = m + 1
    · rw [← e]; exact h
    · rw [textsO, ih (by omega)]
theorem pairLO_none {n m a : Nat} (h : pairLO b f n a = none) (hm : n ≤ m) : pairLO b f m a = none := by
  induction m with
  | zero => obtain rfl : n = 0 := by omega
            exact h
  | succ m ih =>
    by_cases e : n = m + 1
    · rw [← e]; exact h
    · rw [pairLO, ih (by omega)]
theorem rightF_kind {x : FieldD} (h : rightF x = true) : 1 ≤ x.kind ∧ x.kind ≤ 4 := by
  unfold rightF at h
  rw [Bool.and_eq_true] at h
  by_cases h1 : x.kind = 1
  · omega
  · by_cases h2 : x.kind = 2
    · omega
    · by_cases h3 : x.kind = 3
      · omega
      · by_cases h4 : x.kind = 4
        · omega
        · rw [if_neg h1, if_neg h2, if_neg h3, if_neg h4] at h; cases h.2
theorem textsO_next {k a : Nat} {r : List ByteArray × Nat} {t : List UInt8 × Nat} (h : textsO b f k a = some r) (ht : textO b r.2 f 12 = some t) : textsO b f (k + 1) a = some (r.1 ++ [strL t.1], t.2) := by rw [textsO, h]; simp only; rw [ht]
theorem textsO_stop {k a : Nat} {r : List ByteArray × Nat} (h : textsO b f k a = some r) (ht : textO b r.2 f 12 = none) : textsO b f (k + 1) a = none := by rw [textsO, h]; simp only; rw [ht]
theorem pairLO_next {k a : Nat} {r : List (ByteArray × ByteArray) × Nat} {t u : List UInt8 × Nat} (h : pairLO b f k a = some r) (ht : textO b r.2 f 12 = some t) (hu : textO b t.2 f 12 = some u) : pairLO b f (k + 1) a = some (r.1 ++ [(strL t.1, strL u.1)], u.2) := by rw [pairLO, h]; simp only; rw [ht]; simp only; rw [hu]
theorem pairLO_stop {k a : Nat} {r : List (ByteArray × ByteArray) × Nat} (h : pairLO b f k a = some r) (ht : textO b r.2 f 12 = none) : pairLO b f (k + 1) a = none := by rw [pairLO, h]; simp only; rw [ht]
theorem pairLO_stop2 {k a : Nat} {r : List (ByteArray × ByteArray) × Nat} {t : List UInt8 × Nat} (h : pairLO b f k a = some r) (ht : textO b r.2 f 12 = some t) (hu : textO b t.2 f 12 = none) : pairLO b f (k + 1) a = none := by rw [pairLO, h]; simp only; rw [ht]; simp only; rw [hu]
end
end Go.Vm
end
section
namespace Go.Vm
open Go.RowKit Go.Proofs
set_option linter.unusedVariables false
set_option linter.unusedSimpArgs false
set_option maxRecDepth 10000

theorem take_next {α : Type} {l : List α} {k : Nat} {p : α} (hp : l[k]? = some p) : l.take (k + 1) = l.take k ++ [p] := by rw [List.take_add_one, hp]; rfl
theorem snoc_map {α β : Type} {g : α → β} {A : List α} {x : α} : A.map g ++ [g x] = (A ++ [x]).map g := by simp
theorem one_map {α β : Type} {g : α → β} {x : α} : [g x] = [x].map g := rfl
theorem fD_wide {f : FieldD} : ∀ x ∈ [fD f], x.cells.length = 7 := by intro x hx; rw [List.mem_singleton.1 hx]; rfl
theorem filter_next {l : List FieldD} {r : RefD} {k : Nat} {p : FieldD} (hp : l[k]? = some p) : delF (l.take (k + 1)) r = delF (l.take k) r ++ (if p.at_ = r then [] else [p]) := by
  unfold delF
  rw [take_next hp, List.filter_append]
  by_cases e : p.at_ = r <;> simp [e]
theorem length_take_le {α : Type} {l : List α} {k n : Nat} (h : l.length ≤ n) : (l.take k).length ≤ n := by rw [List.length_take]; omega
theorem length_del_le {l : List FieldD} {r : RefD} {k n : Nat} (h : l.length ≤ n) : (delF (l.take k) r).length ≤ n := by
  have := List.length_filter_le (fun f => !decide (f.at_ = r)) (l.take k)
  have h2 := length_take_le (k := k) h
  unfold delF; omega
theorem find_no {l : List FieldD} {r : RefD} (h : indexS l r < 0) : findS l r = (noField, 6) := by unfold findS; rw [if_pos h]
theorem find_yes {l : List FieldD} {r : RefD} (h : ¬ indexS l r < 0) : findS l r = (fieldAt l r, 0) := by unfold findS; rw [if_neg h]
theorem fieldAt_ix {l : List FieldD} {r : RefD} (h : ¬ indexS l r < 0) : (l.map fD)[(indexS l r).toNat]? = some (fD (fieldAt l r)) := by
  rcases indexS_cases l r with ⟨h', _⟩ | ⟨k, p, h', hp, e, _⟩
  · omega
  · unfold fieldAt; rw [h', Int.toNat_natCast, hp, List.getElem?_map, hp]; rfl
theorem fieldAt_ok {l : List FieldD} {r : RefD} (ho : okL l) (h : ¬ indexS l r < 0) : (fieldAt l r).cases.length ≤ 1000000 := ho.2 _ (fieldAt_spec h).1
theorem index_bound {l : List FieldD} {r : RefD} : indexS l r < l.length := by
  rcases indexS_cases l r with ⟨h', _⟩ | ⟨k, p, h', hp, e, _⟩
  · omega
  · have := lt_len hp; omega
theorem pr_add1 {P : Program} {t : TypeId} {x y : Operand} {n : Nat} (h : n + 1 ≤ 9223372036854775807) : pureRun P (do eqGuard .add t x y (.int .i64 (n : Int)) (.int .i64 1); binOp .add t (.int .i64 (n : Int)) (.int .i64 1) : Sem Value) = some (.int .i64 ((n + 1 : Nat) : Int)) := pr_add (wrap64 _ (by omega))
theorem pr_sub1 {P : Program} {t : TypeId} {x y : Operand} {n : Nat} (h : 1 ≤ n) (h2 : n ≤ 9223372036854775807) : pureRun P (do eqGuard .sub t x y (.int .i64 (n : Int)) (.int .i64 1); binOp .sub t (.int .i64 (n : Int)) (.int .i64 1) : Sem Value) = some (.int .i64 ((n - 1 : Nat) : Int)) := pr_sub (by rw [wrap64 _ (by omega)]; omega)
theorem same_next {l m : List FieldD} {p q : FieldD} {k : Nat} (hp : l[k]? = some p) (hq : m[k]? = some q) (h : l.take k = m.take k) (hn : p = q) : l.take (k + 1) = m.take (k + 1) := take_eq_next hp hq h hn
/-- The place at which an index stands is the one that goes. -/
theorem gone_iff {l : List FieldD} {r : RefD} (hr : rightS l = true) (h : ¬ indexS l r < 0) {k : Nat} {p : FieldD} (hp : l[k]? = some p) : (((k : Nat) : Int) = indexS l r) ↔ p.at_ = r := by
  rcases indexS_cases l r with ⟨h', _⟩ | ⟨j, q, h', hq, e, _⟩
  · omega
  · rw [h']
    constructor
    · intro h; obtain rfl : k = j := by omega
      rw [hp] at hq; injection hq with hq; rw [hq]; exact e
    · intro h; have := rightS_uniq hr hp hq (h.trans e.symm); omega
theorem row_inj {a b : List D} (h : a = b) : D.row a = D.row b := by rw [h]

set_option maxHeartbeats 1000000 in
theorem schemaRight_any (l : List FieldD) (ho : okL l) : Contract Tryz.prog 144 [.row (l.map fD)] [.d (.sc (.bool (rightS l)))] := by
 refine T.fn [] Tryz.func144 ?_
 refine x_len ?_
 refine br (fun hc1 => ?y1) (fun hc1 => ?n1)
 case' n1 =>
  have h16 : l.length ≤ 16 := by omega
  refine x_len ?_
  refine xloopR (fb := []) T.ok (Nat.le_of_ble_eq_true rfl) [0, 8, 9] (fun (k : Nat) => [(10, .c (.d (.sc (.int .i64 (k : Nat)))))]) (fun k => k ≤ l.length ∧ okSk l k = true ∧ l.length ≤ 16) (fun k => l.length - k) 0 ⟨Nat.zero_le _, ⟨okSk_zero l, h16⟩⟩ (x_ent (by first | rfl | (simp only [Tr.get]; simp; done)) trivial) ?_
  rintro k ⟨hk, hi⟩
  refine br (fun hc2 => ?y2) (fun hc2 => ?n2)
  case' y2 =>
   obtain ⟨p, hp⟩ := elem_at hc2
   have hkl := lt_len hp
   obtain ⟨q, hq⟩ := prev_at hp
   have hok := ho.at hp
   first | refine x_ix (by first | exact mapAt hp | exact map_prev' hq (by omega)) ?_ | refine x_ixI (by first | exact mapAt hp | exact map_prev' hq (by omega)) ?_
   refine x_call T.en_79 (fieldRight_any p hok) ?_
   refine br (fun hc3 => ?y3) (fun hc3 => ?n3)
   case' n3 =>
    refine And.intro ⟨T.mixed, by decide +kernel⟩ ?_
    refine br (fun hg4 => ?y4) (fun hg4 => ?n4)
    case' y4 =>
     have hk0 : 0 < k := by omega
     first | refine x_sub ?_ | refine x_bin rfl rfl ?_
     first | refine x_ix (by first | exact mapAt hp | exact map_prev' hq (by omega)) ?_ | refine x_ixI (by first | exact mapAt hp | exact map_prev' hq (by omega)) ?_
     refine x_call T.en_162 (less_any _ _) ?_
     refine br (fun hc5 => ?y5) (fun hc5 => ?n5)
     case' n5 =>
      first | refine x_inc ?_ | refine x_add ?_ | refine x_bin rfl rfl ?_
      refine x_rnd (k + 1) ⟨lt_len hp, (by first | (refine okSk_next hp hq hi.1 ?_ ?_ <;> simp_all; done) | (have h0 : k = 0 := (by omega); subst h0; exact okSk_first hp hi.1 (by simp_all))), hi.2⟩ (by (try dsimp only); have := lt_len hp; omega) rfl (x_ent (by first | rfl | (simp only [Tr.get]; simp; done)) trivial) rfl
    case' n4 =>
     refine brF ?_
     first | refine x_inc ?_ | refine x_add ?_ | refine x_bin rfl rfl ?_
     refine x_rnd (k + 1) ⟨lt_len hp, (by first | (refine okSk_next hp hq hi.1 ?_ ?_ <;> simp_all; done) | (have h0 : k = 0 := (by omega); subst h0; exact okSk_first hp hi.1 (by simp_all))), hi.2⟩ (by (try dsimp only); have := lt_len hp; omega) rfl (x_ent (by first | rfl | (simp only [Tr.get]; simp; done)) trivial) rfl
 all_goals (refine x_ret ?_; simp only [fitsL, fits, C.asD, and_true] <;> (refine scb ?_; first | (refine (rightS_long ?_).symm; omega; done) | (refine (rightS_no hp ?_).symm; simp_all; done) | (refine (rightS_un hp hq ?_ ?_).symm <;> first | omega | (simp_all; done)) | exact (rightS_yes hi.2 (past_end (by assumption)) hi.1).symm))

set_option maxHeartbeats 1000000 in
theorem refSchemaRight_any (l : List FieldD) (ho : okL l) : Contract Tryz.prog 109 [.row (l.map fD)] [.d (.sc (.bool (rightS l)))] := by
 refine T.fn [] Tryz.func109 ?_
 refine x_len ?_
 refine br (fun hc1 => ?y1) (fun hc1 => ?n1)
 case' n1 =>
  have h16 : l.length ≤ 16 := by omega
  refine xloopR (fb := []) T.ok (Nat.le_of_ble_eq_true rfl) [0] (fun (k : Nat) => [(3, .c (.d (.sc (.int .i64 (k : Nat)))))]) (fun k => k ≤ l.length ∧ okSk l k = true ∧ l.length ≤ 16) (fun k => l.length - k) 0 ⟨Nat.zero_le _, ⟨okSk_zero l, h16⟩⟩ (x_ent (by first | rfl | (simp only [Tr.get]; simp; done)) trivial) ?_
  rintro k ⟨hk, hi⟩
  refine x_len ?_
  refine br (fun hc2 => ?y2) (fun hc2 => ?n2)
  case' y2 =>
   obtain ⟨p, hp⟩ := elem_at hc2
   have hkl := lt_len hp
   obtain ⟨q, hq⟩ := prev_at hp
   have hok := ho.at hp
   refine And.intro ⟨T.mixed, by decide +kernel⟩ ?_
   first | refine x_ix (by first | exact mapAt hp | exact map_prev' hq (by omega)) ?_ | refine x_ixI (by first | exact mapAt hp | exact map_prev' hq (by omega)) ?_
   refine x_call T.en_86 (refFieldRight_any p hok) ?_
   refine br (fun hg3 => ?y3) (fun hg3 => ?n3)
   case' y3 =>
    refine brT ?_
   case' n3 =>
    refine br (fun hg5 => ?y5) (fun hg5 => ?n5)
    case' y5 =>
     have hk0 : 0 < k := by omega
     first | refine x_sub ?_ | refine x_bin rfl rfl ?_
     first | refine x_ix (by first | exact mapAt hp | exact map_prev' hq (by omega)) ?_ | refine x_ixI (by first | exact mapAt hp | exact map_prev' hq (by omega)) ?_
     first | refine x_ix (by first | exact mapAt hp | exact map_prev' hq (by omega)) ?_ | refine x_ixI (by first | exact mapAt hp | exact map_prev' hq (by omega)) ?_
     refine x_call T.en_139 (refLess_any _ _) ?_
     refine br (fun hc6 => ?y6) (fun hc6 => ?n6)
     case' n6 =>
      first | refine x_inc ?_ | refine x_add ?_ | refine x_bin rfl rfl ?_
      refine x_rnd (k + 1) ⟨lt_len hp, (by first | (refine okSk_next hp hq hi.1 ?_ ?_ <;> simp_all; done) | (have h0 : k = 0 := (by omega); subst h0; exact okSk_first hp hi.1 (by simp_all))), hi.2⟩ (by (try dsimp only); have := lt_len hp; omega) rfl (x_ent (by first | rfl | (simp only [Tr.get]; simp; done)) trivial) rfl
    case' n5 =>
     refine brF ?_
     first | refine x_inc ?_ | refine x_add ?_ | refine x_bin rfl rfl ?_
     refine x_rnd (k + 1) ⟨lt_len hp, (by first | (refine okSk_next hp hq hi.1 ?_ ?_ <;> simp_all; done) | (have h0 : k = 0 := (by omega); subst h0; exact okSk_first hp hi.1 (by simp_all))), hi.2⟩ (by (try dsimp only); have := lt_len hp; omega) rfl (x_ent (by first | rfl | (simp only [Tr.get]; simp; done)) trivial) rfl
 all_goals (refine x_ret ?_; simp only [fitsL, fits, C.asD, and_true] <;> (refine scb ?_; first | (refine (rightS_long ?_).symm; omega; done) | (refine (rightS_no hp ?_).symm; simp_all; done) | (refine (rightS_un hp hq ?_ ?_).symm <;> first | omega | (simp_all; done)) | exact (rightS_yes hi.2 (past_end (by assumption)) hi.1).symm))

set_option maxHeartbeats 1000000 in
theorem schemaIndex_any (l : List FieldD) (r : RefD) (hl : l.length ≤ 1000) : Contract Tryz.prog 168 [.row (l.map fD), rD r] [.d (.sc (.int .i64 (indexS l r)))] := by
 refine T.fn [] Tryz.func168 ?_
 refine x_len ?_
 refine xloopR (fb := []) T.ok (Nat.le_of_ble_eq_true rfl) [3, 7, 8] (fun (k : Nat) => [(9, .c (.d (.sc (.int .i64 (k : Nat)))))]) (fun k => k ≤ l.length ∧ ∀ j q, j < k → l[j]? = some q → ¬ q.at_ = r) (fun k => l.length - k) 0 ⟨Nat.zero_le _, fun j q hj => absurd hj (Nat.not_lt_zero _)⟩ (x_ent (by first | rfl | (simp only [Tr.get]; simp; done)) trivial) ?_
 rintro k ⟨hk, hi⟩
 refine br (fun hc1 => ?y1) (fun hc1 => ?n1)
 case' y1 =>
  obtain ⟨p, hp⟩ := elem_at hc1
  have hkl := lt_len hp
  first | refine x_ix (by exact mapAt hp) ?_ | refine x_ixI (by exact mapAt hp) ?_
  first | refine xeq_25e _ _ ?_ | refine xeq_25e _ noRef ?_ | refine xeq_25e noRef _ ?_
  refine br (fun hc2 => ?y2) (fun hc2 => ?n2)
  case' n2 =>
   first | refine x_inc ?_ | refine x_add ?_ | refine x_bin rfl rfl ?_
   refine x_rnd (k + 1) ⟨lt_len hp, none_next hp hi (by assumption)⟩ (by (try dsimp only); have := lt_len hp; omega) rfl (x_ent (by first | rfl | (simp only [Tr.get]; simp; done)) trivial) rfl
 all_goals (refine x_ret ?_; simp only [fitsL, fits, C.asD, and_true] <;> (first | (rw [indexS_hit hp hi (by assumption)]) | (rw [indexS_miss (past_end (by assumption)) hi])))

set_option maxHeartbeats 1000000 in
theorem refSchemaAt_any (l : List FieldD) (r : RefD) (hl : l.length ≤ 1000) : Contract Tryz.prog 111 [.row (l.map fD), rD r] [.d (.sc (.int .i64 (indexS l r)))] := by
 refine T.fn [] Tryz.func111 ?_
 refine xloopR (fb := []) T.ok (Nat.le_of_ble_eq_true rfl) [0, 3] (fun (k : Nat) => [(5, .c (.d (.sc (.int .i64 (k : Nat)))))]) (fun k => k ≤ l.length ∧ ∀ j q, j < k → l[j]? = some q → ¬ q.at_ = r) (fun k => l.length - k) 0 ⟨Nat.zero_le _, fun j q hj => absurd hj (Nat.not_lt_zero _)⟩ (x_ent (by first | rfl | (simp only [Tr.get]; simp; done)) trivial) ?_
 rintro k ⟨hk, hi⟩
 refine x_len ?_
 refine br (fun hc1 => ?y1) (fun hc1 => ?n1)
 case' y1 =>
  obtain ⟨p, hp⟩ := elem_at hc1
  have hkl := lt_len hp
  refine And.intro ⟨T.mixed, by decide +kernel⟩ ?_
  first | refine x_ix (by exact mapAt hp) ?_ | refine x_ixI (by exact mapAt hp) ?_
  first | refine xeq_25e _ _ ?_ | refine xeq_25e _ noRef ?_ | refine xeq_25e noRef _ ?_
  refine br (fun hc2 => ?y2) (fun hc2 => ?n2)
  case' n2 =>
   first | refine x_inc ?_ | refine x_add ?_ | refine x_bin rfl rfl ?_
   refine x_rnd (k + 1) ⟨lt_len hp, none_next hp hi (by assumption)⟩ (by (try dsimp only); have := lt_len hp; omega) rfl (x_ent (by first | rfl | (simp only [Tr.get]; simp; done)) trivial) rfl
 all_goals (refine x_ret ?_; simp only [fitsL, fits, C.asD, and_true] <;> (first | (rw [indexS_hit hp hi (by assumption)]) | (rw [indexS_miss (past_end (by assumption)) hi])))

set_option maxHeartbeats 1000000 in
theorem refSchemaSame_any (l m : List FieldD) (hl : okL l) : Contract Tryz.prog 27 [.row (l.map fD), .row (m.map fD)] [.d (.sc (.bool (decide (l = m))))] := by
 refine T.fn [] Tryz.func27 ?_
 have hll := hl.1
 have hml : m.length ≤ 1000 ∨ ¬ m.length ≤ 1000 := by omega
 refine x_len ?_
 refine x_len ?_
 refine br (fun hc1 => ?y1) (fun hc1 => ?n1)
 case' n1 =>
  have hlen : l.length = m.length := by omega
  refine xloopR (fb := []) T.ok (Nat.le_of_ble_eq_true rfl) [0, 1] (fun (k : Nat) => [(5, .c (.d (.sc (.int .i64 (k : Nat)))))]) (fun k => k ≤ l.length ∧ l.take k = m.take k) (fun k => l.length - k) 0 ⟨Nat.zero_le _, rfl⟩ (x_ent (by first | rfl | (simp only [Tr.get]; simp; done)) trivial) ?_
  rintro k ⟨hk, hi⟩
  refine x_len ?_
  refine br (fun hc2 => ?y2) (fun hc2 => ?n2)
  case' y2 =>
   obtain ⟨p, hp⟩ := elem_at hc2
   have hkl := lt_len hp
   obtain ⟨q, hq⟩ := elem_too hp hlen
   have hok := hl.at hp
   refine And.intro ⟨T.mixed, by decide +kernel⟩ ?_
   first | refine x_ix (by first | exact mapAt hp | exact mapAt hq) ?_ | refine x_ixI (by first | exact mapAt hp | exact mapAt hq) ?_
   first | refine x_ix (by first | exact mapAt hp | exact mapAt hq) ?_ | refine x_ixI (by first | exact mapAt hp | exact mapAt hq) ?_
   refine x_call T.en_65 (refFieldSame_any p q hok) ?_
   refine br (fun hc3 => ?y3) (fun hc3 => ?n3)
   case' n3 =>
    first | refine x_inc ?_ | refine x_add ?_ | refine x_bin rfl rfl ?_
    refine x_rnd (k + 1) ⟨lt_len hp, take_eq_next hp hq hi (by simp_all)⟩ (by (try dsimp only); have := lt_len hp; omega) rfl (x_ent (by first | rfl | (simp only [Tr.get]; simp; done)) trivial) rfl
 all_goals (refine x_ret ?_; simp only [fitsL, fits, C.asD, and_true] <;> (refine scb ?_; first | exact (decide_eq_false (fun e => by simp_all)).symm | exact (decide_eq_false (ne_at hp hq (fun e => by simp_all))).symm | exact (decide_eq_true (take_eq_end hlen (past_end (by assumption)) hi)).symm))
end Go.Vm
end
