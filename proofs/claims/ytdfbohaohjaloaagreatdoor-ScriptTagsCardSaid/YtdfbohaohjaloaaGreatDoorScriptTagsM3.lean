/- Part 3 of what the proof of ScriptTags stands on: Tt, LnName, LnPlace, LnEq, LnTexts, LnField, LnSchemaP, LnLensP, LnSchema, LnSchema2, LnSchema3, LnHeavy, LnKeepP, LnLens2P, LnTables, LnLensS, LnLens, LnLens2, LnLens3, LnMerged, LnArr, LnApply, LnApplyR, Xg9, TrPlain, OpP, TrSettleP, TrSortP, TrRefP, XgU, XgS, FgM, SkA, NamePlain, NameSign, NameQuoted, NameScan, NameSplit, NameLaw, NameRef, NameBegins, NameRefSplit, NameSame, NameOk, NameText, NameQuote, NameQuoteP, NameScans, NameJoin, NumPlain, NumLaw, CdP, PnP, PtP. -/
import Derived.KernelRfl
import Derived.Laws.IdiomStrings
import Derived.Lib.Join
import Derived.Lib.SplitLaws
import Derived.Lib.CutLaws
import Derived.Lib.IndexBytes
import Derived.Deep.QuietTactic
import Derived.BigQuiet
import Derived.Lib.SmallJoins
import Derived.StillTailTactics
import Derived.Outline
import Derived.Deep.RegionHeld3
import Derived.Deep.AppendLies
import GoSem.Op.String
import Derived.Test.YtdfbohaohjaloaaGreatDoorScriptTagsM2
set_option linter.unusedVariables false
set_option linter.unusedSimpArgs false
set_option maxHeartbeats 1000000
section
namespace Go.Vm.T
open Go.RowKit
theorem k_1 : tyOk Go.Proofs.Tryz.prog 1 (.one [.sc .nilFunc]) := ⟨by kernel_rfl, by kernel_rfl⟩
theorem k_2 : tyOk Go.Proofs.Tryz.prog 2 (.one [.sc (.int .i64 0)]) := ⟨by kernel_rfl, by kernel_rfl⟩
theorem k_3 : tyOk Go.Proofs.Tryz.prog 3 (.one [.sc (.int .i64 0)]) := ⟨by kernel_rfl, by kernel_rfl⟩
theorem k_4 : tyOk Go.Proofs.Tryz.prog 4 (.one [.sc (.bool false)]) := ⟨by kernel_rfl, by kernel_rfl⟩
theorem k_5 : tyOk Go.Proofs.Tryz.prog 5 (.one [.sc (.int .u8 0)]) := ⟨by kernel_rfl, by kernel_rfl⟩
theorem k_6 : tyOk Go.Proofs.Tryz.prog 6 (.one [.sc (.int .u8 0)]) := ⟨by kernel_rfl, by kernel_rfl⟩
theorem k_7 : tyOk Go.Proofs.Tryz.prog 7 (.agg [(0, 1), (1, 1), (2, 1), (3, 1)] [.sc (.int .i64 0), .sc (.int .i64 0), .sc (.bool false), .sc (.int .u8 0)]) := ⟨by kernel_rfl, by kernel_rfl, by kernel_rfl⟩
theorem k_8 : tyOk Go.Proofs.Tryz.prog 8 (.agg [(0, 1), (1, 1), (2, 1), (3, 1)] [.sc (.int .i64 0), .sc (.int .i64 0), .sc (.bool false), .sc (.int .u8 0)]) := ⟨by kernel_rfl, by kernel_rfl, by kernel_rfl⟩
theorem k_9 : tyOk Go.Proofs.Tryz.prog 9 (.str) := ⟨by kernel_rfl, by kernel_rfl, by kernel_rfl⟩
theorem k_10 : tyOk Go.Proofs.Tryz.prog 10 (.str) := ⟨by kernel_rfl, by kernel_rfl, by kernel_rfl⟩
theorem k_11 : tyOk Go.Proofs.Tryz.prog 11 (.str) := ⟨by kernel_rfl, by kernel_rfl, by kernel_rfl⟩
theorem k_12 : tyOk Go.Proofs.Tryz.prog 12 (.one [.sc (.int .u64 0)]) := ⟨by kernel_rfl, by kernel_rfl⟩
theorem k_13 : tyOk Go.Proofs.Tryz.prog 13 (.agg [(0, 1), (1, 1)] [.sc (.string ⟨#[]⟩), .sc (.int .u64 0)]) := ⟨by kernel_rfl, by kernel_rfl, by kernel_rfl⟩
theorem k_14 : tyOk Go.Proofs.Tryz.prog 14 (.agg [(0, 1), (1, 1)] [.sc (.string ⟨#[]⟩), .sc (.int .u64 0)]) := ⟨by kernel_rfl, by kernel_rfl, by kernel_rfl⟩
theorem k_15 : tyOk Go.Proofs.Tryz.prog 15 (.one [.sc (.pointer none)]) := ⟨by kernel_rfl, by kernel_rfl⟩
theorem k_16 : tyOk Go.Proofs.Tryz.prog 16 (.one [.sc (.pointer none)]) := ⟨by kernel_rfl, by kernel_rfl⟩
theorem k_17 : tyOk Go.Proofs.Tryz.prog 17 (.one [.sc (.pointer none)]) := ⟨by kernel_rfl, by kernel_rfl⟩
theorem k_18 : tyOk Go.Proofs.Tryz.prog 18 (.agg [(0, 1)] [.sc (.pointer none)]) := ⟨by kernel_rfl, by kernel_rfl, by kernel_rfl⟩
theorem k_19 : tyOk Go.Proofs.Tryz.prog 19 (.agg [(0, 1)] [.sc (.pointer none)]) := ⟨by kernel_rfl, by kernel_rfl, by kernel_rfl⟩
theorem k_21 : tyOk Go.Proofs.Tryz.prog 21 (.one [.sc (.int .i32 0)]) := ⟨by kernel_rfl, by kernel_rfl⟩
theorem k_22 : tyOk Go.Proofs.Tryz.prog 22 (.agg [(0, 1), (1, 1)] [.sc (.int .i64 0), .sc (.int .i64 0)]) := ⟨by kernel_rfl, by kernel_rfl, by kernel_rfl⟩
theorem k_23 : tyOk Go.Proofs.Tryz.prog 23 (.agg [(0, 1), (1, 1)] [.sc (.int .i64 0), .sc (.int .i64 0)]) := ⟨by kernel_rfl, by kernel_rfl, by kernel_rfl⟩
theorem k_24 : tyOk Go.Proofs.Tryz.prog 24 (.one [.sc .nilFunc]) := ⟨by kernel_rfl, by kernel_rfl⟩
theorem k_25 : tyOk Go.Proofs.Tryz.prog 25 (.one [.sc (.int .i64 0)]) := ⟨by kernel_rfl, by kernel_rfl⟩
theorem k_27 : tyOk Go.Proofs.Tryz.prog 27 (.one [.sc .nilFunc]) := ⟨by kernel_rfl, by kernel_rfl⟩
theorem k_28 : tyOk Go.Proofs.Tryz.prog 28 (.one [.sc .nilFunc]) := ⟨by kernel_rfl, by kernel_rfl⟩
theorem k_30 : tyOk Go.Proofs.Tryz.prog 30 (.one [.sc .nilFunc]) := ⟨by kernel_rfl, by kernel_rfl⟩
theorem k_31 : tyOk Go.Proofs.Tryz.prog 31 (.one [.sc .nilFunc]) := ⟨by kernel_rfl, by kernel_rfl⟩
theorem k_32 : tyOk Go.Proofs.Tryz.prog 32 (.one [.sc (.pointer none)]) := ⟨by kernel_rfl, by kernel_rfl⟩
theorem k_33 : tyOk Go.Proofs.Tryz.prog 33 (.one [.sc .nilFunc]) := ⟨by kernel_rfl, by kernel_rfl⟩
theorem k_34 : tyOk Go.Proofs.Tryz.prog 34 (.slice 9 1 16) := ⟨by kernel_rfl, by kernel_rfl, by kernel_rfl, by kernel_rfl⟩
theorem k_35 : tyOk Go.Proofs.Tryz.prog 35 (.one [.sc .nilFunc]) := ⟨by kernel_rfl, by kernel_rfl⟩
theorem k_36 : tyOk Go.Proofs.Tryz.prog 36 (.one [.sc .nilFunc]) := ⟨by kernel_rfl, by kernel_rfl⟩
theorem k_37 : tyOk Go.Proofs.Tryz.prog 37 (.agg [(0, 1), (1, 1), (2, 1)] [.sc (.int .i64 0), .sc (.string ⟨#[]⟩), .sc (.string ⟨#[]⟩)]) := ⟨by kernel_rfl, by kernel_rfl, by kernel_rfl⟩
theorem k_38 : tyOk Go.Proofs.Tryz.prog 38 (.agg [(0, 1), (1, 1), (2, 1)] [.sc (.int .i64 0), .sc (.string ⟨#[]⟩), .sc (.string ⟨#[]⟩)]) := ⟨by kernel_rfl, by kernel_rfl, by kernel_rfl⟩
theorem k_39 : tyOk Go.Proofs.Tryz.prog 39 (.agg [(0, 3), (3, 1), (4, 1), (5, 1), (6, 1)] [.sc (.int .i64 0), .sc (.string ⟨#[]⟩), .sc (.string ⟨#[]⟩), .sc (.int .i64 0), .sc (.string ⟨#[]⟩), .row [], .sc (.int .i64 0)]) := ⟨by kernel_rfl, by kernel_rfl, by kernel_rfl⟩
theorem k_40 : tyOk Go.Proofs.Tryz.prog 40 (.agg [(0, 3), (3, 1), (4, 1), (5, 1), (6, 1)] [.sc (.int .i64 0), .sc (.string ⟨#[]⟩), .sc (.string ⟨#[]⟩), .sc (.int .i64 0), .sc (.string ⟨#[]⟩), .row [], .sc (.int .i64 0)]) := ⟨by kernel_rfl, by kernel_rfl, by kernel_rfl⟩
theorem k_41 : tyOk Go.Proofs.Tryz.prog 41 (.slice 172 2 32) := ⟨by kernel_rfl, by kernel_rfl, by kernel_rfl, by kernel_rfl⟩
theorem k_42 : tyOk Go.Proofs.Tryz.prog 42 (.agg [(0, 1), (1, 3), (4, 1), (5, 1), (6, 1), (7, 7), (14, 1), (15, 1)] [.sc (.int .i64 0), .sc (.int .i64 0), .sc (.string ⟨#[]⟩), .sc (.string ⟨#[]⟩), .sc (.string ⟨#[]⟩), .sc (.string ⟨#[]⟩), .sc (.int .i64 0), .sc (.int .i64 0), .sc (.string ⟨#[]⟩), .sc (.string ⟨#[]⟩), .sc (.int .i64 0), .sc (.string ⟨#[]⟩), .row [], .sc (.int .i64 0), .row [], .row []]) := ⟨by kernel_rfl, by kernel_rfl, by kernel_rfl⟩
theorem k_43 : tyOk Go.Proofs.Tryz.prog 43 (.agg [(0, 1), (1, 3), (4, 1), (5, 1), (6, 1), (7, 7), (14, 1), (15, 1)] [.sc (.int .i64 0), .sc (.int .i64 0), .sc (.string ⟨#[]⟩), .sc (.string ⟨#[]⟩), .sc (.string ⟨#[]⟩), .sc (.string ⟨#[]⟩), .sc (.int .i64 0), .sc (.int .i64 0), .sc (.string ⟨#[]⟩), .sc (.string ⟨#[]⟩), .sc (.int .i64 0), .sc (.string ⟨#[]⟩), .row [], .sc (.int .i64 0), .row [], .row []]) := ⟨by kernel_rfl, by kernel_rfl, by kernel_rfl⟩
theorem k_44 : tyOk Go.Proofs.Tryz.prog 44 (.agg [(0, 1), (1, 1), (2, 1), (3, 3), (6, 1), (7, 1), (8, 2), (10, 16)] [.sc (.int .i64 0), .sc (.string ⟨#[]⟩), .sc (.string ⟨#[]⟩), .sc (.int .i64 0), .sc (.string ⟨#[]⟩), .sc (.string ⟨#[]⟩), .sc (.int .i64 0), .sc (.string ⟨#[]⟩), .sc (.int .i64 0), .sc (.int .i64 0), .sc (.int .i64 0), .sc (.int .i64 0), .sc (.string ⟨#[]⟩), .sc (.string ⟨#[]⟩), .sc (.string ⟨#[]⟩), .sc (.string ⟨#[]⟩), .sc (.int .i64 0), .sc (.int .i64 0), .sc (.string ⟨#[]⟩), .sc (.string ⟨#[]⟩), .sc (.int .i64 0), .sc (.string ⟨#[]⟩), .row [], .sc (.int .i64 0), .row [], .row []]) := ⟨by kernel_rfl, by kernel_rfl, by kernel_rfl⟩
theorem k_45 : tyOk Go.Proofs.Tryz.prog 45 (.agg [(0, 1), (1, 1), (2, 1), (3, 3), (6, 1), (7, 1), (8, 2), (10, 16)] [.sc (.int .i64 0), .sc (.string ⟨#[]⟩), .sc (.string ⟨#[]⟩), .sc (.int .i64 0), .sc (.string ⟨#[]⟩), .sc (.string ⟨#[]⟩), .sc (.int .i64 0), .sc (.string ⟨#[]⟩), .sc (.int .i64 0), .sc (.int .i64 0), .sc (.int .i64 0), .sc (.int .i64 0), .sc (.string ⟨#[]⟩), .sc (.string ⟨#[]⟩), .sc (.string ⟨#[]⟩), .sc (.string ⟨#[]⟩), .sc (.int .i64 0), .sc (.int .i64 0), .sc (.string ⟨#[]⟩), .sc (.string ⟨#[]⟩), .sc (.int .i64 0), .sc (.string ⟨#[]⟩), .row [], .sc (.int .i64 0), .row [], .row []]) := ⟨by kernel_rfl, by kernel_rfl, by kernel_rfl⟩
theorem k_46 : tyOk Go.Proofs.Tryz.prog 46 (.agg [(0, 1), (1, 1), (2, 1), (3, 1), (4, 1), (5, 1), (6, 1), (7, 26)] [.sc (.int .i64 0), .sc (.int .i64 0), .sc (.int .i64 0), .sc (.int .i64 0), .sc (.int .i64 0), .sc (.int .i64 0), .sc (.int .i64 0), .sc (.int .i64 0), .sc (.string ⟨#[]⟩), .sc (.string ⟨#[]⟩), .sc (.int .i64 0), .sc (.string ⟨#[]⟩), .sc (.string ⟨#[]⟩), .sc (.int .i64 0), .sc (.string ⟨#[]⟩), .sc (.int .i64 0), .sc (.int .i64 0), .sc (.int .i64 0), .sc (.int .i64 0), .sc (.string ⟨#[]⟩), .sc (.string ⟨#[]⟩), .sc (.string ⟨#[]⟩), .sc (.string ⟨#[]⟩), .sc (.int .i64 0), .sc (.int .i64 0), .sc (.string ⟨#[]⟩), .sc (.string ⟨#[]⟩), .sc (.int .i64 0), .sc (.string ⟨#[]⟩), .row [], .sc (.int .i64 0), .row [], .row []]) := ⟨by kernel_rfl, by kernel_rfl, by kernel_rfl⟩
theorem k_47 : tyOk Go.Proofs.Tryz.prog 47 (.agg [(0, 1), (1, 1), (2, 1), (3, 1), (4, 1), (5, 1), (6, 1), (7, 26)] [.sc (.int .i64 0), .sc (.int .i64 0), .sc (.int .i64 0), .sc (.int .i64 0), .sc (.int .i64 0), .sc (.int .i64 0), .sc (.int .i64 0), .sc (.int .i64 0), .sc (.string ⟨#[]⟩), .sc (.string ⟨#[]⟩), .sc (.int .i64 0), .sc (.string ⟨#[]⟩), .sc (.string ⟨#[]⟩), .sc (.int .i64 0), .sc (.string ⟨#[]⟩), .sc (.int .i64 0), .sc (.int .i64 0), .sc (.int .i64 0), .sc (.int .i64 0), .sc (.string ⟨#[]⟩), .sc (.string ⟨#[]⟩), .sc (.string ⟨#[]⟩), .sc (.string ⟨#[]⟩), .sc (.int .i64 0), .sc (.int .i64 0), .sc (.string ⟨#[]⟩), .sc (.string ⟨#[]⟩), .sc (.int .i64 0), .sc (.string ⟨#[]⟩), .row [], .sc (.int .i64 0), .row [], .row []]) := ⟨by kernel_rfl, by kernel_rfl, by kernel_rfl⟩
theorem k_49 : tyOk Go.Proofs.Tryz.prog 49 (.one [.sc .nilFunc]) := ⟨by kernel_rfl, by kernel_rfl⟩
theorem k_50 : tyOk Go.Proofs.Tryz.prog 50 (.one [.sc .nilFunc]) := ⟨by kernel_rfl, by kernel_rfl⟩
theorem k_51 : tyOk Go.Proofs.Tryz.prog 51 (.one [.sc .nilFunc]) := ⟨by kernel_rfl, by kernel_rfl⟩
theorem k_53 : tyOk Go.Proofs.Tryz.prog 53 (.one [.sc .nilFunc]) := ⟨by kernel_rfl, by kernel_rfl⟩
theorem k_54 : tyOk Go.Proofs.Tryz.prog 54 (.one [.sc .nilFunc]) := ⟨by kernel_rfl, by kernel_rfl⟩
theorem k_56 : tyOk Go.Proofs.Tryz.prog 56 (.one [.sc .nilFunc]) := ⟨by kernel_rfl, by kernel_rfl⟩
theorem k_57 : tyOk Go.Proofs.Tryz.prog 57 (.one [.sc .nilFunc]) := ⟨by kernel_rfl, by kernel_rfl⟩
theorem k_58 : tyOk Go.Proofs.Tryz.prog 58 (.one [.sc .nilFunc]) := ⟨by kernel_rfl, by kernel_rfl⟩
theorem k_59 : tyOk Go.Proofs.Tryz.prog 59 (.one [.sc .nilFunc]) := ⟨by kernel_rfl, by kernel_rfl⟩
theorem k_61 : tyOk Go.Proofs.Tryz.prog 61 (.one [.sc .nilFunc]) := ⟨by kernel_rfl, by kernel_rfl⟩
theorem k_63 : tyOk Go.Proofs.Tryz.prog 63 (.one [.sc .nilFunc]) := ⟨by kernel_rfl, by kernel_rfl⟩
theorem k_64 : tyOk Go.Proofs.Tryz.prog 64 (.one [.sc .nilFunc]) := ⟨by kernel_rfl, by kernel_rfl⟩
theorem k_66 : tyOk Go.Proofs.Tryz.prog 66 (.one [.sc .nilFunc]) := ⟨by kernel_rfl, by kernel_rfl⟩
theorem k_67 : tyOk Go.Proofs.Tryz.prog 67 (.one [.sc .nilFunc]) := ⟨by kernel_rfl, by kernel_rfl⟩
theorem k_68 : tyOk Go.Proofs.Tryz.prog 68 (.slice 146 5 72) := ⟨by kernel_rfl, by kernel_rfl, by kernel_rfl, by kernel_rfl⟩
theorem k_69 : tyOk Go.Proofs.Tryz.prog 69 (.slice 149 2 40) := ⟨by kernel_rfl, by kernel_rfl, by kernel_rfl, by kernel_rfl⟩
theorem k_70 : tyOk Go.Proofs.Tryz.prog 70 (.agg [(0, 1), (1, 1)] [.row [], .row []]) := ⟨by kernel_rfl, by kernel_rfl, by kernel_rfl⟩
theorem k_71 : tyOk Go.Proofs.Tryz.prog 71 (.agg [(0, 1), (1, 1)] [.row [], .row []]) := ⟨by kernel_rfl, by kernel_rfl, by kernel_rfl⟩
theorem k_72 : tyOk Go.Proofs.Tryz.prog 72 (.agg [(0, 1), (1, 2), (3, 2)] [.sc (.int .i64 0), .sc (.int .i64 0), .sc (.int .i64 0), .row [], .row []]) := ⟨by kernel_rfl, by kernel_rfl, by kernel_rfl⟩
theorem k_73 : tyOk Go.Proofs.Tryz.prog 73 (.agg [(0, 1), (1, 2), (3, 2)] [.sc (.int .i64 0), .sc (.int .i64 0), .sc (.int .i64 0), .row [], .row []]) := ⟨by kernel_rfl, by kernel_rfl, by kernel_rfl⟩
theorem k_74 : tyOk Go.Proofs.Tryz.prog 74 (.one [.sc (.pointer none)]) := ⟨by kernel_rfl, by kernel_rfl⟩
theorem k_75 : tyOk Go.Proofs.Tryz.prog 75 (.agg [(0, 1)] [.sc (.pointer none)]) := ⟨by kernel_rfl, by kernel_rfl, by kernel_rfl⟩
theorem k_76 : tyOk Go.Proofs.Tryz.prog 76 (.agg [(0, 1)] [.sc (.pointer none)]) := ⟨by kernel_rfl, by kernel_rfl, by kernel_rfl⟩
theorem k_77 : tyOk Go.Proofs.Tryz.prog 77 (.one [.sc .nilFunc]) := ⟨by kernel_rfl, by kernel_rfl⟩
theorem k_78 : tyOk Go.Proofs.Tryz.prog 78 (.one [.sc .nilFunc]) := ⟨by kernel_rfl, by kernel_rfl⟩
theorem k_79 : tyOk Go.Proofs.Tryz.prog 79 (.one [.sc .nilFunc]) := ⟨by kernel_rfl, by kernel_rfl⟩
theorem k_80 : tyOk Go.Proofs.Tryz.prog 80 (.slice 91 2 32) := ⟨by kernel_rfl, by kernel_rfl, by kernel_rfl, by kernel_rfl⟩
theorem k_81 : tyOk Go.Proofs.Tryz.prog 81 (.one [.sc .nilFunc]) := ⟨by kernel_rfl, by kernel_rfl⟩
theorem k_82 : tyOk Go.Proofs.Tryz.prog 82 (.one [.sc .nilFunc]) := ⟨by kernel_rfl, by kernel_rfl⟩
theorem k_83 : tyOk Go.Proofs.Tryz.prog 83 (.slice 2 1 8) := ⟨by kernel_rfl, by kernel_rfl, by kernel_rfl, by kernel_rfl⟩
theorem k_84 : tyOk Go.Proofs.Tryz.prog 84 (.slice 23 2 16) := ⟨by kernel_rfl, by kernel_rfl, by kernel_rfl, by kernel_rfl⟩
theorem k_85 : tyOk Go.Proofs.Tryz.prog 85 (.slice 38 3 40) := ⟨by kernel_rfl, by kernel_rfl, by kernel_rfl, by kernel_rfl⟩
theorem k_86 : tyOk Go.Proofs.Tryz.prog 86 (.agg [(0, 1), (1, 1), (2, 1), (3, 1), (4, 1)] [.row [], .row [], .row [], .row [], .row []]) := ⟨by kernel_rfl, by kernel_rfl, by kernel_rfl⟩
theorem k_87 : tyOk Go.Proofs.Tryz.prog 87 (.agg [(0, 1), (1, 1), (2, 1), (3, 1), (4, 1)] [.row [], .row [], .row [], .row [], .row []]) := ⟨by kernel_rfl, by kernel_rfl, by kernel_rfl⟩
theorem k_89 : tyOk Go.Proofs.Tryz.prog 89 (.one [.sc .nilFunc]) := ⟨by kernel_rfl, by kernel_rfl⟩
theorem k_90 : tyOk Go.Proofs.Tryz.prog 90 (.agg [(0, 1), (1, 1)] [.sc (.string ⟨#[]⟩), .sc (.string ⟨#[]⟩)]) := ⟨by kernel_rfl, by kernel_rfl, by kernel_rfl⟩
theorem k_91 : tyOk Go.Proofs.Tryz.prog 91 (.agg [(0, 1), (1, 1)] [.sc (.string ⟨#[]⟩), .sc (.string ⟨#[]⟩)]) := ⟨by kernel_rfl, by kernel_rfl, by kernel_rfl⟩
theorem k_92 : tyOk Go.Proofs.Tryz.prog 92 (.one [.sc (.pointer none)]) := ⟨by kernel_rfl, by kernel_rfl⟩
theorem k_93 : tyOk Go.Proofs.Tryz.prog 93 (.agg [(0, 1), (1, 1)] [.row [], .sc (.bool false)]) := ⟨by kernel_rfl, by kernel_rfl, by kernel_rfl⟩
theorem k_94 : tyOk Go.Proofs.Tryz.prog 94 (.agg [(0, 1), (1, 1)] [.row [], .sc (.bool false)]) := ⟨by kernel_rfl, by kernel_rfl, by kernel_rfl⟩
theorem k_95 : tyOk Go.Proofs.Tryz.prog 95 (.one [.sc .nilFunc]) := ⟨by kernel_rfl, by kernel_rfl⟩
theorem k_96 : tyOk Go.Proofs.Tryz.prog 96 (.one [.sc .nilFunc]) := ⟨by kernel_rfl, by kernel_rfl⟩
theorem k_97 : tyOk Go.Proofs.Tryz.prog 97 (.arr 13 9 1 [.sc (.string ⟨#[]⟩), .sc (.string ⟨#[]⟩), .sc (.string ⟨#[]⟩), .sc (.string ⟨#[]⟩), .sc (.string ⟨#[]⟩), .sc (.string ⟨#[]⟩), .sc (.string ⟨#[]⟩), .sc (.string ⟨#[]⟩), .sc (.string ⟨#[]⟩), .sc (.string ⟨#[]⟩), .sc (.string ⟨#[]⟩), .sc (.string ⟨#[]⟩), .sc (.string ⟨#[]⟩)]) := ⟨by kernel_rfl, by kernel_rfl, by kernel_rfl⟩
theorem k_98 : tyOk Go.Proofs.Tryz.prog 98 (.one [.sc .nilFunc]) := ⟨by kernel_rfl, by kernel_rfl⟩
theorem k_99 : tyOk Go.Proofs.Tryz.prog 99 (.one [.sc .nilFunc]) := ⟨by kernel_rfl, by kernel_rfl⟩
theorem k_100 : tyOk Go.Proofs.Tryz.prog 100 (.one [.sc .nilFunc]) := ⟨by kernel_rfl, by kernel_rfl⟩
theorem k_101 : tyOk Go.Proofs.Tryz.prog 101 (.one [.sc .nilFunc]) := ⟨by kernel_rfl, by kernel_rfl⟩
theorem k_102 : tyOk Go.Proofs.Tryz.prog 102 (.one [.sc .nilFunc]) := ⟨by kernel_rfl, by kernel_rfl⟩
theorem k_103 : tyOk Go.Proofs.Tryz.prog 103 (.one [.sc .nilFunc]) := ⟨by kernel_rfl, by kernel_rfl⟩
theorem k_104 : tyOk Go.Proofs.Tryz.prog 104 (.one [.sc .nilFunc]) := ⟨by kernel_rfl, by kernel_rfl⟩
theorem k_105 : tyOk Go.Proofs.Tryz.prog 105 (.one [.sc .nilFunc]) := ⟨by kernel_rfl, by kernel_rfl⟩
theorem k_106 : tyOk Go.Proofs.Tryz.prog 106 (.one [.sc .nilFunc]) := ⟨by kernel_rfl, by kernel_rfl⟩
theorem k_107 : tyOk Go.Proofs.Tryz.prog 107 (.arr 20 5 1 [.sc (.int .u8 0), .sc (.int .u8 0), .sc (.int .u8 0), .sc (.int .u8 0), .sc (.int .u8 0), .sc (.int .u8 0), .sc (.int .u8 0), .sc (.int .u8 0), .sc (.int .u8 0), .sc (.int .u8 0), .sc (.int .u8 0), .sc (.int .u8 0), .sc (.int .u8 0), .sc (.int .u8 0), .sc (.int .u8 0), .sc (.int .u8 0), .sc (.int .u8 0), .sc (.int .u8 0), .sc (.int .u8 0), .sc (.int .u8 0)]) := ⟨by kernel_rfl, by kernel_rfl, by kernel_rfl⟩
theorem k_108 : tyOk Go.Proofs.Tryz.prog 108 (.one [.sc (.int .u64 0)]) := ⟨by kernel_rfl, by kernel_rfl⟩
theorem k_109 : tyOk Go.Proofs.Tryz.prog 109 (.slice 5 1 1) := ⟨by kernel_rfl, by kernel_rfl, by kernel_rfl, by kernel_rfl⟩
theorem k_110 : tyOk Go.Proofs.Tryz.prog 110 (.one [.sc .nilFunc]) := ⟨by kernel_rfl, by kernel_rfl⟩
theorem k_111 : tyOk Go.Proofs.Tryz.prog 111 (.slice 3 1 8) := ⟨by kernel_rfl, by kernel_rfl, by kernel_rfl, by kernel_rfl⟩
theorem k_113 : tyOk Go.Proofs.Tryz.prog 113 (.one [.sc .nilFunc]) := ⟨by kernel_rfl, by kernel_rfl⟩
theorem k_114 : tyOk Go.Proofs.Tryz.prog 114 (.one [.sc (.pointer none)]) := ⟨by kernel_rfl, by kernel_rfl⟩
theorem k_115 : tyOk Go.Proofs.Tryz.prog 115 (.one [.sc .nilFunc]) := ⟨by kernel_rfl, by kernel_rfl⟩
theorem k_116 : tyOk Go.Proofs.Tryz.prog 116 (.arr 6 3 1 [.sc (.int .i64 0), .sc (.int .i64 0), .sc (.int .i64 0), .sc (.int .i64 0), .sc (.int .i64 0), .sc (.int .i64 0)]) := ⟨by kernel_rfl, by kernel_rfl, by kernel_rfl⟩
theorem k_117 : tyOk Go.Proofs.Tryz.prog 117 (.arr 6 3 1 [.sc (.int .i64 0), .sc (.int .i64 0), .sc (.int .i64 0), .sc (.int .i64 0), .sc (.int .i64 0), .sc (.int .i64 0)]) := ⟨by kernel_rfl, by kernel_rfl, by kernel_rfl⟩
theorem k_118 : tyOk Go.Proofs.Tryz.prog 118 (.one [.sc (.pointer none)]) := ⟨by kernel_rfl, by kernel_rfl⟩
theorem k_119 : tyOk Go.Proofs.Tryz.prog 119 (.one [.sc .nilFunc]) := ⟨by kernel_rfl, by kernel_rfl⟩
theorem k_120 : tyOk Go.Proofs.Tryz.prog 120 (.one [.sc .nilFunc]) := ⟨by kernel_rfl, by kernel_rfl⟩
theorem k_121 : tyOk Go.Proofs.Tryz.prog 121 (.slice 194 20 264) := ⟨by kernel_rfl, by kernel_rfl, by kernel_rfl, by kernel_rfl⟩
theorem k_122 : tyOk Go.Proofs.Tryz.prog 122 (.one [.sc (.pointer none)]) := ⟨by kernel_rfl, by kernel_rfl⟩
theorem k_123 : tyOk Go.Proofs.Tryz.prog 123 (.one [.sc .nilFunc]) := ⟨by kernel_rfl, by kernel_rfl⟩
theorem k_124 : tyOk Go.Proofs.Tryz.prog 124 (.one [.sc .nilFunc]) := ⟨by kernel_rfl, by kernel_rfl⟩
theorem k_125 : tyOk Go.Proofs.Tryz.prog 125 (.one [.sc .nilFunc]) := ⟨by kernel_rfl, by kernel_rfl⟩
theorem k_126 : tyOk Go.Proofs.Tryz.prog 126 (.one [.sc .nilFunc]) := ⟨by kernel_rfl, by kernel_rfl⟩
theorem k_127 : tyOk Go.Proofs.Tryz.prog 127 (.one [.sc (.pointer none)]) := ⟨by kernel_rfl, by kernel_rfl⟩
theorem k_128 : tyOk Go.Proofs.Tryz.prog 128 (.agg [(0, 1), (1, 1), (2, 1)] [.sc (.pointer none), .sc (.pointer none), .sc (.int .i64 0)]) := ⟨by kernel_rfl, by kernel_rfl, by kernel_rfl⟩
theorem k_129 : tyOk Go.Proofs.Tryz.prog 129 (.agg [(0, 1), (1, 1), (2, 1)] [.sc (.pointer none), .sc (.pointer none), .sc (.int .i64 0)]) := ⟨by kernel_rfl, by kernel_rfl, by kernel_rfl⟩
theorem k_130 : tyOk Go.Proofs.Tryz.prog 130 (.slice 129 3 24) := ⟨by kernel_rfl, by kernel_rfl, by kernel_rfl, by kernel_rfl⟩
theorem k_131 : tyOk Go.Proofs.Tryz.prog 131 (.one [.sc (.pointer none)]) := ⟨by kernel_rfl, by kernel_rfl⟩
theorem k_132 : tyOk Go.Proofs.Tryz.prog 132 (.one [.sc (.int .u32 0)]) := ⟨by kernel_rfl, by kernel_rfl⟩
theorem k_133 : tyOk Go.Proofs.Tryz.prog 133 (.arrB 256 132 1) := ⟨by kernel_rfl, by kernel_rfl⟩
theorem k_134 : tyOk Go.Proofs.Tryz.prog 134 (.arrB 256 132 1) := ⟨by kernel_rfl, by kernel_rfl⟩
theorem k_137 : tyOk Go.Proofs.Tryz.prog 137 (.one [.sc .nilFunc]) := ⟨by kernel_rfl, by kernel_rfl⟩
theorem k_138 : tyOk Go.Proofs.Tryz.prog 138 (.one [.sc .nilFunc]) := ⟨by kernel_rfl, by kernel_rfl⟩
theorem k_139 : tyOk Go.Proofs.Tryz.prog 139 (.one [.sc .nilFunc]) := ⟨by kernel_rfl, by kernel_rfl⟩
theorem k_140 : tyOk Go.Proofs.Tryz.prog 140 (.one [.sc .nilFunc]) := ⟨by kernel_rfl, by kernel_rfl⟩
theorem k_141 : tyOk Go.Proofs.Tryz.prog 141 (.one [.sc .nilFunc]) := ⟨by kernel_rfl, by kernel_rfl⟩
theorem k_142 : tyOk Go.Proofs.Tryz.prog 142 (.one [.sc .nilFunc]) := ⟨by kernel_rfl, by kernel_rfl⟩
theorem k_143 : tyOk Go.Proofs.Tryz.prog 143 (.one [.sc (.pointer none)]) := ⟨by kernel_rfl, by kernel_rfl⟩
theorem k_144 : tyOk Go.Proofs.Tryz.prog 144 (.one [.sc .nilFunc]) := ⟨by kernel_rfl, by kernel_rfl⟩
theorem k_145 : tyOk Go.Proofs.Tryz.prog 145 (.agg [(0, 3), (3, 1), (4, 1)] [.sc (.int .i64 0), .sc (.string ⟨#[]⟩), .sc (.string ⟨#[]⟩), .sc (.int .i64 0), .row []]) := ⟨by kernel_rfl, by kernel_rfl, by kernel_rfl⟩
theorem k_146 : tyOk Go.Proofs.Tryz.prog 146 (.agg [(0, 3), (3, 1), (4, 1)] [.sc (.int .i64 0), .sc (.string ⟨#[]⟩), .sc (.string ⟨#[]⟩), .sc (.int .i64 0), .row []]) := ⟨by kernel_rfl, by kernel_rfl, by kernel_rfl⟩
theorem k_147 : tyOk Go.Proofs.Tryz.prog 147 (.one [.sc .nilFunc]) := ⟨by kernel_rfl, by kernel_rfl⟩
theorem k_148 : tyOk Go.Proofs.Tryz.prog 148 (.agg [(0, 1), (1, 1)] [.sc (.string ⟨#[]⟩), .row []]) := ⟨by kernel_rfl, by kernel_rfl, by kernel_rfl⟩
theorem k_149 : tyOk Go.Proofs.Tryz.prog 149 (.agg [(0, 1), (1, 1)] [.sc (.string ⟨#[]⟩), .row []]) := ⟨by kernel_rfl, by kernel_rfl, by kernel_rfl⟩
theorem k_151 : tyOk Go.Proofs.Tryz.prog 151 (.one [.sc .nilFunc]) := ⟨by kernel_rfl, by kernel_rfl⟩
theorem k_153 : tyOk Go.Proofs.Tryz.prog 153 (.one [.sc .nilFunc]) := ⟨by kernel_rfl, by kernel_rfl⟩
theorem k_155 : tyOk Go.Proofs.Tryz.prog 155 (.one [.sc .nilFunc]) := ⟨by kernel_rfl, by kernel_rfl⟩
theorem k_157 : tyOk Go.Proofs.Tryz.prog 157 (.one [.sc .nilFunc]) := ⟨by kernel_rfl, by kernel_rfl⟩
theorem k_158 : tyOk Go.Proofs.Tryz.prog 158 (.one [.sc .nilFunc]) := ⟨by kernel_rfl, by kernel_rfl⟩
theorem k_159 : tyOk Go.Proofs.Tryz.prog 159 (.one [.sc .nilFunc]) := ⟨by kernel_rfl, by kernel_rfl⟩
theorem k_160 : tyOk Go.Proofs.Tryz.prog 160 (.one [.sc .nilFunc]) := ⟨by kernel_rfl, by kernel_rfl⟩
theorem k_161 : tyOk Go.Proofs.Tryz.prog 161 (.one [.sc .nilFunc]) := ⟨by kernel_rfl, by kernel_rfl⟩
theorem k_162 : tyOk Go.Proofs.Tryz.prog 162 (.one [.sc (.pointer none)]) := ⟨by kernel_rfl, by kernel_rfl⟩
theorem k_163 : tyOk Go.Proofs.Tryz.prog 163 (.agg [(0, 1), (1, 1)] [.sc (.pointer none), .row []]) := ⟨by kernel_rfl, by kernel_rfl, by kernel_rfl⟩
theorem k_164 : tyOk Go.Proofs.Tryz.prog 164 (.agg [(0, 1), (1, 1)] [.sc (.pointer none), .row []]) := ⟨by kernel_rfl, by kernel_rfl, by kernel_rfl⟩
theorem k_168 : tyOk Go.Proofs.Tryz.prog 168 (.one [.sc .nilFunc]) := ⟨by kernel_rfl, by kernel_rfl⟩
theorem k_169 : tyOk Go.Proofs.Tryz.prog 169 (.one [.sc .nilFunc]) := ⟨by kernel_rfl, by kernel_rfl⟩
theorem k_170 : tyOk Go.Proofs.Tryz.prog 170 (.one [.sc .nilFunc]) := ⟨by kernel_rfl, by kernel_rfl⟩
theorem k_171 : tyOk Go.Proofs.Tryz.prog 171 (.agg [(0, 1), (1, 1)] [.sc (.string ⟨#[]⟩), .sc (.string ⟨#[]⟩)]) := ⟨by kernel_rfl, by kernel_rfl, by kernel_rfl⟩
theorem k_172 : tyOk Go.Proofs.Tryz.prog 172 (.agg [(0, 1), (1, 1)] [.sc (.string ⟨#[]⟩), .sc (.string ⟨#[]⟩)]) := ⟨by kernel_rfl, by kernel_rfl, by kernel_rfl⟩
theorem k_173 : tyOk Go.Proofs.Tryz.prog 173 (.one [.sc .nilFunc]) := ⟨by kernel_rfl, by kernel_rfl⟩
theorem k_174 : tyOk Go.Proofs.Tryz.prog 174 (.one [.sc .nilFunc]) := ⟨by kernel_rfl, by kernel_rfl⟩
theorem k_176 : tyOk Go.Proofs.Tryz.prog 176 (.one [.sc .nilFunc]) := ⟨by kernel_rfl, by kernel_rfl⟩
theorem k_178 : tyOk Go.Proofs.Tryz.prog 178 (.one [.sc .nilFunc]) := ⟨by kernel_rfl, by kernel_rfl⟩
theorem k_179 : tyOk Go.Proofs.Tryz.prog 179 (.one [.sc .nilFunc]) := ⟨by kernel_rfl, by kernel_rfl⟩
theorem k_180 : tyOk Go.Proofs.Tryz.prog 180 (.one [.sc .nilFunc]) := ⟨by kernel_rfl, by kernel_rfl⟩
theorem k_182 : tyOk Go.Proofs.Tryz.prog 182 (.one [.sc .nilFunc]) := ⟨by kernel_rfl, by kernel_rfl⟩
theorem k_184 : tyOk Go.Proofs.Tryz.prog 184 (.one [.sc .nilFunc]) := ⟨by kernel_rfl, by kernel_rfl⟩
theorem k_185 : tyOk Go.Proofs.Tryz.prog 185 (.one [.sc (.pointer none)]) := ⟨by kernel_rfl, by kernel_rfl⟩
theorem k_186 : tyOk Go.Proofs.Tryz.prog 186 (.agg [(0, 1), (1, 1), (2, 1), (3, 2), (5, 1), (6, 1), (7, 1)] [.sc (.pointer none), .sc (.pointer none), .sc (.int .i64 0), .sc (.int .i64 0), .sc (.int .i64 0), .sc (.pointer none), .sc (.pointer none), .sc (.bool false)]) := ⟨by kernel_rfl, by kernel_rfl, by kernel_rfl⟩
theorem k_187 : tyOk Go.Proofs.Tryz.prog 187 (.agg [(0, 1), (1, 1), (2, 1), (3, 2), (5, 1), (6, 1), (7, 1)] [.sc (.pointer none), .sc (.pointer none), .sc (.int .i64 0), .sc (.int .i64 0), .sc (.int .i64 0), .sc (.pointer none), .sc (.pointer none), .sc (.bool false)]) := ⟨by kernel_rfl, by kernel_rfl, by kernel_rfl⟩
theorem k_188 : tyOk Go.Proofs.Tryz.prog 188 (.slice 263 15 176) := ⟨by kernel_rfl, by kernel_rfl, by kernel_rfl, by kernel_rfl⟩
theorem k_189 : tyOk Go.Proofs.Tryz.prog 189 (.arr 6 188 1 [.row [], .row [], .row [], .row [], .row [], .row []]) := ⟨by kernel_rfl, by kernel_rfl, by kernel_rfl⟩
theorem k_190 : tyOk Go.Proofs.Tryz.prog 190 (.agg [(0, 6)] [.row [], .row [], .row [], .row [], .row [], .row []]) := ⟨by kernel_rfl, by kernel_rfl, by kernel_rfl⟩
theorem k_191 : tyOk Go.Proofs.Tryz.prog 191 (.agg [(0, 6)] [.row [], .row [], .row [], .row [], .row [], .row []]) := ⟨by kernel_rfl, by kernel_rfl, by kernel_rfl⟩
theorem k_192 : tyOk Go.Proofs.Tryz.prog 192 (.one [.sc .nilFunc]) := ⟨by kernel_rfl, by kernel_rfl⟩
theorem k_193 : tyOk Go.Proofs.Tryz.prog 193 (.agg [(0, 2), (2, 2), (4, 16)] [.sc (.int .i64 0), .sc (.int .i64 0), .sc (.int .i64 0), .sc (.int .i64 0), .sc (.int .i64 0), .sc (.int .i64 0), .sc (.string ⟨#[]⟩), .sc (.string ⟨#[]⟩), .sc (.string ⟨#[]⟩), .sc (.string ⟨#[]⟩), .sc (.int .i64 0), .sc (.int .i64 0), .sc (.string ⟨#[]⟩), .sc (.string ⟨#[]⟩), .sc (.int .i64 0), .sc (.string ⟨#[]⟩), .row [], .sc (.int .i64 0), .row [], .row []]) := ⟨by kernel_rfl, by kernel_rfl, by kernel_rfl⟩
theorem k_194 : tyOk Go.Proofs.Tryz.prog 194 (.agg [(0, 2), (2, 2), (4, 16)] [.sc (.int .i64 0), .sc (.int .i64 0), .sc (.int .i64 0), .sc (.int .i64 0), .sc (.int .i64 0), .sc (.int .i64 0), .sc (.string ⟨#[]⟩), .sc (.string ⟨#[]⟩), .sc (.string ⟨#[]⟩), .sc (.string ⟨#[]⟩), .sc (.int .i64 0), .sc (.int .i64 0), .sc (.string ⟨#[]⟩), .sc (.string ⟨#[]⟩), .sc (.int .i64 0), .sc (.string ⟨#[]⟩), .row [], .sc (.int .i64 0), .row [], .row []]) := ⟨by kernel_rfl, by kernel_rfl, by kernel_rfl⟩
theorem k_195 : tyOk Go.Proofs.Tryz.prog 195 (.slice 40 7 96) := ⟨by kernel_rfl, by kernel_rfl, by kernel_rfl, by kernel_rfl⟩
theorem k_196 : tyOk Go.Proofs.Tryz.prog 196 (.agg [(0, 20), (20, 1), (21, 1), (22, 1)] [.sc (.int .i64 0), .sc (.int .i64 0), .sc (.int .i64 0), .sc (.int .i64 0), .sc (.int .i64 0), .sc (.int .i64 0), .sc (.string ⟨#[]⟩), .sc (.string ⟨#[]⟩), .sc (.string ⟨#[]⟩), .sc (.string ⟨#[]⟩), .sc (.int .i64 0), .sc (.int .i64 0), .sc (.string ⟨#[]⟩), .sc (.string ⟨#[]⟩), .sc (.int .i64 0), .sc (.string ⟨#[]⟩), .row [], .sc (.int .i64 0), .row [], .row [], .sc (.int .i64 0), .row [], .sc (.int .i64 0)]) := ⟨by kernel_rfl, by kernel_rfl, by kernel_rfl⟩
theorem k_197 : tyOk Go.Proofs.Tryz.prog 197 (.agg [(0, 20), (20, 1), (21, 1), (22, 1)] [.sc (.int .i64 0), .sc (.int .i64 0), .sc (.int .i64 0), .sc (.int .i64 0), .sc (.int .i64 0), .sc (.int .i64 0), .sc (.string ⟨#[]⟩), .sc (.string ⟨#[]⟩), .sc (.string ⟨#[]⟩), .sc (.string ⟨#[]⟩), .sc (.int .i64 0), .sc (.int .i64 0), .sc (.string ⟨#[]⟩), .sc (.string ⟨#[]⟩), .sc (.int .i64 0), .sc (.string ⟨#[]⟩), .row [], .sc (.int .i64 0), .row [], .row [], .sc (.int .i64 0), .row [], .sc (.int .i64 0)]) := ⟨by kernel_rfl, by kernel_rfl, by kernel_rfl⟩
theorem k_198 : tyOk Go.Proofs.Tryz.prog 198 (.one [.sc .nilFunc]) := ⟨by kernel_rfl, by kernel_rfl⟩
theorem k_199 : tyOk Go.Proofs.Tryz.prog 199 (.one [.sc .nilFunc]) := ⟨by kernel_rfl, by kernel_rfl⟩
theorem k_200 : tyOk Go.Proofs.Tryz.prog 200 (.one [.sc (.map none)]) := ⟨by kernel_rfl, by kernel_rfl⟩
theorem k_201 : tyOk Go.Proofs.Tryz.prog 201 (.agg [(0, 1)] [.sc (.map none)]) := ⟨by kernel_rfl, by kernel_rfl, by kernel_rfl⟩
theorem k_202 : tyOk Go.Proofs.Tryz.prog 202 (.agg [(0, 1)] [.sc (.map none)]) := ⟨by kernel_rfl, by kernel_rfl, by kernel_rfl⟩
theorem k_204 : tyOk Go.Proofs.Tryz.prog 204 (.one [.sc .nilFunc]) := ⟨by kernel_rfl, by kernel_rfl⟩
theorem k_205 : tyOk Go.Proofs.Tryz.prog 205 (.one [.sc .nilFunc]) := ⟨by kernel_rfl, by kernel_rfl⟩
theorem k_206 : tyOk Go.Proofs.Tryz.prog 206 (.one [.sc .nilFunc]) := ⟨by kernel_rfl, by kernel_rfl⟩
theorem k_207 : tyOk Go.Proofs.Tryz.prog 207 (.one [.sc .nilFunc]) := ⟨by kernel_rfl, by kernel_rfl⟩
theorem k_209 : tyOk Go.Proofs.Tryz.prog 209 (.one [.sc .nilFunc]) := ⟨by kernel_rfl, by kernel_rfl⟩
theorem k_210 : tyOk Go.Proofs.Tryz.prog 210 (.agg [(0, 1), (1, 1), (2, 1), (3, 6), (9, 1), (10, 1), (11, 1)] [.sc (.int .i64 0), .sc (.int .i64 0), .sc (.int .i64 0), .sc (.int .i64 0), .sc (.int .i64 0), .sc (.int .i64 0), .sc (.int .i64 0), .sc (.int .i64 0), .sc (.int .i64 0), .row [], .row [], .row []]) := ⟨by kernel_rfl, by kernel_rfl, by kernel_rfl⟩
theorem k_211 : tyOk Go.Proofs.Tryz.prog 211 (.agg [(0, 1), (1, 1), (2, 1), (3, 6), (9, 1), (10, 1), (11, 1)] [.sc (.int .i64 0), .sc (.int .i64 0), .sc (.int .i64 0), .sc (.int .i64 0), .sc (.int .i64 0), .sc (.int .i64 0), .sc (.int .i64 0), .sc (.int .i64 0), .sc (.int .i64 0), .row [], .row [], .row []]) := ⟨by kernel_rfl, by kernel_rfl, by kernel_rfl⟩
theorem k_213 : tyOk Go.Proofs.Tryz.prog 213 (.one [.sc .nilFunc]) := ⟨by kernel_rfl, by kernel_rfl⟩
theorem k_214 : tyOk Go.Proofs.Tryz.prog 214 (.one [.sc .nilFunc]) := ⟨by kernel_rfl, by kernel_rfl⟩
theorem k_215 : tyOk Go.Proofs.Tryz.prog 215 (.agg [(0, 1), (1, 1), (2, 1)] [.sc (.int .i64 0), .sc (.int .i64 0), .row []]) := ⟨by kernel_rfl, by kernel_rfl, by kernel_rfl⟩
theorem k_216 : tyOk Go.Proofs.Tryz.prog 216 (.agg [(0, 1), (1, 1), (2, 1)] [.sc (.int .i64 0), .sc (.int .i64 0), .row []]) := ⟨by kernel_rfl, by kernel_rfl, by kernel_rfl⟩
theorem k_218 : tyOk Go.Proofs.Tryz.prog 218 (.one [.sc .nilFunc]) := ⟨by kernel_rfl, by kernel_rfl⟩
theorem k_220 : tyOk Go.Proofs.Tryz.prog 220 (.one [.sc .nilFunc]) := ⟨by kernel_rfl, by kernel_rfl⟩
theorem k_221 : tyOk Go.Proofs.Tryz.prog 221 (.one [.sc .nilFunc]) := ⟨by kernel_rfl, by kernel_rfl⟩
theorem k_222 : tyOk Go.Proofs.Tryz.prog 222 (.slice 216 3 40) := ⟨by kernel_rfl, by kernel_rfl, by kernel_rfl, by kernel_rfl⟩
theorem k_223 : tyOk Go.Proofs.Tryz.prog 223 (.one [.sc .nilFunc]) := ⟨by kernel_rfl, by kernel_rfl⟩
theorem k_224 : tyOk Go.Proofs.Tryz.prog 224 (.slice 225 1 16) := ⟨by kernel_rfl, by kernel_rfl, by kernel_rfl, by kernel_rfl⟩
theorem k_225 : tyOk Go.Proofs.Tryz.prog 225 (.one [.sc (.complex .f64 0 0)]) := ⟨by kernel_rfl, by kernel_rfl⟩
theorem k_226 : tyOk Go.Proofs.Tryz.prog 226 (.agg [(0, 1), (1, 1), (2, 1), (3, 1), (4, 1)] [.row [], .row [], .sc (.bool false), .sc (.complex .f64 0 0), .sc (.int .i64 0)]) := ⟨by kernel_rfl, by kernel_rfl, by kernel_rfl⟩
theorem k_227 : tyOk Go.Proofs.Tryz.prog 227 (.agg [(0, 1), (1, 1), (2, 1), (3, 1), (4, 1)] [.row [], .row [], .sc (.bool false), .sc (.complex .f64 0 0), .sc (.int .i64 0)]) := ⟨by kernel_rfl, by kernel_rfl, by kernel_rfl⟩
theorem k_228 : tyOk Go.Proofs.Tryz.prog 228 (.one [.sc .nilFunc]) := ⟨by kernel_rfl, by kernel_rfl⟩
theorem k_230 : tyOk Go.Proofs.Tryz.prog 230 (.one [.sc .nilFunc]) := ⟨by kernel_rfl, by kernel_rfl⟩
theorem k_231 : tyOk Go.Proofs.Tryz.prog 231 (.arr 4 109 1 [.row [], .row [], .row [], .row []]) := ⟨by kernel_rfl, by kernel_rfl, by kernel_rfl⟩
theorem k_232 : tyOk Go.Proofs.Tryz.prog 232 (.slice 387 4 48) := ⟨by kernel_rfl, by kernel_rfl, by kernel_rfl, by kernel_rfl⟩
theorem k_233 : tyOk Go.Proofs.Tryz.prog 233 (.agg [(0, 1), (1, 4), (5, 4), (9, 1), (10, 1), (11, 1), (12, 1), (13, 1), (14, 1)] [.sc (.int .i64 0), .row [], .row [], .row [], .row [], .row [], .row [], .row [], .row [], .row [], .sc (.int .i64 0), .sc (.int .i64 0), .sc (.bool false), .sc (.int .i64 0), .sc (.bool false)]) := ⟨by kernel_rfl, by kernel_rfl, by kernel_rfl⟩
theorem k_234 : tyOk Go.Proofs.Tryz.prog 234 (.agg [(0, 1), (1, 4), (5, 4), (9, 1), (10, 1), (11, 1), (12, 1), (13, 1), (14, 1)] [.sc (.int .i64 0), .row [], .row [], .row [], .row [], .row [], .row [], .row [], .row [], .row [], .sc (.int .i64 0), .sc (.int .i64 0), .sc (.bool false), .sc (.int .i64 0), .sc (.bool false)]) := ⟨by kernel_rfl, by kernel_rfl, by kernel_rfl⟩
theorem k_235 : tyOk Go.Proofs.Tryz.prog 235 (.one [.sc .nilFunc]) := ⟨by kernel_rfl, by kernel_rfl⟩
theorem k_236 : tyOk Go.Proofs.Tryz.prog 236 (.one [.sc .nilFunc]) := ⟨by kernel_rfl, by kernel_rfl⟩
theorem k_237 : tyOk Go.Proofs.Tryz.prog 237 (.one [.sc .nilFunc]) := ⟨by kernel_rfl, by kernel_rfl⟩
theorem k_238 : tyOk Go.Proofs.Tryz.prog 238 (.one [.sc .nilFunc]) := ⟨by kernel_rfl, by kernel_rfl⟩
theorem k_240 : tyOk Go.Proofs.Tryz.prog 240 (.one [.sc .nilFunc]) := ⟨by kernel_rfl, by kernel_rfl⟩
theorem k_241 : tyOk Go.Proofs.Tryz.prog 241 (.one [.sc .nilFunc]) := ⟨by kernel_rfl, by kernel_rfl⟩
theorem k_242 : tyOk Go.Proofs.Tryz.prog 242 (.one [.sc .nilFunc]) := ⟨by kernel_rfl, by kernel_rfl⟩
theorem k_243 : tyOk Go.Proofs.Tryz.prog 243 (.one [.sc .nilFunc]) := ⟨by kernel_rfl, by kernel_rfl⟩
theorem k_244 : tyOk Go.Proofs.Tryz.prog 244 (.one [.sc .nilFunc]) := ⟨by kernel_rfl, by kernel_rfl⟩
theorem k_246 : tyOk Go.Proofs.Tryz.prog 246 (.one [.sc .nilFunc]) := ⟨by kernel_rfl, by kernel_rfl⟩
theorem k_247 : tyOk Go.Proofs.Tryz.prog 247 (.one [.sc (.pointer none)]) := ⟨by kernel_rfl, by kernel_rfl⟩
theorem k_248 : tyOk Go.Proofs.Tryz.prog 248 (.one [.sc .nilFunc]) := ⟨by kernel_rfl, by kernel_rfl⟩
theorem k_249 : tyOk Go.Proofs.Tryz.prog 249 (.one [.sc .nilFunc]) := ⟨by kernel_rfl, by kernel_rfl⟩
theorem k_250 : tyOk Go.Proofs.Tryz.prog 250 (.one [.sc .nilFunc]) := ⟨by kernel_rfl, by kernel_rfl⟩
theorem k_251 : tyOk Go.Proofs.Tryz.prog 251 (.one [.sc .nilFunc]) := ⟨by kernel_rfl, by kernel_rfl⟩
theorem k_252 : tyOk Go.Proofs.Tryz.prog 252 (.one [.sc (.int .u64 0)]) := ⟨by kernel_rfl, by kernel_rfl⟩
theorem k_253 : tyOk Go.Proofs.Tryz.prog 253 (.one [.sc .nilFunc]) := ⟨by kernel_rfl, by kernel_rfl⟩
theorem k_255 : tyOk Go.Proofs.Tryz.prog 255 (.one [.sc .nilFunc]) := ⟨by kernel_rfl, by kernel_rfl⟩
theorem k_257 : tyOk Go.Proofs.Tryz.prog 257 (.one [.sc .nilFunc]) := ⟨by kernel_rfl, by kernel_rfl⟩
theorem k_258 : tyOk Go.Proofs.Tryz.prog 258 (.one [.sc .nilFunc]) := ⟨by kernel_rfl, by kernel_rfl⟩
theorem k_259 : tyOk Go.Proofs.Tryz.prog 259 (.one [.sc .nilFunc]) := ⟨by kernel_rfl, by kernel_rfl⟩
theorem k_260 : tyOk Go.Proofs.Tryz.prog 260 (.one [.sc .nilFunc]) := ⟨by kernel_rfl, by kernel_rfl⟩
theorem k_261 : tyOk Go.Proofs.Tryz.prog 261 (.one [.sc .nilFunc]) := ⟨by kernel_rfl, by kernel_rfl⟩
theorem k_262 : tyOk Go.Proofs.Tryz.prog 262 (.agg [(0, 2), (2, 2), (4, 1), (5, 1), (6, 1), (7, 1), (8, 3), (11, 1), (12, 1), (13, 1), (14, 1)] [.sc (.int .i64 0), .sc (.int .i64 0), .sc (.int .i64 0), .sc (.int .i64 0), .sc (.int .i64 0), .sc (.string ⟨#[]⟩), .sc (.int .i64 0), .sc (.string ⟨#[]⟩), .sc (.int .i64 0), .sc (.string ⟨#[]⟩), .sc (.string ⟨#[]⟩), .sc (.int .i64 0), .sc (.bool false), .sc (.string ⟨#[]⟩), .row []]) := ⟨by kernel_rfl, by kernel_rfl, by kernel_rfl⟩
theorem k_263 : tyOk Go.Proofs.Tryz.prog 263 (.agg [(0, 2), (2, 2), (4, 1), (5, 1), (6, 1), (7, 1), (8, 3), (11, 1), (12, 1), (13, 1), (14, 1)] [.sc (.int .i64 0), .sc (.int .i64 0), .sc (.int .i64 0), .sc (.int .i64 0), .sc (.int .i64 0), .sc (.string ⟨#[]⟩), .sc (.int .i64 0), .sc (.string ⟨#[]⟩), .sc (.int .i64 0), .sc (.string ⟨#[]⟩), .sc (.string ⟨#[]⟩), .sc (.int .i64 0), .sc (.bool false), .sc (.string ⟨#[]⟩), .row []]) := ⟨by kernel_rfl, by kernel_rfl, by kernel_rfl⟩
theorem k_265 : tyOk Go.Proofs.Tryz.prog 265 (.one [.sc .nilFunc]) := ⟨by kernel_rfl, by kernel_rfl⟩
theorem k_266 : tyOk Go.Proofs.Tryz.prog 266 (.one [.sc .nilFunc]) := ⟨by kernel_rfl, by kernel_rfl⟩
theorem k_267 : tyOk Go.Proofs.Tryz.prog 267 (.one [.sc .nilFunc]) := ⟨by kernel_rfl, by kernel_rfl⟩
theorem k_268 : tyOk Go.Proofs.Tryz.prog 268 (.one [.sc .nilFunc]) := ⟨by kernel_rfl, by kernel_rfl⟩
theorem k_269 : tyOk Go.Proofs.Tryz.prog 269 (.one [.sc .nilFunc]) := ⟨by kernel_rfl, by kernel_rfl⟩
theorem k_270 : tyOk Go.Proofs.Tryz.prog 270 (.one [.sc .nilFunc]) := ⟨by kernel_rfl, by kernel_rfl⟩
theorem k_271 : tyOk Go.Proofs.Tryz.prog 271 (.one [.sc .nilFunc]) := ⟨by kernel_rfl, by kernel_rfl⟩
theorem k_272 : tyOk Go.Proofs.Tryz.prog 272 (.one [.sc .nilFunc]) := ⟨by kernel_rfl, by kernel_rfl⟩
theorem k_273 : tyOk Go.Proofs.Tryz.prog 273 (.one [.sc .nilFunc]) := ⟨by kernel_rfl, by kernel_rfl⟩
theorem k_274 : tyOk Go.Proofs.Tryz.prog 274 (.one [.sc .nilFunc]) := ⟨by kernel_rfl, by kernel_rfl⟩
theorem k_275 : tyOk Go.Proofs.Tryz.prog 275 (.slice 43 16 232) := ⟨by kernel_rfl, by kernel_rfl, by kernel_rfl, by kernel_rfl⟩
theorem k_277 : tyOk Go.Proofs.Tryz.prog 277 (.one [.sc .nilFunc]) := ⟨by kernel_rfl, by kernel_rfl⟩
theorem k_278 : tyOk Go.Proofs.Tryz.prog 278 (.one [.sc .nilFunc]) := ⟨by kernel_rfl, by kernel_rfl⟩
theorem k_279 : tyOk Go.Proofs.Tryz.prog 279 (.one [.sc .nilFunc]) := ⟨by kernel_rfl, by kernel_rfl⟩
theorem k_280 : tyOk Go.Proofs.Tryz.prog 280 (.one [.sc .nilFunc]) := ⟨by kernel_rfl, by kernel_rfl⟩
theorem k_281 : tyOk Go.Proofs.Tryz.prog 281 (.one [.sc .nilFunc]) := ⟨by kernel_rfl, by kernel_rfl⟩
theorem k_283 : tyOk Go.Proofs.Tryz.prog 283 (.one [.sc .nilFunc]) := ⟨by kernel_rfl, by kernel_rfl⟩
theorem k_284 : tyOk Go.Proofs.Tryz.prog 284 (.one [.sc .nilFunc]) := ⟨by kernel_rfl, by kernel_rfl⟩
theorem k_286 : tyOk Go.Proofs.Tryz.prog 286 (.one [.sc .nilFunc]) := ⟨by kernel_rfl, by kernel_rfl⟩
theorem k_287 : tyOk Go.Proofs.Tryz.prog 287 (.one [.sc (.pointer none)]) := ⟨by kernel_rfl, by kernel_rfl⟩
theorem k_288 : tyOk Go.Proofs.Tryz.prog 288 (.one [.sc .nilFunc]) := ⟨by kernel_rfl, by kernel_rfl⟩
theorem k_289 : tyOk Go.Proofs.Tryz.prog 289 (.one [.sc .nilFunc]) := ⟨by kernel_rfl, by kernel_rfl⟩
theorem k_290 : tyOk Go.Proofs.Tryz.prog 290 (.one [.sc .nilFunc]) := ⟨by kernel_rfl, by kernel_rfl⟩
theorem k_291 : tyOk Go.Proofs.Tryz.prog 291 (.one [.sc .nilFunc]) := ⟨by kernel_rfl, by kernel_rfl⟩
theorem k_292 : tyOk Go.Proofs.Tryz.prog 292 (.one [.sc .nilFunc]) := ⟨by kernel_rfl, by kernel_rfl⟩
theorem k_293 : tyOk Go.Proofs.Tryz.prog 293 (.one [.sc .nilFunc]) := ⟨by kernel_rfl, by kernel_rfl⟩
theorem k_294 : tyOk Go.Proofs.Tryz.prog 294 (.one [.sc .nilFunc]) := ⟨by kernel_rfl, by kernel_rfl⟩
theorem k_295 : tyOk Go.Proofs.Tryz.prog 295 (.one [.sc .nilFunc]) := ⟨by kernel_rfl, by kernel_rfl⟩
theorem k_296 : tyOk Go.Proofs.Tryz.prog 296 (.one [.sc .nilFunc]) := ⟨by kernel_rfl, by kernel_rfl⟩
theorem k_297 : tyOk Go.Proofs.Tryz.prog 297 (.one [.sc .nilFunc]) := ⟨by kernel_rfl, by kernel_rfl⟩
theorem k_298 : tyOk Go.Proofs.Tryz.prog 298 (.one [.sc .nilFunc]) := ⟨by kernel_rfl, by kernel_rfl⟩
theorem k_299 : tyOk Go.Proofs.Tryz.prog 299 (.one [.sc .nilFunc]) := ⟨by kernel_rfl, by kernel_rfl⟩
theorem k_301 : tyOk Go.Proofs.Tryz.prog 301 (.one [.sc .nilFunc]) := ⟨by kernel_rfl, by kernel_rfl⟩
theorem k_302 : tyOk Go.Proofs.Tryz.prog 302 (.one [.sc .nilFunc]) := ⟨by kernel_rfl, by kernel_rfl⟩
theorem k_303 : tyOk Go.Proofs.Tryz.prog 303 (.slice 109 1 24) := ⟨by kernel_rfl, by kernel_rfl, by kernel_rfl, by kernel_rfl⟩
theorem k_305 : tyOk Go.Proofs.Tryz.prog 305 (.one [.sc .nilFunc]) := ⟨by kernel_rfl, by kernel_rfl⟩
theorem k_306 : tyOk Go.Proofs.Tryz.prog 306 (.one [.sc .nilFunc]) := ⟨by kernel_rfl, by kernel_rfl⟩
theorem k_307 : tyOk Go.Proofs.Tryz.prog 307 (.one [.sc (.pointer none)]) := ⟨by kernel_rfl, by kernel_rfl⟩
theorem k_308 : tyOk Go.Proofs.Tryz.prog 308 (.one [.sc (.pointer none)]) := ⟨by kernel_rfl, by kernel_rfl⟩
theorem k_311 : tyOk Go.Proofs.Tryz.prog 311 (.one [.sc .nilFunc]) := ⟨by kernel_rfl, by kernel_rfl⟩
theorem k_313 : tyOk Go.Proofs.Tryz.prog 313 (.one [.sc .nilFunc]) := ⟨by kernel_rfl, by kernel_rfl⟩
theorem k_314 : tyOk Go.Proofs.Tryz.prog 314 (.one [.sc .nilFunc]) := ⟨by kernel_rfl, by kernel_rfl⟩
theorem k_315 : tyOk Go.Proofs.Tryz.prog 315 (.one [.sc .nilFunc]) := ⟨by kernel_rfl, by kernel_rfl⟩
theorem k_316 : tyOk Go.Proofs.Tryz.prog 316 (.one [.sc .nilFunc]) := ⟨by kernel_rfl, by kernel_rfl⟩
theorem k_317 : tyOk Go.Proofs.Tryz.prog 317 (.one [.sc .nilFunc]) := ⟨by kernel_rfl, by kernel_rfl⟩
theorem k_319 : tyOk Go.Proofs.Tryz.prog 319 (.one [.sc .nilFunc]) := ⟨by kernel_rfl, by kernel_rfl⟩
theorem k_320 : tyOk Go.Proofs.Tryz.prog 320 (.one [.sc .nilFunc]) := ⟨by kernel_rfl, by kernel_rfl⟩
theorem k_322 : tyOk Go.Proofs.Tryz.prog 322 (.one [.sc .nilFunc]) := ⟨by kernel_rfl, by kernel_rfl⟩
theorem k_323 : tyOk Go.Proofs.Tryz.prog 323 (.one [.sc .nilFunc]) := ⟨by kernel_rfl, by kernel_rfl⟩
theorem k_324 : tyOk Go.Proofs.Tryz.prog 324 (.one [.sc .nilFunc]) := ⟨by kernel_rfl, by kernel_rfl⟩
theorem k_325 : tyOk Go.Proofs.Tryz.prog 325 (.one [.sc .nilFunc]) := ⟨by kernel_rfl, by kernel_rfl⟩
theorem k_326 : tyOk Go.Proofs.Tryz.prog 326 (.one [.sc .nilFunc]) := ⟨by kernel_rfl, by kernel_rfl⟩
theorem k_327 : tyOk Go.Proofs.Tryz.prog 327 (.one [.sc .nilFunc]) := ⟨by kernel_rfl, by kernel_rfl⟩
theorem k_328 : tyOk Go.Proofs.Tryz.prog 328 (.agg [(0, 1), (1, 2), (3, 1), (4, 1), (5, 26)] [.sc (.pointer none), .sc (.int .i64 0), .sc (.int .i64 0), .row [], .row [], .sc (.int .i64 0), .sc (.string ⟨#[]⟩), .sc (.string ⟨#[]⟩), .sc (.int .i64 0), .sc (.string ⟨#[]⟩), .sc (.string ⟨#[]⟩), .sc (.int .i64 0), .sc (.string ⟨#[]⟩), .sc (.int .i64 0), .sc (.int .i64 0), .sc (.int .i64 0), .sc (.int .i64 0), .sc (.string ⟨#[]⟩), .sc (.string ⟨#[]⟩), .sc (.string ⟨#[]⟩), .sc (.string ⟨#[]⟩), .sc (.int .i64 0), .sc (.int .i64 0), .sc (.string ⟨#[]⟩), .sc (.string ⟨#[]⟩), .sc (.int .i64 0), .sc (.string ⟨#[]⟩), .row [], .sc (.int .i64 0), .row [], .row []]) := ⟨by kernel_rfl, by kernel_rfl, by kernel_rfl⟩
theorem k_329 : tyOk Go.Proofs.Tryz.prog 329 (.agg [(0, 1), (1, 2), (3, 1), (4, 1), (5, 26)] [.sc (.pointer none), .sc (.int .i64 0), .sc (.int .i64 0), .row [], .row [], .sc (.int .i64 0), .sc (.string ⟨#[]⟩), .sc (.string ⟨#[]⟩), .sc (.int .i64 0), .sc (.string ⟨#[]⟩), .sc (.string ⟨#[]⟩), .sc (.int .i64 0), .sc (.string ⟨#[]⟩), .sc (.int .i64 0), .sc (.int .i64 0), .sc (.int .i64 0), .sc (.int .i64 0), .sc (.string ⟨#[]⟩), .sc (.string ⟨#[]⟩), .sc (.string ⟨#[]⟩), .sc (.string ⟨#[]⟩), .sc (.int .i64 0), .sc (.int .i64 0), .sc (.string ⟨#[]⟩), .sc (.string ⟨#[]⟩), .sc (.int .i64 0), .sc (.string ⟨#[]⟩), .row [], .sc (.int .i64 0), .row [], .row []]) := ⟨by kernel_rfl, by kernel_rfl, by kernel_rfl⟩
theorem k_330 : tyOk Go.Proofs.Tryz.prog 330 (.one [.sc .nilFunc]) := ⟨by kernel_rfl, by kernel_rfl⟩
theorem k_331 : tyOk Go.Proofs.Tryz.prog 331 (.one [.sc .nilFunc]) := ⟨by kernel_rfl, by kernel_rfl⟩
theorem k_332 : tyOk Go.Proofs.Tryz.prog 332 (.one [.sc (.pointer none)]) := ⟨by kernel_rfl, by kernel_rfl⟩
theorem k_333 : tyOk Go.Proofs.Tryz.prog 333 (.one [.sc .nilFunc]) := ⟨by kernel_rfl, by kernel_rfl⟩
theorem k_334 : tyOk Go.Proofs.Tryz.prog 334 (.one [.sc .nilFunc]) := ⟨by kernel_rfl, by kernel_rfl⟩
theorem k_335 : tyOk Go.Proofs.Tryz.prog 335 (.one [.sc .nilFunc]) := ⟨by kernel_rfl, by kernel_rfl⟩
theorem k_337 : tyOk Go.Proofs.Tryz.prog 337 (.one [.sc .nilFunc]) := ⟨by kernel_rfl, by kernel_rfl⟩
theorem k_338 : tyOk Go.Proofs.Tryz.prog 338 (.one [.sc .nilFunc]) := ⟨by kernel_rfl, by kernel_rfl⟩
theorem k_339 : tyOk Go.Proofs.Tryz.prog 339 (.one [.sc .nilFunc]) := ⟨by kernel_rfl, by kernel_rfl⟩
theorem k_340 : tyOk Go.Proofs.Tryz.prog 340 (.one [.sc .nilFunc]) := ⟨by kernel_rfl, by kernel_rfl⟩
theorem k_341 : tyOk Go.Proofs.Tryz.prog 341 (.one [.sc .nilFunc]) := ⟨by kernel_rfl, by kernel_rfl⟩
theorem k_342 : tyOk Go.Proofs.Tryz.prog 342 (.one [.sc .nilFunc]) := ⟨by kernel_rfl, by kernel_rfl⟩
theorem k_343 : tyOk Go.Proofs.Tryz.prog 343 (.one [.sc (.map none)]) := ⟨by kernel_rfl, by kernel_rfl⟩
theorem k_344 : tyOk Go.Proofs.Tryz.prog 344 (.one [.sc .nilFunc]) := ⟨by kernel_rfl, by kernel_rfl⟩
theorem k_345 : tyOk Go.Proofs.Tryz.prog 345 (.agg [(0, 1), (1, 3)] [.sc (.string ⟨#[]⟩), .sc (.int .i64 0), .sc (.string ⟨#[]⟩), .sc (.string ⟨#[]⟩)]) := ⟨by kernel_rfl, by kernel_rfl, by kernel_rfl⟩
theorem k_346 : tyOk Go.Proofs.Tryz.prog 346 (.agg [(0, 1), (1, 3)] [.sc (.string ⟨#[]⟩), .sc (.int .i64 0), .sc (.string ⟨#[]⟩), .sc (.string ⟨#[]⟩)]) := ⟨by kernel_rfl, by kernel_rfl, by kernel_rfl⟩
theorem k_347 : tyOk Go.Proofs.Tryz.prog 347 (.one [.sc .nilFunc]) := ⟨by kernel_rfl, by kernel_rfl⟩
theorem k_348 : tyOk Go.Proofs.Tryz.prog 348 (.one [.sc .nilFunc]) := ⟨by kernel_rfl, by kernel_rfl⟩
theorem k_349 : tyOk Go.Proofs.Tryz.prog 349 (.one [.sc .nilFunc]) := ⟨by kernel_rfl, by kernel_rfl⟩
theorem k_350 : tyOk Go.Proofs.Tryz.prog 350 (.one [.sc .nilFunc]) := ⟨by kernel_rfl, by kernel_rfl⟩
theorem k_351 : tyOk Go.Proofs.Tryz.prog 351 (.one [.sc .nilFunc]) := ⟨by kernel_rfl, by kernel_rfl⟩
theorem k_352 : tyOk Go.Proofs.Tryz.prog 352 (.slice 356 3 24) := ⟨by kernel_rfl, by kernel_rfl, by kernel_rfl, by kernel_rfl⟩
theorem k_354 : tyOk Go.Proofs.Tryz.prog 354 (.one [.sc .nilFunc]) := ⟨by kernel_rfl, by kernel_rfl⟩
theorem k_355 : tyOk Go.Proofs.Tryz.prog 355 (.agg [(0, 2), (2, 1)] [.sc (.int .i64 0), .sc (.int .i64 0), .sc (.bool false)]) := ⟨by kernel_rfl, by kernel_rfl, by kernel_rfl⟩
theorem k_356 : tyOk Go.Proofs.Tryz.prog 356 (.agg [(0, 2), (2, 1)] [.sc (.int .i64 0), .sc (.int .i64 0), .sc (.bool false)]) := ⟨by kernel_rfl, by kernel_rfl, by kernel_rfl⟩
theorem k_358 : tyOk Go.Proofs.Tryz.prog 358 (.one [.sc .nilFunc]) := ⟨by kernel_rfl, by kernel_rfl⟩
theorem k_359 : tyOk Go.Proofs.Tryz.prog 359 (.one [.sc .nilFunc]) := ⟨by kernel_rfl, by kernel_rfl⟩
theorem k_360 : tyOk Go.Proofs.Tryz.prog 360 (.one [.sc .nilFunc]) := ⟨by kernel_rfl, by kernel_rfl⟩
theorem k_362 : tyOk Go.Proofs.Tryz.prog 362 (.one [.sc .nilFunc]) := ⟨by kernel_rfl, by kernel_rfl⟩
theorem k_363 : tyOk Go.Proofs.Tryz.prog 363 (.one [.sc .nilFunc]) := ⟨by kernel_rfl, by kernel_rfl⟩
theorem k_364 : tyOk Go.Proofs.Tryz.prog 364 (.one [.sc .nilFunc]) := ⟨by kernel_rfl, by kernel_rfl⟩
theorem k_365 : tyOk Go.Proofs.Tryz.prog 365 (.one [.sc .nilFunc]) := ⟨by kernel_rfl, by kernel_rfl⟩
theorem k_366 : tyOk Go.Proofs.Tryz.prog 366 (.one [.sc .nilFunc]) := ⟨by kernel_rfl, by kernel_rfl⟩
theorem k_367 : tyOk Go.Proofs.Tryz.prog 367 (.one [.sc .nilFunc]) := ⟨by kernel_rfl, by kernel_rfl⟩
theorem k_368 : tyOk Go.Proofs.Tryz.prog 368 (.one [.sc .nilFunc]) := ⟨by kernel_rfl, by kernel_rfl⟩
theorem k_369 : tyOk Go.Proofs.Tryz.prog 369 (.one [.sc .nilFunc]) := ⟨by kernel_rfl, by kernel_rfl⟩
theorem k_370 : tyOk Go.Proofs.Tryz.prog 370 (.one [.sc .nilFunc]) := ⟨by kernel_rfl, by kernel_rfl⟩
theorem k_371 : tyOk Go.Proofs.Tryz.prog 371 (.agg [(0, 1), (1, 1), (2, 1), (3, 1)] [.row [], .sc (.int .i64 0), .sc (.int .i64 0), .sc (.bool false)]) := ⟨by kernel_rfl, by kernel_rfl, by kernel_rfl⟩
theorem k_372 : tyOk Go.Proofs.Tryz.prog 372 (.agg [(0, 1), (1, 1), (2, 1), (3, 1)] [.row [], .sc (.int .i64 0), .sc (.int .i64 0), .sc (.bool false)]) := ⟨by kernel_rfl, by kernel_rfl, by kernel_rfl⟩
theorem k_373 : tyOk Go.Proofs.Tryz.prog 373 (.one [.sc .nilFunc]) := ⟨by kernel_rfl, by kernel_rfl⟩
theorem k_374 : tyOk Go.Proofs.Tryz.prog 374 (.one [.sc .nilFunc]) := ⟨by kernel_rfl, by kernel_rfl⟩
theorem k_375 : tyOk Go.Proofs.Tryz.prog 375 (.one [.sc .nilFunc]) := ⟨by kernel_rfl, by kernel_rfl⟩
theorem k_376 : tyOk Go.Proofs.Tryz.prog 376 (.one [.sc .nilFunc]) := ⟨by kernel_rfl, by kernel_rfl⟩
theorem k_377 : tyOk Go.Proofs.Tryz.prog 377 (.one [.sc .nilFunc]) := ⟨by kernel_rfl, by kernel_rfl⟩
theorem k_378 : tyOk Go.Proofs.Tryz.prog 378 (.one [.sc .nilFunc]) := ⟨by kernel_rfl, by kernel_rfl⟩
theorem k_379 : tyOk Go.Proofs.Tryz.prog 379 (.one [.sc .nilFunc]) := ⟨by kernel_rfl, by kernel_rfl⟩
theorem k_380 : tyOk Go.Proofs.Tryz.prog 380 (.one [.sc .nilFunc]) := ⟨by kernel_rfl, by kernel_rfl⟩
theorem k_381 : tyOk Go.Proofs.Tryz.prog 381 (.one [.sc (.map none)]) := ⟨by kernel_rfl, by kernel_rfl⟩
theorem k_382 : tyOk Go.Proofs.Tryz.prog 382 (.agg [] []) := ⟨by kernel_rfl, by kernel_rfl, by kernel_rfl⟩
theorem k_384 : tyOk Go.Proofs.Tryz.prog 384 (.one [.sc (.float .f64 0)]) := ⟨by kernel_rfl, by kernel_rfl⟩
theorem k_385 : tyOk Go.Proofs.Tryz.prog 385 (.one [.sc .nilFunc]) := ⟨by kernel_rfl, by kernel_rfl⟩
theorem k_386 : tyOk Go.Proofs.Tryz.prog 386 (.agg [(0, 1), (1, 1), (2, 1), (3, 1)] [.sc (.int .i64 0), .sc (.bool false), .sc (.int .i64 0), .row []]) := ⟨by kernel_rfl, by kernel_rfl, by kernel_rfl⟩
theorem k_387 : tyOk Go.Proofs.Tryz.prog 387 (.agg [(0, 1), (1, 1), (2, 1), (3, 1)] [.sc (.int .i64 0), .sc (.bool false), .sc (.int .i64 0), .row []]) := ⟨by kernel_rfl, by kernel_rfl, by kernel_rfl⟩
theorem k_389 : tyOk Go.Proofs.Tryz.prog 389 (.one [.sc .nilFunc]) := ⟨by kernel_rfl, by kernel_rfl⟩
theorem k_390 : tyOk Go.Proofs.Tryz.prog 390 (.one [.sc .nilFunc]) := ⟨by kernel_rfl, by kernel_rfl⟩
theorem k_391 : tyOk Go.Proofs.Tryz.prog 391 (.one [.sc .nilFunc]) := ⟨by kernel_rfl, by kernel_rfl⟩
theorem k_393 : tyOk Go.Proofs.Tryz.prog 393 (.one [.sc .nilFunc]) := ⟨by kernel_rfl, by kernel_rfl⟩
theorem k_398 : tyOk Go.Proofs.Tryz.prog 398 (.one [.sc .nilFunc]) := ⟨by kernel_rfl, by kernel_rfl⟩
theorem k_399 : tyOk Go.Proofs.Tryz.prog 399 (.one [.sc .nilFunc]) := ⟨by kernel_rfl, by kernel_rfl⟩
theorem k_400 : tyOk Go.Proofs.Tryz.prog 400 (.one [.sc .nilFunc]) := ⟨by kernel_rfl, by kernel_rfl⟩
theorem k_401 : tyOk Go.Proofs.Tryz.prog 401 (.one [.sc .nilFunc]) := ⟨by kernel_rfl, by kernel_rfl⟩
theorem k_402 : tyOk Go.Proofs.Tryz.prog 402 (.one [.sc .nilFunc]) := ⟨by kernel_rfl, by kernel_rfl⟩
theorem k_404 : tyOk Go.Proofs.Tryz.prog 404 (.one [.sc .nilFunc]) := ⟨by kernel_rfl, by kernel_rfl⟩
theorem k_405 : tyOk Go.Proofs.Tryz.prog 405 (.one [.sc .nilFunc]) := ⟨by kernel_rfl, by kernel_rfl⟩
theorem k_406 : tyOk Go.Proofs.Tryz.prog 406 (.one [.sc .nilFunc]) := ⟨by kernel_rfl, by kernel_rfl⟩
theorem k_407 : tyOk Go.Proofs.Tryz.prog 407 (.one [.sc (.int .i64 0)]) := ⟨by kernel_rfl, by kernel_rfl⟩
theorem k_409 : tyOk Go.Proofs.Tryz.prog 409 (.one [.sc .nilFunc]) := ⟨by kernel_rfl, by kernel_rfl⟩
theorem k_410 : tyOk Go.Proofs.Tryz.prog 410 (.one [.sc .nilFunc]) := ⟨by kernel_rfl, by kernel_rfl⟩
theorem k_411 : tyOk Go.Proofs.Tryz.prog 411 (.one [.sc .nilFunc]) := ⟨by kernel_rfl, by kernel_rfl⟩
theorem k_413 : tyOk Go.Proofs.Tryz.prog 413 (.one [.sc .nilFunc]) := ⟨by kernel_rfl, by kernel_rfl⟩
theorem k_414 : tyOk Go.Proofs.Tryz.prog 414 (.one [.sc .nilFunc]) := ⟨by kernel_rfl, by kernel_rfl⟩
theorem k_415 : tyOk Go.Proofs.Tryz.prog 415 (.one [.sc .nilFunc]) := ⟨by kernel_rfl, by kernel_rfl⟩
theorem k_416 : tyOk Go.Proofs.Tryz.prog 416 (.one [.sc .nilFunc]) := ⟨by kernel_rfl, by kernel_rfl⟩
theorem k_417 : tyOk Go.Proofs.Tryz.prog 417 (.one [.sc .nilFunc]) := ⟨by kernel_rfl, by kernel_rfl⟩
theorem k_418 : tyOk Go.Proofs.Tryz.prog 418 (.one [.sc .nilFunc]) := ⟨by kernel_rfl, by kernel_rfl⟩
theorem k_419 : tyOk Go.Proofs.Tryz.prog 419 (.one [.sc .nilFunc]) := ⟨by kernel_rfl, by kernel_rfl⟩
theorem k_420 : tyOk Go.Proofs.Tryz.prog 420 (.one [.sc .nilFunc]) := ⟨by kernel_rfl, by kernel_rfl⟩
theorem k_421 : tyOk Go.Proofs.Tryz.prog 421 (.one [.sc .nilFunc]) := ⟨by kernel_rfl, by kernel_rfl⟩
theorem k_423 : tyOk Go.Proofs.Tryz.prog 423 (.one [.sc .nilFunc]) := ⟨by kernel_rfl, by kernel_rfl⟩
theorem k_424 : tyOk Go.Proofs.Tryz.prog 424 (.one [.sc .nilFunc]) := ⟨by kernel_rfl, by kernel_rfl⟩
theorem k_426 : tyOk Go.Proofs.Tryz.prog 426 (.one [.sc .nilFunc]) := ⟨by kernel_rfl, by kernel_rfl⟩
theorem k_427 : tyOk Go.Proofs.Tryz.prog 427 (.one [.sc .nilFunc]) := ⟨by kernel_rfl, by kernel_rfl⟩
theorem k_428 : tyOk Go.Proofs.Tryz.prog 428 (.one [.sc .nilFunc]) := ⟨by kernel_rfl, by kernel_rfl⟩
theorem k_429 : tyOk Go.Proofs.Tryz.prog 429 (.one [.sc .nilFunc]) := ⟨by kernel_rfl, by kernel_rfl⟩
theorem k_431 : tyOk Go.Proofs.Tryz.prog 431 (.one [.sc .nilFunc]) := ⟨by kernel_rfl, by kernel_rfl⟩
theorem k_432 : tyOk Go.Proofs.Tryz.prog 432 (.one [.sc .nilFunc]) := ⟨by kernel_rfl, by kernel_rfl⟩
theorem k_433 : tyOk Go.Proofs.Tryz.prog 433 (.one [.sc .nilFunc]) := ⟨by kernel_rfl, by kernel_rfl⟩
theorem k_434 : tyOk Go.Proofs.Tryz.prog 434 (.one [.sc .nilFunc]) := ⟨by kernel_rfl, by kernel_rfl⟩
theorem k_435 : tyOk Go.Proofs.Tryz.prog 435 (.one [.sc .nilFunc]) := ⟨by kernel_rfl, by kernel_rfl⟩
theorem k_436 : tyOk Go.Proofs.Tryz.prog 436 (.one [.sc .nilFunc]) := ⟨by kernel_rfl, by kernel_rfl⟩
theorem k_438 : tyOk Go.Proofs.Tryz.prog 438 (.one [.sc .nilFunc]) := ⟨by kernel_rfl, by kernel_rfl⟩
theorem k_439 : tyOk Go.Proofs.Tryz.prog 439 (.one [.sc .nilFunc]) := ⟨by kernel_rfl, by kernel_rfl⟩
theorem k_440 : tyOk Go.Proofs.Tryz.prog 440 (.one [.sc .nilFunc]) := ⟨by kernel_rfl, by kernel_rfl⟩
theorem k_441 : tyOk Go.Proofs.Tryz.prog 441 (.one [.sc .nilFunc]) := ⟨by kernel_rfl, by kernel_rfl⟩
theorem k_442 : tyOk Go.Proofs.Tryz.prog 442 (.one [.sc .nilFunc]) := ⟨by kernel_rfl, by kernel_rfl⟩
theorem k_444 : tyOk Go.Proofs.Tryz.prog 444 (.one [.sc .nilFunc]) := ⟨by kernel_rfl, by kernel_rfl⟩
theorem k_446 : tyOk Go.Proofs.Tryz.prog 446 (.one [.sc .nilFunc]) := ⟨by kernel_rfl, by kernel_rfl⟩
theorem k_447 : tyOk Go.Proofs.Tryz.prog 447 (.one [.sc .nilFunc]) := ⟨by kernel_rfl, by kernel_rfl⟩
theorem k_448 : tyOk Go.Proofs.Tryz.prog 448 (.one [.sc .nilFunc]) := ⟨by kernel_rfl, by kernel_rfl⟩
theorem k_449 : tyOk Go.Proofs.Tryz.prog 449 (.one [.sc .nilFunc]) := ⟨by kernel_rfl, by kernel_rfl⟩
theorem k_450 : tyOk Go.Proofs.Tryz.prog 450 (.one [.sc .nilFunc]) := ⟨by kernel_rfl, by kernel_rfl⟩
theorem k_452 : tyOk Go.Proofs.Tryz.prog 452 (.one [.sc .nilFunc]) := ⟨by kernel_rfl, by kernel_rfl⟩
theorem k_454 : tyOk Go.Proofs.Tryz.prog 454 (.one [.sc .nilFunc]) := ⟨by kernel_rfl, by kernel_rfl⟩
theorem k_455 : tyOk Go.Proofs.Tryz.prog 455 (.one [.sc .nilFunc]) := ⟨by kernel_rfl, by kernel_rfl⟩
theorem k_457 : tyOk Go.Proofs.Tryz.prog 457 (.one [.sc .nilFunc]) := ⟨by kernel_rfl, by kernel_rfl⟩
theorem k_458 : tyOk Go.Proofs.Tryz.prog 458 (.one [.sc .nilFunc]) := ⟨by kernel_rfl, by kernel_rfl⟩
theorem k_459 : tyOk Go.Proofs.Tryz.prog 459 (.one [.sc .nilFunc]) := ⟨by kernel_rfl, by kernel_rfl⟩
theorem k_460 : tyOk Go.Proofs.Tryz.prog 460 (.one [.sc .nilFunc]) := ⟨by kernel_rfl, by kernel_rfl⟩
theorem k_462 : tyOk Go.Proofs.Tryz.prog 462 (.one [.sc .nilFunc]) := ⟨by kernel_rfl, by kernel_rfl⟩
theorem k_463 : tyOk Go.Proofs.Tryz.prog 463 (.arr 2 384 1 [.sc (.float .f64 0), .sc (.float .f64 0)]) := ⟨by kernel_rfl, by kernel_rfl, by kernel_rfl⟩
theorem k_464 : tyOk Go.Proofs.Tryz.prog 464 (.one [.sc .nilFunc]) := ⟨by kernel_rfl, by kernel_rfl⟩
theorem k_465 : tyOk Go.Proofs.Tryz.prog 465 (.one [.sc .nilFunc]) := ⟨by kernel_rfl, by kernel_rfl⟩
theorem k_467 : tyOk Go.Proofs.Tryz.prog 467 (.one [.sc .nilFunc]) := ⟨by kernel_rfl, by kernel_rfl⟩
theorem k_468 : tyOk Go.Proofs.Tryz.prog 468 (.one [.sc .nilFunc]) := ⟨by kernel_rfl, by kernel_rfl⟩
theorem k_469 : tyOk Go.Proofs.Tryz.prog 469 (.one [.sc .nilFunc]) := ⟨by kernel_rfl, by kernel_rfl⟩
theorem k_470 : tyOk Go.Proofs.Tryz.prog 470 (.one [.sc .nilFunc]) := ⟨by kernel_rfl, by kernel_rfl⟩
theorem k_471 : tyOk Go.Proofs.Tryz.prog 471 (.one [.sc (.int .u64 0)]) := ⟨by kernel_rfl, by kernel_rfl⟩
theorem k_472 : tyOk Go.Proofs.Tryz.prog 472 (.one [.sc .nilFunc]) := ⟨by kernel_rfl, by kernel_rfl⟩
theorem k_473 : tyOk Go.Proofs.Tryz.prog 473 (.one [.sc .nilFunc]) := ⟨by kernel_rfl, by kernel_rfl⟩
theorem k_474 : tyOk Go.Proofs.Tryz.prog 474 (.one [.sc .nilFunc]) := ⟨by kernel_rfl, by kernel_rfl⟩
theorem k_475 : tyOk Go.Proofs.Tryz.prog 475 (.one [.sc (.pointer none)]) := ⟨by kernel_rfl, by kernel_rfl⟩
theorem k_476 : tyOk Go.Proofs.Tryz.prog 476 (.one [.sc .nilFunc]) := ⟨by kernel_rfl, by kernel_rfl⟩
theorem k_477 : tyOk Go.Proofs.Tryz.prog 477 (.one [.sc .nilFunc]) := ⟨by kernel_rfl, by kernel_rfl⟩
theorem k_478 : tyOk Go.Proofs.Tryz.prog 478 (.one [.sc .nilFunc]) := ⟨by kernel_rfl, by kernel_rfl⟩
theorem k_479 : tyOk Go.Proofs.Tryz.prog 479 (.one [.sc .nilFunc]) := ⟨by kernel_rfl, by kernel_rfl⟩
theorem k_480 : tyOk Go.Proofs.Tryz.prog 480 (.one [.sc .nilFunc]) := ⟨by kernel_rfl, by kernel_rfl⟩
theorem k_481 : tyOk Go.Proofs.Tryz.prog 481 (.one [.sc .nilFunc]) := ⟨by kernel_rfl, by kernel_rfl⟩
theorem k_482 : tyOk Go.Proofs.Tryz.prog 482 (.one [.sc .nilFunc]) := ⟨by kernel_rfl, by kernel_rfl⟩
theorem k_483 : tyOk Go.Proofs.Tryz.prog 483 (.one [.sc .nilFunc]) := ⟨by kernel_rfl, by kernel_rfl⟩
theorem k_484 : tyOk Go.Proofs.Tryz.prog 484 (.one [.sc .nilFunc]) := ⟨by kernel_rfl, by kernel_rfl⟩
theorem k_485 : tyOk Go.Proofs.Tryz.prog 485 (.one [.sc .nilFunc]) := ⟨by kernel_rfl, by kernel_rfl⟩
theorem k_487 : tyOk Go.Proofs.Tryz.prog 487 (.one [.sc .nilFunc]) := ⟨by kernel_rfl, by kernel_rfl⟩
theorem k_488 : tyOk Go.Proofs.Tryz.prog 488 (.one [.sc .nilFunc]) := ⟨by kernel_rfl, by kernel_rfl⟩
theorem k_489 : tyOk Go.Proofs.Tryz.prog 489 (.one [.sc .nilFunc]) := ⟨by kernel_rfl, by kernel_rfl⟩
theorem k_490 : tyOk Go.Proofs.Tryz.prog 490 (.one [.sc .nilFunc]) := ⟨by kernel_rfl, by kernel_rfl⟩
theorem k_491 : tyOk Go.Proofs.Tryz.prog 491 (.one [.sc .nilFunc]) := ⟨by kernel_rfl, by kernel_rfl⟩
theorem k_493 : tyOk Go.Proofs.Tryz.prog 493 (.one [.sc .nilFunc]) := ⟨by kernel_rfl, by kernel_rfl⟩
theorem k_494 : tyOk Go.Proofs.Tryz.prog 494 (.one [.sc (.pointer none)]) := ⟨by kernel_rfl, by kernel_rfl⟩
theorem k_496 : tyOk Go.Proofs.Tryz.prog 496 (.one [.sc .nilFunc]) := ⟨by kernel_rfl, by kernel_rfl⟩
theorem k_497 : tyOk Go.Proofs.Tryz.prog 497 (.one [.sc .nilFunc]) := ⟨by kernel_rfl, by kernel_rfl⟩
theorem k_498 : tyOk Go.Proofs.Tryz.prog 498 (.one [.sc .nilFunc]) := ⟨by kernel_rfl, by kernel_rfl⟩
theorem k_499 : tyOk Go.Proofs.Tryz.prog 499 (.one [.sc .nilFunc]) := ⟨by kernel_rfl, by kernel_rfl⟩
theorem k_500 : tyOk Go.Proofs.Tryz.prog 500 (.one [.sc .nilFunc]) := ⟨by kernel_rfl, by kernel_rfl⟩
theorem k_501 : tyOk Go.Proofs.Tryz.prog 501 (.one [.sc .nilFunc]) := ⟨by kernel_rfl, by kernel_rfl⟩
theorem k_502 : tyOk Go.Proofs.Tryz.prog 502 (.one [.sc .nilFunc]) := ⟨by kernel_rfl, by kernel_rfl⟩
theorem k_503 : tyOk Go.Proofs.Tryz.prog 503 (.one [.sc .nilFunc]) := ⟨by kernel_rfl, by kernel_rfl⟩
theorem k_504 : tyOk Go.Proofs.Tryz.prog 504 (.one [.sc .nilFunc]) := ⟨by kernel_rfl, by kernel_rfl⟩
theorem k_505 : tyOk Go.Proofs.Tryz.prog 505 (.one [.sc .nilFunc]) := ⟨by kernel_rfl, by kernel_rfl⟩
theorem k_506 : tyOk Go.Proofs.Tryz.prog 506 (.one [.sc .nilFunc]) := ⟨by kernel_rfl, by kernel_rfl⟩
theorem k_507 : tyOk Go.Proofs.Tryz.prog 507 (.one [.sc .nilFunc]) := ⟨by kernel_rfl, by kernel_rfl⟩
theorem k_508 : tyOk Go.Proofs.Tryz.prog 508 (.one [.sc .nilFunc]) := ⟨by kernel_rfl, by kernel_rfl⟩
theorem k_509 : tyOk Go.Proofs.Tryz.prog 509 (.one [.sc .nilFunc]) := ⟨by kernel_rfl, by kernel_rfl⟩
theorem k_510 : tyOk Go.Proofs.Tryz.prog 510 (.one [.sc .nilFunc]) := ⟨by kernel_rfl, by kernel_rfl⟩
theorem k_511 : tyOk Go.Proofs.Tryz.prog 511 (.one [.sc .nilFunc]) := ⟨by kernel_rfl, by kernel_rfl⟩
theorem k_512 : tyOk Go.Proofs.Tryz.prog 512 (.one [.sc .nilFunc]) := ⟨by kernel_rfl, by kernel_rfl⟩
theorem k_513 : tyOk Go.Proofs.Tryz.prog 513 (.one [.sc .nilFunc]) := ⟨by kernel_rfl, by kernel_rfl⟩
theorem k_514 : tyOk Go.Proofs.Tryz.prog 514 (.arrB 256 5 1) := ⟨by kernel_rfl, by kernel_rfl⟩
theorem k_515 : tyOk Go.Proofs.Tryz.prog 515 (.agg [(0, 1), (1, 1)] [.sc (.int .u8 0), .sc (.int .u8 0)]) := ⟨by kernel_rfl, by kernel_rfl, by kernel_rfl⟩
theorem k_516 : tyOk Go.Proofs.Tryz.prog 516 (.agg [(0, 1), (1, 1)] [.sc (.int .u8 0), .sc (.int .u8 0)]) := ⟨by kernel_rfl, by kernel_rfl, by kernel_rfl⟩
theorem k_517 : tyOk Go.Proofs.Tryz.prog 517 (.arr 16 516 2 [.sc (.int .u8 0), .sc (.int .u8 0), .sc (.int .u8 0), .sc (.int .u8 0), .sc (.int .u8 0), .sc (.int .u8 0), .sc (.int .u8 0), .sc (.int .u8 0), .sc (.int .u8 0), .sc (.int .u8 0), .sc (.int .u8 0), .sc (.int .u8 0), .sc (.int .u8 0), .sc (.int .u8 0), .sc (.int .u8 0), .sc (.int .u8 0), .sc (.int .u8 0), .sc (.int .u8 0), .sc (.int .u8 0), .sc (.int .u8 0), .sc (.int .u8 0), .sc (.int .u8 0), .sc (.int .u8 0), .sc (.int .u8 0), .sc (.int .u8 0), .sc (.int .u8 0), .sc (.int .u8 0), .sc (.int .u8 0), .sc (.int .u8 0), .sc (.int .u8 0), .sc (.int .u8 0), .sc (.int .u8 0)]) := ⟨by kernel_rfl, by kernel_rfl, by kernel_rfl⟩
theorem k_518 : tyOk Go.Proofs.Tryz.prog 518 (.one [.sc .nilFunc]) := ⟨by kernel_rfl, by kernel_rfl⟩
theorem k_519 : tyOk Go.Proofs.Tryz.prog 519 (.one [.sc .nilFunc]) := ⟨by kernel_rfl, by kernel_rfl⟩
theorem k_520 : tyOk Go.Proofs.Tryz.prog 520 (.one [.sc .nilFunc]) := ⟨by kernel_rfl, by kernel_rfl⟩
theorem k_521 : tyOk Go.Proofs.Tryz.prog 521 (.agg [(0, 1), (1, 1), (2, 1), (3, 1)] [.sc (.pointer none), .sc (.pointer none), .sc (.pointer none), .sc (.string ⟨#[]⟩)]) := ⟨by kernel_rfl, by kernel_rfl, by kernel_rfl⟩
theorem k_522 : tyOk Go.Proofs.Tryz.prog 522 (.agg [(0, 1), (1, 1), (2, 1), (3, 1)] [.sc (.pointer none), .sc (.pointer none), .sc (.pointer none), .sc (.string ⟨#[]⟩)]) := ⟨by kernel_rfl, by kernel_rfl, by kernel_rfl⟩
theorem k_523 : tyOk Go.Proofs.Tryz.prog 523 (.arr 0 16 1 []) := ⟨by kernel_rfl, by kernel_rfl, by kernel_rfl⟩
theorem k_524 : tyOk Go.Proofs.Tryz.prog 524 (.agg [(0, 0)] []) := ⟨by kernel_rfl, by kernel_rfl, by kernel_rfl⟩
theorem k_525 : tyOk Go.Proofs.Tryz.prog 525 (.agg [(0, 0)] []) := ⟨by kernel_rfl, by kernel_rfl, by kernel_rfl⟩
theorem k_526 : tyOk Go.Proofs.Tryz.prog 526 (.one [.sc (.int .u8 0)]) := ⟨by kernel_rfl, by kernel_rfl⟩
theorem k_527 : tyOk Go.Proofs.Tryz.prog 527 (.one [.sc (.int .u8 0)]) := ⟨by kernel_rfl, by kernel_rfl⟩
theorem k_528 : tyOk Go.Proofs.Tryz.prog 528 (.one [.sc .nilFunc]) := ⟨by kernel_rfl, by kernel_rfl⟩
theorem k_529 : tyOk Go.Proofs.Tryz.prog 529 (.one [.sc (.int .i32 0)]) := ⟨by kernel_rfl, by kernel_rfl⟩
theorem k_530 : tyOk Go.Proofs.Tryz.prog 530 (.one [.sc (.int .i32 0)]) := ⟨by kernel_rfl, by kernel_rfl⟩
theorem k_531 : tyOk Go.Proofs.Tryz.prog 531 (.agg [(0, 1), (1, 1), (2, 1), (3, 1), (4, 1), (5, 1), (6, 1), (7, 1), (8, 1), (9, 1), (10, 1)] [.sc (.int .u64 0), .sc (.int .u64 0), .sc (.int .u32 0), .sc (.int .u8 0), .sc (.int .u8 0), .sc (.int .u8 0), .sc (.int .u8 0), .sc .nilFunc, .sc (.pointer none), .sc (.int .i32 0), .sc (.int .i32 0)]) := ⟨by kernel_rfl, by kernel_rfl, by kernel_rfl⟩
theorem k_532 : tyOk Go.Proofs.Tryz.prog 532 (.agg [(0, 1), (1, 1), (2, 1), (3, 1), (4, 1), (5, 1), (6, 1), (7, 1), (8, 1), (9, 1), (10, 1)] [.sc (.int .u64 0), .sc (.int .u64 0), .sc (.int .u32 0), .sc (.int .u8 0), .sc (.int .u8 0), .sc (.int .u8 0), .sc (.int .u8 0), .sc .nilFunc, .sc (.pointer none), .sc (.int .i32 0), .sc (.int .i32 0)]) := ⟨by kernel_rfl, by kernel_rfl, by kernel_rfl⟩
theorem sm {p : TyI → Prop} {a : TyI} (h : p a) : ∀ i, some a = some i → p i := fun i e => by injection e with e; subst e; exact h
theorem nn {p : TyI → Prop} : ∀ i, (none : Option TyI) = some i → p i := fun i e => by cases e
def tt : TT := .node (none) (.node (some (.one [.sc .nilFunc])) (.node (some (.one [.sc (.int .i64 0)])) (.node (some (.agg [(0, 1), (1, 1), (2, 1), (3, 1)] [.sc (.int .i64 0), .sc (.int .i64 0), .sc (.bool false), .sc (.int .u8 0)])) (.node (some (.one [.sc (.pointer none)])) (.node (some (.one [.sc .nilFunc])) (.node (some (.one [.sc .nilFunc])) (.node (some (.one [.sc (.pointer none)])) (.node (some (.one [.sc .nilFunc])) (.node (some (.one [.sc .nilFunc])) (.leaf) (.leaf)) (.leaf)) (.leaf)) (.node (some (.agg [(0, 6)] [.row [], .row [], .row [], .row [], .row [], .row []])) (.node (some (.one [.sc .nilFunc])) (.leaf) (.leaf)) (.node (some (.one [.sc .nilFunc])) (.leaf) (.leaf)))) (.node (some (.one [.sc .nilFunc])) (.node (some (.one [.sc .nilFunc])) (.node (some (.one [.sc (.pointer none)])) (.leaf) (.leaf)) (.node (some (.one [.sc .nilFunc])) (.leaf) (.leaf))) (.node (some (.one [.sc .nilFunc])) (.node (some (.one [.sc .nilFunc])) (.leaf) (.leaf)) (.node (some (.one [.sc .nilFunc])) (.leaf) (.leaf))))) (.node (some (.agg [(0, 1), (1, 1), (2, 1), (3, 1), (4, 1), (5, 1), (6, 1), (7, 26)] [.sc (.int .i64 0), .sc (.int .i64 0), .sc (.int .i64 0), .sc (.int .i64 0), .sc (.int .i64 0), .sc (.int .i64 0), .sc (.int .i64 0), .sc (.int .i64 0), .sc (.string ⟨#[]⟩), .sc (.string ⟨#[]⟩), .sc (.int .i64 0), .sc (.string ⟨#[]⟩), .sc (.string ⟨#[]⟩), .sc (.int .i64 0), .sc (.string ⟨#[]⟩), .sc (.int .i64 0), .sc (.int .i64 0), .sc (.int .i64 0), .sc (.int .i64 0), .sc (.string ⟨#[]⟩), .sc (.string ⟨#[]⟩), .sc (.string ⟨#[]⟩), .sc (.string ⟨#[]⟩), .sc (.int .i64 0), .sc (.int .i64 0), .sc (.string ⟨#[]⟩), .sc (.string ⟨#[]⟩), .sc (.int .i64 0), .sc (.string ⟨#[]⟩), .row [], .sc (.int .i64 0), .row [], .row []])) (.node (some (.one [.sc .nilFunc])) (.node (some (.one [.sc (.pointer none)])) (.node (some (.one [.sc .nilFunc])) (.node (some (.one [.sc (.int .u8 0)])) (.leaf) (.leaf)) (.leaf)) (.node (some (.one [.sc .nilFunc])) (.leaf) (.leaf))) (.node (some (.one [.sc .nilFunc])) (.node (some (.one [.sc .nilFunc])) (.leaf) (.leaf)) (.node (some (.arr 2 384 1 [.sc (.float .f64 0), .sc (.float .f64 0)])) (.leaf) (.leaf)))) (.node (some (.slice 3 1 8)) (.node (none) (.node (some (.slice 109 1 24)) (.leaf) (.leaf)) (.node (some (.one [.sc .nilFunc])) (.leaf) (.leaf))) (.node (none) (.node (some (.one [.sc .nilFunc])) (.leaf) (.leaf)) (.leaf))))) (.node (some (.agg [(0, 1), (1, 1)] [.sc (.int .i64 0), .sc (.int .i64 0)])) (.node (some (.agg [(0, 3), (3, 1), (4, 1), (5, 1), (6, 1)] [.sc (.int .i64 0), .sc (.string ⟨#[]⟩), .sc (.string ⟨#[]⟩), .sc (.int .i64 0), .sc (.string ⟨#[]⟩), .row [], .sc (.int .i64 0)])) (.node (some (.agg [(0, 1), (1, 1)] [.row [], .row []])) (.node (none) (.node (some (.agg [(0, 2), (2, 2), (4, 1), (5, 1), (6, 1), (7, 1), (8, 3), (11, 1), (12, 1), (13, 1), (14, 1)] [.sc (.int .i64 0), .sc (.int .i64 0), .sc (.int .i64 0), .sc (.int .i64 0), .sc (.int .i64 0), .sc (.string ⟨#[]⟩), .sc (.int .i64 0), .sc (.string ⟨#[]⟩), .sc (.int .i64 0), .sc (.string ⟨#[]⟩), .sc (.string ⟨#[]⟩), .sc (.int .i64 0), .sc (.bool false), .sc (.string ⟨#[]⟩), .row []])) (.node (some (.one [.sc .nilFunc])) (.leaf) (.leaf)) (.leaf)) (.node (some (.one [.sc .nilFunc])) (.leaf) (.leaf))) (.node (some (.one [.sc .nilFunc])) (.node (some (.one [.sc .nilFunc])) (.leaf) (.leaf)) (.node (some (.one [.sc .nilFunc])) (.leaf) (.leaf)))) (.node (some (.one [.sc .nilFunc])) (.node (none) (.node (some (.one [.sc .nilFunc])) (.leaf) (.leaf)) (.node (some (.one [.sc .nilFunc])) (.leaf) (.leaf))) (.node (some (.arr 4 109 1 [.row [], .row [], .row [], .row []])) (.node (some (.one [.sc .nilFunc])) (.leaf) (.leaf)) (.node (some (.one [.sc .nilFunc])) (.leaf) (.leaf))))) (.node (none) (.node (some (.agg [(0, 1), (1, 1), (2, 1), (3, 1), (4, 1)] [.row [], .row [], .row [], .row [], .row []])) (.node (some (.one [.sc .nilFunc])) (.node (some (.one [.sc .nilFunc])) (.leaf) (.leaf)) (.node (some (.one [.sc (.int .i64 0)])) (.leaf) (.leaf))) (.node (some (.agg [(0, 1), (1, 1), (2, 1)] [.sc (.int .i64 0), .sc (.int .i64 0), .row []])) (.node (some (.one [.sc (.map none)])) (.leaf) (.leaf)) (.node (some (.one [.sc (.int .u64 0)])) (.leaf) (.leaf)))) (.node (some (.one [.sc .nilFunc])) (.node (none) (.node (some (.one [.sc .nilFunc])) (.leaf) (.leaf)) (.node (some (.one [.sc .nilFunc])) (.leaf) (.leaf))) (.node (some (.one [.sc (.pointer none)])) (.node (some (.one [.sc .nilFunc])) (.leaf) (.leaf)) (.node (some (.one [.sc .nilFunc])) (.leaf) (.leaf))))))) (.node (some (.str)) (.node (some (.agg [(0, 1)] [.sc (.pointer none)])) (.node (some (.one [.sc .nilFunc])) (.node (some (.one [.sc .nilFunc])) (.node (some (.one [.sc (.pointer none)])) (.node (some (.one [.sc .nilFunc])) (.node (some (.agg [(0, 1), (1, 1)] [.sc (.int .u8 0), .sc (.int .u8 0)])) (.leaf) (.leaf)) (.leaf)) (.node (some (.agg [(0, 1), (1, 1), (2, 1), (3, 1)] [.sc (.int .i64 0), .sc (.bool false), .sc (.int .i64 0), .row []])) (.leaf) (.leaf))) (.node (some (.slice 40 7 96)) (.node (some (.one [.sc .nilFunc])) (.leaf) (.leaf)) (.leaf))) (.node (some (.one [.sc .nilFunc])) (.node (some (.agg [(0, 1), (1, 1)] [.sc (.pointer none), .row []])) (.node (some (.one [.sc .nilFunc])) (.leaf) (.leaf)) (.node (some (.one [.sc .nilFunc])) (.leaf) (.leaf))) (.node (some (.agg [(0, 1), (1, 1), (2, 1), (3, 1), (4, 1)] [.row [], .row [], .sc (.bool false), .sc (.complex .f64 0 0), .sc (.int .i64 0)])) (.node (some (.agg [(0, 2), (2, 1)] [.sc (.int .i64 0), .sc (.int .i64 0), .sc (.bool false)])) (.leaf) (.leaf)) (.node (some (.one [.sc .nilFunc])) (.leaf) (.leaf))))) (.node (some (.one [.sc .nilFunc])) (.node (some (.slice 2 1 8)) (.node (some (.one [.sc .nilFunc])) (.node (some (.slice 43 16 232)) (.node (some (.agg [(0, 1), (1, 1), (2, 1), (3, 1), (4, 1), (5, 1), (6, 1), (7, 1), (8, 1), (9, 1), (10, 1)] [.sc (.int .u64 0), .sc (.int .u64 0), .sc (.int .u32 0), .sc (.int .u8 0), .sc (.int .u8 0), .sc (.int .u8 0), .sc (.int .u8 0), .sc .nilFunc, .sc (.pointer none), .sc (.int .i32 0), .sc (.int .i32 0)])) (.leaf) (.leaf)) (.leaf)) (.leaf)) (.node (some (.agg [(0, 1), (1, 1), (2, 1), (3, 6), (9, 1), (10, 1), (11, 1)] [.sc (.int .i64 0), .sc (.int .i64 0), .sc (.int .i64 0), .sc (.int .i64 0), .sc (.int .i64 0), .sc (.int .i64 0), .sc (.int .i64 0), .sc (.int .i64 0), .sc (.int .i64 0), .row [], .row [], .row []])) (.node (some (.one [.sc .nilFunc])) (.leaf) (.leaf)) (.node (some (.one [.sc .nilFunc])) (.leaf) (.leaf)))) (.node (some (.one [.sc .nilFunc])) (.node (some (.one [.sc .nilFunc])) (.node (some (.one [.sc (.pointer none)])) (.leaf) (.leaf)) (.node (some (.one [.sc .nilFunc])) (.leaf) (.leaf))) (.node (some (.one [.sc .nilFunc])) (.node (some (.agg [(0, 1), (1, 1), (2, 1), (3, 1)] [.row [], .sc (.int .i64 0), .sc (.int .i64 0), .sc (.bool false)])) (.leaf) (.leaf)) (.node (some (.one [.sc .nilFunc])) (.leaf) (.leaf)))))) (.node (some (.one [.sc .nilFunc])) (.node (some (.agg [(0, 1), (1, 3), (4, 1), (5, 1), (6, 1), (7, 7), (14, 1), (15, 1)] [.sc (.int .i64 0), .sc (.int .i64 0), .sc (.string ⟨#[]⟩), .sc (.string ⟨#[]⟩), .sc (.string ⟨#[]⟩), .sc (.string ⟨#[]⟩), .sc (.int .i64 0), .sc (.int .i64 0), .sc (.string ⟨#[]⟩), .sc (.string ⟨#[]⟩), .sc (.int .i64 0), .sc (.string ⟨#[]⟩), .row [], .sc (.int .i64 0), .row [], .row []])) (.node (some (.agg [(0, 1)] [.sc (.pointer none)])) (.node (some (.one [.sc .nilFunc])) (.node (some (.one [.sc .nilFunc])) (.node (some (.arr 0 16 1 [])) (.leaf) (.leaf)) (.leaf)) (.leaf)) (.node (none) (.node (some (.one [.sc .nilFunc])) (.leaf) (.leaf)) (.node (some (.one [.sc .nilFunc])) (.leaf) (.leaf)))) (.node (some (.arr 20 5 1 [.sc (.int .u8 0), .sc (.int .u8 0), .sc (.int .u8 0), .sc (.int .u8 0), .sc (.int .u8 0), .sc (.int .u8 0), .sc (.int .u8 0), .sc (.int .u8 0), .sc (.int .u8 0), .sc (.int .u8 0), .sc (.int .u8 0), .sc (.int .u8 0), .sc (.int .u8 0), .sc (.int .u8 0), .sc (.int .u8 0), .sc (.int .u8 0), .sc (.int .u8 0), .sc (.int .u8 0), .sc (.int .u8 0), .sc (.int .u8 0)])) (.node (some (.agg [(0, 1), (1, 1)] [.sc (.string ⟨#[]⟩), .sc (.string ⟨#[]⟩)])) (.node (some (.one [.sc .nilFunc])) (.leaf) (.leaf)) (.node (some (.one [.sc .nilFunc])) (.leaf) (.leaf))) (.node (some (.one [.sc .nilFunc])) (.node (some (.one [.sc .nilFunc])) (.leaf) (.leaf)) (.node (some (.one [.sc .nilFunc])) (.leaf) (.leaf))))) (.node (some (.one [.sc .nilFunc])) (.node (some (.agg [(0, 1), (1, 1)] [.sc (.string ⟨#[]⟩), .sc (.string ⟨#[]⟩)])) (.node (some (.one [.sc .nilFunc])) (.node (some (.one [.sc .nilFunc])) (.leaf) (.leaf)) (.node (some (.one [.sc .nilFunc])) (.leaf) (.leaf))) (.node (none) (.node (some (.one [.sc .nilFunc])) (.leaf) (.leaf)) (.node (some (.one [.sc (.pointer none)])) (.leaf) (.leaf)))) (.node (some (.one [.sc .nilFunc])) (.node (some (.agg [(0, 1), (1, 1), (2, 1), (3, 2), (5, 1), (6, 1), (7, 1)] [.sc (.pointer none), .sc (.pointer none), .sc (.int .i64 0), .sc (.int .i64 0), .sc (.int .i64 0), .sc (.pointer none), .sc (.pointer none), .sc (.bool false)])) (.node (some (.one [.sc .nilFunc])) (.leaf) (.leaf)) (.leaf)) (.node (some (.one [.sc .nilFunc])) (.node (some (.one [.sc .nilFunc])) (.leaf) (.leaf)) (.node (some (.one [.sc .nilFunc])) (.leaf) (.leaf)))))))) (.node (some (.one [.sc (.int .u8 0)])) (.node (some (.str)) (.node (some (.one [.sc (.pointer none)])) (.node (some (.one [.sc .nilFunc])) (.node (none) (.node (some (.agg [(0, 1), (1, 1), (2, 1)] [.sc (.pointer none), .sc (.pointer none), .sc (.int .i64 0)])) (.node (some (.one [.sc .nilFunc])) (.node (some (.one [.sc .nilFunc])) (.leaf) (.leaf)) (.leaf)) (.node (some (.one [.sc .nilFunc])) (.leaf) (.leaf))) (.node (some (.agg [(0, 2), (2, 2), (4, 16)] [.sc (.int .i64 0), .sc (.int .i64 0), .sc (.int .i64 0), .sc (.int .i64 0), .sc (.int .i64 0), .sc (.int .i64 0), .sc (.string ⟨#[]⟩), .sc (.string ⟨#[]⟩), .sc (.string ⟨#[]⟩), .sc (.string ⟨#[]⟩), .sc (.int .i64 0), .sc (.int .i64 0), .sc (.string ⟨#[]⟩), .sc (.string ⟨#[]⟩), .sc (.int .i64 0), .sc (.string ⟨#[]⟩), .row [], .sc (.int .i64 0), .row [], .row []])) (.leaf) (.node (some (.one [.sc .nilFunc])) (.leaf) (.leaf)))) (.node (some (.arr 13 9 1 [.sc (.string ⟨#[]⟩), .sc (.string ⟨#[]⟩), .sc (.string ⟨#[]⟩), .sc (.string ⟨#[]⟩), .sc (.string ⟨#[]⟩), .sc (.string ⟨#[]⟩), .sc (.string ⟨#[]⟩), .sc (.string ⟨#[]⟩), .sc (.string ⟨#[]⟩), .sc (.string ⟨#[]⟩), .sc (.string ⟨#[]⟩), .sc (.string ⟨#[]⟩), .sc (.string ⟨#[]⟩)])) (.node (some (.one [.sc .nilFunc])) (.node (some (.one [.sc .nilFunc])) (.leaf) (.leaf)) (.node (some (.one [.sc .nilFunc])) (.leaf) (.leaf))) (.node (some (.one [.sc (.complex .f64 0 0)])) (.leaf) (.node (some (.one [.sc .nilFunc])) (.leaf) (.leaf))))) (.node (some (.one [.sc .nilFunc])) (.node (some (.one [.sc .nilFunc])) (.node (some (.agg [(0, 3), (3, 1), (4, 1)] [.sc (.int .i64 0), .sc (.string ⟨#[]⟩), .sc (.string ⟨#[]⟩), .sc (.int .i64 0), .row []])) (.node (some (.one [.sc .nilFunc])) (.node (some (.one [.sc (.int .i32 0)])) (.leaf) (.leaf)) (.leaf)) (.node (some (.one [.sc .nilFunc])) (.leaf) (.leaf))) (.node (some (.one [.sc .nilFunc])) (.node (some (.one [.sc .nilFunc])) (.leaf) (.leaf)) (.node (some (.one [.sc .nilFunc])) (.leaf) (.leaf)))) (.node (some (.one [.sc .nilFunc])) (.node (none) (.node (some (.one [.sc .nilFunc])) (.leaf) (.leaf)) (.node (some (.one [.sc .nilFunc])) (.leaf) (.leaf))) (.node (some (.one [.sc .nilFunc])) (.node (some (.one [.sc .nilFunc])) (.leaf) (.leaf)) (.node (some (.one [.sc .nilFunc])) (.leaf) (.leaf)))))) (.node (some (.one [.sc (.int .i64 0)])) (.node (some (.slice 172 2 32)) (.node (some (.agg [(0, 1), (1, 2), (3, 2)] [.sc (.int .i64 0), .sc (.int .i64 0), .sc (.int .i64 0), .row [], .row []])) (.node (some (.one [.sc .nilFunc])) (.node (some (.one [.sc .nilFunc])) (.node (some (.agg [(0, 1), (1, 1), (2, 1), (3, 1)] [.sc (.pointer none), .sc (.pointer none), .sc (.pointer none), .sc (.string ⟨#[]⟩)])) (.leaf) (.leaf)) (.leaf)) (.node (some (.one [.sc .nilFunc])) (.leaf) (.leaf))) (.node (some (.agg [(0, 1)] [.sc (.map none)])) (.node (some (.agg [(0, 1), (1, 2), (3, 1), (4, 1), (5, 26)] [.sc (.pointer none), .sc (.int .i64 0), .sc (.int .i64 0), .row [], .row [], .sc (.int .i64 0), .sc (.string ⟨#[]⟩), .sc (.string ⟨#[]⟩), .sc (.int .i64 0), .sc (.string ⟨#[]⟩), .sc (.string ⟨#[]⟩), .sc (.int .i64 0), .sc (.string ⟨#[]⟩), .sc (.int .i64 0), .sc (.int .i64 0), .sc (.int .i64 0), .sc (.int .i64 0), .sc (.string ⟨#[]⟩), .sc (.string ⟨#[]⟩), .sc (.string ⟨#[]⟩), .sc (.string ⟨#[]⟩), .sc (.int .i64 0), .sc (.int .i64 0), .sc (.string ⟨#[]⟩), .sc (.string ⟨#[]⟩), .sc (.int .i64 0), .sc (.string ⟨#[]⟩), .row [], .sc (.int .i64 0), .row [], .row []])) (.leaf) (.leaf)) (.node (some (.one [.sc .nilFunc])) (.leaf) (.leaf)))) (.node (some (.one [.sc .nilFunc])) (.node (some (.one [.sc .nilFunc])) (.node (some (.one [.sc .nilFunc])) (.leaf) (.leaf)) (.leaf)) (.node (some (.agg [(0, 1), (1, 4), (5, 4), (9, 1), (10, 1), (11, 1), (12, 1), (13, 1), (14, 1)] [.sc (.int .i64 0), .row [], .row [], .row [], .row [], .row [], .row [], .row [], .row [], .row [], .sc (.int .i64 0), .sc (.int .i64 0), .sc (.bool false), .sc (.int .i64 0), .sc (.bool false)])) (.leaf) (.node (some (.one [.sc .nilFunc])) (.leaf) (.leaf))))) (.node (some (.one [.sc .nilFunc])) (.node (some (.one [.sc .nilFunc])) (.node (some (.one [.sc .nilFunc])) (.node (some (.one [.sc .nilFunc])) (.leaf) (.leaf)) (.node (some (.one [.sc .nilFunc])) (.leaf) (.leaf))) (.node (none) (.node (some (.agg [(0, 1), (1, 3)] [.sc (.string ⟨#[]⟩), .sc (.int .i64 0), .sc (.string ⟨#[]⟩), .sc (.string ⟨#[]⟩)])) (.leaf) (.leaf)) (.node (some (.one [.sc .nilFunc])) (.leaf) (.leaf)))) (.node (some (.slice 194 20 264)) (.node (some (.one [.sc (.pointer none)])) (.node (some (.one [.sc .nilFunc])) (.leaf) (.leaf)) (.node (some (.one [.sc .nilFunc])) (.leaf) (.leaf))) (.node (some (.one [.sc .nilFunc])) (.node (some (.one [.sc .nilFunc])) (.leaf) (.leaf)) (.node (some (.one [.sc .nilFunc])) (.leaf) (.leaf))))))) (.node (some (.agg [(0, 1), (1, 1)] [.sc (.string ⟨#[]⟩), .sc (.int .u64 0)])) (.node (some (.one [.sc (.int .i32 0)])) (.node (some (.agg [(0, 1), (1, 1), (2, 1)] [.sc (.int .i64 0), .sc (.string ⟨#[]⟩), .sc (.string ⟨#[]⟩)])) (.node (some (.slice 149 2 40)) (.node (some (.arrB 256 132 1)) (.node (some (.one [.sc .nilFunc])) (.node (some (.arr 16 516 2 [.sc (.int .u8 0), .sc (.int .u8 0), .sc (.int .u8 0), .sc (.int .u8 0), .sc (.int .u8 0), .sc (.int .u8 0), .sc (.int .u8 0), .sc (.int .u8 0), .sc (.int .u8 0), .sc (.int .u8 0), .sc (.int .u8 0), .sc (.int .u8 0), .sc (.int .u8 0), .sc (.int .u8 0), .sc (.int .u8 0), .sc (.int .u8 0), .sc (.int .u8 0), .sc (.int .u8 0), .sc (.int .u8 0), .sc (.int .u8 0), .sc (.int .u8 0), .sc (.int .u8 0), .sc (.int .u8 0), .sc (.int .u8 0), .sc (.int .u8 0), .sc (.int .u8 0), .sc (.int .u8 0), .sc (.int .u8 0), .sc (.int .u8 0), .sc (.int .u8 0), .sc (.int .u8 0), .sc (.int .u8 0)])) (.leaf) (.leaf)) (.leaf)) (.node (some (.one [.sc .nilFunc])) (.leaf) (.leaf))) (.node (some (.agg [(0, 20), (20, 1), (21, 1), (22, 1)] [.sc (.int .i64 0), .sc (.int .i64 0), .sc (.int .i64 0), .sc (.int .i64 0), .sc (.int .i64 0), .sc (.int .i64 0), .sc (.string ⟨#[]⟩), .sc (.string ⟨#[]⟩), .sc (.string ⟨#[]⟩), .sc (.string ⟨#[]⟩), .sc (.int .i64 0), .sc (.int .i64 0), .sc (.string ⟨#[]⟩), .sc (.string ⟨#[]⟩), .sc (.int .i64 0), .sc (.string ⟨#[]⟩), .row [], .sc (.int .i64 0), .row [], .row [], .sc (.int .i64 0), .row [], .sc (.int .i64 0)])) (.node (some (.one [.sc .nilFunc])) (.leaf) (.leaf)) (.leaf))) (.node (some (.one [.sc .nilFunc])) (.node (none) (.node (some (.one [.sc .nilFunc])) (.leaf) (.leaf)) (.node (some (.one [.sc .nilFunc])) (.leaf) (.leaf))) (.node (none) (.leaf) (.node (some (.one [.sc .nilFunc])) (.leaf) (.leaf))))) (.node (some (.one [.sc .nilFunc])) (.node (some (.slice 38 3 40)) (.node (some (.agg [(0, 1), (1, 1)] [.sc (.string ⟨#[]⟩), .row []])) (.node (some (.one [.sc .nilFunc])) (.leaf) (.leaf)) (.node (some (.one [.sc .nilFunc])) (.leaf) (.leaf))) (.node (some (.one [.sc .nilFunc])) (.node (some (.one [.sc .nilFunc])) (.leaf) (.leaf)) (.node (some (.one [.sc .nilFunc])) (.leaf) (.leaf)))) (.node (some (.arr 6 3 1 [.sc (.int .i64 0), .sc (.int .i64 0), .sc (.int .i64 0), .sc (.int .i64 0), .sc (.int .i64 0), .sc (.int .i64 0)])) (.leaf) (.node (none) (.node (some (.one [.sc .nilFunc])) (.leaf) (.leaf)) (.node (some (.one [.sc .nilFunc])) (.leaf) (.leaf)))))) (.node (none) (.node (some (.agg [(0, 1), (1, 1), (2, 1), (3, 3), (6, 1), (7, 1), (8, 2), (10, 16)] [.sc (.int .i64 0), .sc (.string ⟨#[]⟩), .sc (.string ⟨#[]⟩), .sc (.int .i64 0), .sc (.string ⟨#[]⟩), .sc (.string ⟨#[]⟩), .sc (.int .i64 0), .sc (.string ⟨#[]⟩), .sc (.int .i64 0), .sc (.int .i64 0), .sc (.int .i64 0), .sc (.int .i64 0), .sc (.string ⟨#[]⟩), .sc (.string ⟨#[]⟩), .sc (.string ⟨#[]⟩), .sc (.string ⟨#[]⟩), .sc (.int .i64 0), .sc (.int .i64 0), .sc (.string ⟨#[]⟩), .sc (.string ⟨#[]⟩), .sc (.int .i64 0), .sc (.string ⟨#[]⟩), .row [], .sc (.int .i64 0), .row [], .row []])) (.node (some (.one [.sc .nilFunc])) (.node (some (.one [.sc .nilFunc])) (.node (some (.one [.sc .nilFunc])) (.node (some (.agg [(0, 0)] [])) (.leaf) (.leaf)) (.leaf)) (.leaf)) (.node (some (.one [.sc .nilFunc])) (.node (some (.one [.sc .nilFunc])) (.leaf) (.leaf)) (.leaf))) (.node (some (.slice 5 1 1)) (.node (some (.one [.sc .nilFunc])) (.node (some (.one [.sc .nilFunc])) (.leaf) (.leaf)) (.node (some (.one [.sc .nilFunc])) (.leaf) (.leaf))) (.node (some (.one [.sc .nilFunc])) (.node (some (.one [.sc .nilFunc])) (.leaf) (.leaf)) (.node (some (.one [.sc .nilFunc])) (.leaf) (.leaf))))) (.node (some (.one [.sc .nilFunc])) (.node (some (.agg [(0, 1), (1, 1)] [.row [], .sc (.bool false)])) (.node (some (.one [.sc .nilFunc])) (.leaf) (.node (some (.one [.sc .nilFunc])) (.leaf) (.leaf))) (.node (some (.one [.sc .nilFunc])) (.node (some (.one [.sc .nilFunc])) (.leaf) (.leaf)) (.node (some (.one [.sc .nilFunc])) (.leaf) (.leaf)))) (.node (some (.one [.sc .nilFunc])) (.node (some (.arr 6 188 1 [.row [], .row [], .row [], .row [], .row [], .row []])) (.node (some (.one [.sc .nilFunc])) (.leaf) (.leaf)) (.leaf)) (.node (some (.one [.sc .nilFunc])) (.node (some (.one [.sc (.map none)])) (.leaf) (.leaf)) (.node (some (.one [.sc .nilFunc])) (.leaf) (.leaf))))))))) (.node (some (.one [.sc (.int .i64 0)])) (.node (some (.one [.sc (.bool false)])) (.node (some (.agg [(0, 1), (1, 1), (2, 1), (3, 1)] [.sc (.int .i64 0), .sc (.int .i64 0), .sc (.bool false), .sc (.int .u8 0)])) (.node (some (.one [.sc (.pointer none)])) (.node (some (.one [.sc (.pointer none)])) (.node (some (.one [.sc .nilFunc])) (.node (some (.agg [(0, 1), (1, 1), (2, 1)] [.sc (.pointer none), .sc (.pointer none), .sc (.int .i64 0)])) (.node (none) (.node (some (.one [.sc .nilFunc])) (.leaf) (.leaf)) (.leaf)) (.node (some (.one [.sc (.float .f64 0)])) (.leaf) (.leaf))) (.node (some (.one [.sc .nilFunc])) (.node (some (.one [.sc .nilFunc])) (.leaf) (.leaf)) (.node (some (.one [.sc .nilFunc])) (.leaf) (.leaf)))) (.node (some (.one [.sc .nilFunc])) (.node (some (.one [.sc .nilFunc])) (.node (some (.one [.sc .nilFunc])) (.leaf) (.leaf)) (.node (some (.one [.sc .nilFunc])) (.leaf) (.leaf))) (.node (some (.slice 225 1 16)) (.node (some (.slice 356 3 24)) (.leaf) (.leaf)) (.node (some (.one [.sc .nilFunc])) (.leaf) (.leaf))))) (.node (none) (.node (some (.slice 91 2 32)) (.node (some (.one [.sc .nilFunc])) (.node (some (.one [.sc .nilFunc])) (.node (some (.one [.sc .nilFunc])) (.leaf) (.leaf)) (.leaf)) (.node (some (.one [.sc .nilFunc])) (.leaf) (.leaf))) (.node (none) (.leaf) (.node (some (.one [.sc .nilFunc])) (.leaf) (.leaf)))) (.node (none) (.node (some (.one [.sc .nilFunc])) (.leaf) (.node (some (.one [.sc .nilFunc])) (.leaf) (.leaf))) (.node (some (.one [.sc .nilFunc])) (.node (some (.one [.sc .nilFunc])) (.leaf) (.leaf)) (.node (some (.one [.sc .nilFunc])) (.leaf) (.leaf)))))) (.node (some (.one [.sc .nilFunc])) (.node (some (.agg [(0, 3), (3, 1), (4, 1), (5, 1), (6, 1)] [.sc (.int .i64 0), .sc (.string ⟨#[]⟩), .sc (.string ⟨#[]⟩), .sc (.int .i64 0), .sc (.string ⟨#[]⟩), .row [], .sc (.int .i64 0)])) (.node (some (.agg [(0, 1), (1, 2), (3, 2)] [.sc (.int .i64 0), .sc (.int .i64 0), .sc (.int .i64 0), .row [], .row []])) (.node (none) (.node (none) (.node (some (.one [.sc .nilFunc])) (.leaf) (.leaf)) (.leaf)) (.leaf)) (.node (some (.one [.sc (.map none)])) (.node (some (.agg [(0, 1), (1, 2), (3, 1), (4, 1), (5, 26)] [.sc (.pointer none), .sc (.int .i64 0), .sc (.int .i64 0), .row [], .row [], .sc (.int .i64 0), .sc (.string ⟨#[]⟩), .sc (.string ⟨#[]⟩), .sc (.int .i64 0), .sc (.string ⟨#[]⟩), .sc (.string ⟨#[]⟩), .sc (.int .i64 0), .sc (.string ⟨#[]⟩), .sc (.int .i64 0), .sc (.int .i64 0), .sc (.int .i64 0), .sc (.int .i64 0), .sc (.string ⟨#[]⟩), .sc (.string ⟨#[]⟩), .sc (.string ⟨#[]⟩), .sc (.string ⟨#[]⟩), .sc (.int .i64 0), .sc (.int .i64 0), .sc (.string ⟨#[]⟩), .sc (.string ⟨#[]⟩), .sc (.int .i64 0), .sc (.string ⟨#[]⟩), .row [], .sc (.int .i64 0), .row [], .row []])) (.leaf) (.leaf)) (.leaf))) (.node (some (.one [.sc .nilFunc])) (.node (some (.one [.sc .nilFunc])) (.node (some (.one [.sc .nilFunc])) (.leaf) (.leaf)) (.node (some (.one [.sc .nilFunc])) (.leaf) (.leaf))) (.node (some (.slice 387 4 48)) (.node (some (.one [.sc .nilFunc])) (.leaf) (.leaf)) (.node (some (.one [.sc .nilFunc])) (.leaf) (.leaf))))) (.node (some (.one [.sc .nilFunc])) (.node (none) (.node (none) (.node (some (.one [.sc .nilFunc])) (.leaf) (.leaf)) (.leaf)) (.node (some (.agg [(0, 1), (1, 1), (2, 1)] [.sc (.int .i64 0), .sc (.int .i64 0), .row []])) (.node (some (.one [.sc .nilFunc])) (.leaf) (.leaf)) (.node (some (.one [.sc .nilFunc])) (.leaf) (.leaf)))) (.node (some (.one [.sc .nilFunc])) (.node (some (.one [.sc .nilFunc])) (.leaf) (.node (some (.one [.sc .nilFunc])) (.leaf) (.leaf))) (.node (some (.one [.sc .nilFunc])) (.node (some (.one [.sc .nilFunc])) (.leaf) (.leaf)) (.node (some (.one [.sc .nilFunc])) (.leaf) (.leaf))))))) (.node (some (.one [.sc (.int .u64 0)])) (.node (none) (.node (some (.one [.sc .nilFunc])) (.node (some (.slice 146 5 72)) (.node (some (.one [.sc (.int .u32 0)])) (.node (some (.one [.sc .nilFunc])) (.node (some (.agg [(0, 1), (1, 1)] [.sc (.int .u8 0), .sc (.int .u8 0)])) (.leaf) (.leaf)) (.leaf)) (.leaf)) (.node (some (.agg [(0, 20), (20, 1), (21, 1), (22, 1)] [.sc (.int .i64 0), .sc (.int .i64 0), .sc (.int .i64 0), .sc (.int .i64 0), .sc (.int .i64 0), .sc (.int .i64 0), .sc (.string ⟨#[]⟩), .sc (.string ⟨#[]⟩), .sc (.string ⟨#[]⟩), .sc (.string ⟨#[]⟩), .sc (.int .i64 0), .sc (.int .i64 0), .sc (.string ⟨#[]⟩), .sc (.string ⟨#[]⟩), .sc (.int .i64 0), .sc (.string ⟨#[]⟩), .row [], .sc (.int .i64 0), .row [], .row [], .sc (.int .i64 0), .row [], .sc (.int .i64 0)])) (.node (some (.one [.sc .nilFunc])) (.leaf) (.leaf)) (.node (some (.one [.sc .nilFunc])) (.leaf) (.leaf)))) (.node (some (.one [.sc .nilFunc])) (.node (some (.agg [(0, 1), (1, 1)] [.sc (.pointer none), .row []])) (.node (some (.one [.sc .nilFunc])) (.leaf) (.leaf)) (.node (some (.one [.sc .nilFunc])) (.leaf) (.leaf))) (.node (some (.one [.sc .nilFunc])) (.node (some (.agg [(0, 2), (2, 1)] [.sc (.int .i64 0), .sc (.int .i64 0), .sc (.bool false)])) (.leaf) (.leaf)) (.node (some (.one [.sc .nilFunc])) (.leaf) (.leaf))))) (.node (none) (.node (some (.slice 23 2 16)) (.node (some (.agg [(0, 1), (1, 1)] [.sc (.string ⟨#[]⟩), .row []])) (.node (none) (.node (some (.agg [(0, 1), (1, 1), (2, 1), (3, 1), (4, 1), (5, 1), (6, 1), (7, 1), (8, 1), (9, 1), (10, 1)] [.sc (.int .u64 0), .sc (.int .u64 0), .sc (.int .u32 0), .sc (.int .u8 0), .sc (.int .u8 0), .sc (.int .u8 0), .sc (.int .u8 0), .sc .nilFunc, .sc (.pointer none), .sc (.int .i32 0), .sc (.int .i32 0)])) (.leaf) (.leaf)) (.leaf)) (.node (some (.one [.sc .nilFunc])) (.leaf) (.leaf))) (.node (none) (.node (some (.one [.sc .nilFunc])) (.leaf) (.leaf)) (.node (some (.one [.sc .nilFunc])) (.leaf) (.leaf)))) (.node (some (.arr 6 3 1 [.sc (.int .i64 0), .sc (.int .i64 0), .sc (.int .i64 0), .sc (.int .i64 0), .sc (.int .i64 0), .sc (.int .i64 0)])) (.node (some (.one [.sc .nilFunc])) (.node (some (.one [.sc (.pointer none)])) (.leaf) (.leaf)) (.node (some (.one [.sc .nilFunc])) (.leaf) (.leaf))) (.node (some (.one [.sc .nilFunc])) (.node (some (.agg [(0, 1), (1, 1), (2, 1), (3, 1)] [.row [], .sc (.int .i64 0), .sc (.int .i64 0), .sc (.bool false)])) (.leaf) (.leaf)) (.node (some (.one [.sc .nilFunc])) (.leaf) (.leaf)))))) (.node (some (.one [.sc .nilFunc])) (.node (some (.agg [(0, 1), (1, 1), (2, 1), (3, 3), (6, 1), (7, 1), (8, 2), (10, 16)] [.sc (.int .i64 0), .sc (.string ⟨#[]⟩), .sc (.string ⟨#[]⟩), .sc (.int .i64 0), .sc (.string ⟨#[]⟩), .sc (.string ⟨#[]⟩), .sc (.int .i64 0), .sc (.string ⟨#[]⟩), .sc (.int .i64 0), .sc (.int .i64 0), .sc (.int .i64 0), .sc (.int .i64 0), .sc (.string ⟨#[]⟩), .sc (.string ⟨#[]⟩), .sc (.string ⟨#[]⟩), .sc (.string ⟨#[]⟩), .sc (.int .i64 0), .sc (.int .i64 0), .sc (.string ⟨#[]⟩), .sc (.string ⟨#[]⟩), .sc (.int .i64 0), .sc (.string ⟨#[]⟩), .row [], .sc (.int .i64 0), .row [], .row []])) (.node (some (.agg [(0, 1)] [.sc (.pointer none)])) (.node (some (.one [.sc .nilFunc])) (.node (some (.one [.sc .nilFunc])) (.node (some (.agg [(0, 0)] [])) (.leaf) (.leaf)) (.leaf)) (.leaf)) (.node (some (.one [.sc .nilFunc])) (.node (some (.one [.sc (.pointer none)])) (.leaf) (.leaf)) (.node (some (.one [.sc .nilFunc])) (.leaf) (.leaf)))) (.node (some (.one [.sc (.int .u64 0)])) (.node (some (.agg [(0, 1), (1, 1)] [.sc (.string ⟨#[]⟩), .sc (.string ⟨#[]⟩)])) (.leaf) (.node (some (.one [.sc .nilFunc])) (.leaf) (.leaf))) (.node (some (.one [.sc .nilFunc])) (.node (some (.one [.sc .nilFunc])) (.leaf) (.leaf)) (.leaf)))) (.node (none) (.node (some (.one [.sc (.pointer none)])) (.node (none) (.node (some (.one [.sc .nilFunc])) (.leaf) (.leaf)) (.leaf)) (.node (some (.one [.sc .nilFunc])) (.node (some (.one [.sc .nilFunc])) (.leaf) (.leaf)) (.node (some (.one [.sc .nilFunc])) (.leaf) (.leaf)))) (.node (some (.one [.sc .nilFunc])) (.node (some (.slice 263 15 176)) (.node (some (.one [.sc .nilFunc])) (.leaf) (.leaf)) (.node (some (.one [.sc .nilFunc])) (.leaf) (.leaf))) (.node (some (.one [.sc (.int .u64 0)])) (.node (some (.one [.sc .nilFunc])) (.leaf) (.leaf)) (.node (some (.one [.sc .nilFunc])) (.leaf) (.leaf)))))))) (.node (some (.one [.sc (.int .u8 0)])) (.node (some (.str)) (.node (some (.agg [(0, 1)] [.sc (.pointer none)])) (.node (some (.slice 9 1 16)) (.node (some (.one [.sc .nilFunc])) (.node (some (.slice 129 3 24)) (.node (some (.one [.sc .nilFunc])) (.node (some (.arrB 256 5 1)) (.leaf) (.leaf)) (.leaf)) (.node (some (.agg [(0, 1), (1, 1), (2, 1), (3, 1)] [.sc (.int .i64 0), .sc (.bool false), .sc (.int .i64 0), .row []])) (.leaf) (.leaf))) (.node (some (.agg [(0, 2), (2, 2), (4, 16)] [.sc (.int .i64 0), .sc (.int .i64 0), .sc (.int .i64 0), .sc (.int .i64 0), .sc (.int .i64 0), .sc (.int .i64 0), .sc (.string ⟨#[]⟩), .sc (.string ⟨#[]⟩), .sc (.string ⟨#[]⟩), .sc (.string ⟨#[]⟩), .sc (.int .i64 0), .sc (.int .i64 0), .sc (.string ⟨#[]⟩), .sc (.string ⟨#[]⟩), .sc (.int .i64 0), .sc (.string ⟨#[]⟩), .row [], .sc (.int .i64 0), .row [], .row []])) (.node (some (.one [.sc .nilFunc])) (.leaf) (.leaf)) (.node (some (.one [.sc .nilFunc])) (.leaf) (.leaf)))) (.node (some (.one [.sc .nilFunc])) (.node (some (.one [.sc (.pointer none)])) (.node (some (.one [.sc .nilFunc])) (.leaf) (.leaf)) (.node (some (.one [.sc .nilFunc])) (.leaf) (.leaf))) (.node (some (.agg [(0, 1), (1, 1), (2, 1), (3, 1), (4, 1)] [.row [], .row [], .sc (.bool false), .sc (.complex .f64 0 0), .sc (.int .i64 0)])) (.node (some (.one [.sc .nilFunc])) (.leaf) (.leaf)) (.node (some (.one [.sc .nilFunc])) (.leaf) (.leaf))))) (.node (some (.one [.sc .nilFunc])) (.node (some (.one [.sc .nilFunc])) (.node (some (.agg [(0, 3), (3, 1), (4, 1)] [.sc (.int .i64 0), .sc (.string ⟨#[]⟩), .sc (.string ⟨#[]⟩), .sc (.int .i64 0), .row []])) (.node (some (.one [.sc .nilFunc])) (.node (some (.one [.sc (.int .i32 0)])) (.leaf) (.leaf)) (.leaf)) (.node (some (.one [.sc .nilFunc])) (.leaf) (.leaf))) (.node (some (.agg [(0, 1), (1, 1), (2, 1), (3, 6), (9, 1), (10, 1), (11, 1)] [.sc (.int .i64 0), .sc (.int .i64 0), .sc (.int .i64 0), .sc (.int .i64 0), .sc (.int .i64 0), .sc (.int .i64 0), .sc (.int .i64 0), .sc (.int .i64 0), .sc (.int .i64 0), .row [], .row [], .row []])) (.node (some (.one [.sc .nilFunc])) (.leaf) (.leaf)) (.leaf))) (.node (some (.one [.sc (.pointer none)])) (.node (some (.one [.sc .nilFunc])) (.node (some (.one [.sc .nilFunc])) (.leaf) (.leaf)) (.node (some (.one [.sc .nilFunc])) (.leaf) (.leaf))) (.node (some (.one [.sc .nilFunc])) (.node (some (.one [.sc .nilFunc])) (.leaf) (.leaf)) (.node (some (.one [.sc .nilFunc])) (.leaf) (.leaf)))))) (.node (none) (.node (some (.agg [(0, 1), (1, 3), (4, 1), (5, 1), (6, 1), (7, 7), (14, 1), (15, 1)] [.sc (.int .i64 0), .sc (.int .i64 0), .sc (.string ⟨#[]⟩), .sc (.string ⟨#[]⟩), .sc (.string ⟨#[]⟩), .sc (.string ⟨#[]⟩), .sc (.int .i64 0), .sc (.int .i64 0), .sc (.string ⟨#[]⟩), .sc (.string ⟨#[]⟩), .sc (.int .i64 0), .sc (.string ⟨#[]⟩), .row [], .sc (.int .i64 0), .row [], .row []])) (.node (some (.one [.sc (.pointer none)])) (.node (some (.one [.sc .nilFunc])) (.node (some (.one [.sc .nilFunc])) (.node (some (.agg [(0, 1), (1, 1), (2, 1), (3, 1)] [.sc (.pointer none), .sc (.pointer none), .sc (.pointer none), .sc (.string ⟨#[]⟩)])) (.leaf) (.leaf)) (.leaf)) (.leaf)) (.node (some (.agg [(0, 1)] [.sc (.map none)])) (.node (some (.one [.sc .nilFunc])) (.leaf) (.leaf)) (.node (some (.one [.sc .nilFunc])) (.leaf) (.leaf)))) (.node (some (.one [.sc .nilFunc])) (.node (some (.one [.sc .nilFunc])) (.node (some (.one [.sc .nilFunc])) (.leaf) (.leaf)) (.node (some (.one [.sc .nilFunc])) (.leaf) (.leaf))) (.node (some (.agg [(0, 1), (1, 4), (5, 4), (9, 1), (10, 1), (11, 1), (12, 1), (13, 1), (14, 1)] [.sc (.int .i64 0), .row [], .row [], .row [], .row [], .row [], .row [], .row [], .row [], .row [], .sc (.int .i64 0), .sc (.int .i64 0), .sc (.bool false), .sc (.int .i64 0), .sc (.bool false)])) (.node (some (.one [.sc .nilFunc])) (.leaf) (.leaf)) (.node (some (.one [.sc .nilFunc])) (.leaf) (.leaf))))) (.node (some (.one [.sc .nilFunc])) (.node (some (.agg [(0, 1), (1, 1)] [.sc (.string ⟨#[]⟩), .sc (.string ⟨#[]⟩)])) (.node (none) (.leaf) (.node (some (.one [.sc .nilFunc])) (.leaf) (.leaf))) (.node (some (.one [.sc .nilFunc])) (.node (some (.agg [(0, 1), (1, 3)] [.sc (.string ⟨#[]⟩), .sc (.int .i64 0), .sc (.string ⟨#[]⟩), .sc (.string ⟨#[]⟩)])) (.leaf) (.leaf)) (.node (some (.one [.sc .nilFunc])) (.leaf) (.leaf)))) (.node (some (.one [.sc (.pointer none)])) (.node (some (.agg [(0, 1), (1, 1), (2, 1), (3, 2), (5, 1), (6, 1), (7, 1)] [.sc (.pointer none), .sc (.pointer none), .sc (.int .i64 0), .sc (.int .i64 0), .sc (.int .i64 0), .sc (.pointer none), .sc (.pointer none), .sc (.bool false)])) (.node (some (.one [.sc .nilFunc])) (.leaf) (.leaf)) (.node (some (.one [.sc .nilFunc])) (.leaf) (.leaf))) (.node (some (.one [.sc .nilFunc])) (.node (some (.one [.sc .nilFunc])) (.leaf) (.leaf)) (.node (some (.one [.sc .nilFunc])) (.leaf) (.leaf))))))) (.node (some (.agg [(0, 1), (1, 1)] [.sc (.string ⟨#[]⟩), .sc (.int .u64 0)])) (.node (some (.agg [(0, 1), (1, 1)] [.sc (.int .i64 0), .sc (.int .i64 0)])) (.node (some (.agg [(0, 1), (1, 1), (2, 1)] [.sc (.int .i64 0), .sc (.string ⟨#[]⟩), .sc (.string ⟨#[]⟩)])) (.node (some (.agg [(0, 1), (1, 1)] [.row [], .row []])) (.node (some (.arrB 256 132 1)) (.node (some (.agg [(0, 2), (2, 2), (4, 1), (5, 1), (6, 1), (7, 1), (8, 3), (11, 1), (12, 1), (13, 1), (14, 1)] [.sc (.int .i64 0), .sc (.int .i64 0), .sc (.int .i64 0), .sc (.int .i64 0), .sc (.int .i64 0), .sc (.string ⟨#[]⟩), .sc (.int .i64 0), .sc (.string ⟨#[]⟩), .sc (.int .i64 0), .sc (.string ⟨#[]⟩), .sc (.string ⟨#[]⟩), .sc (.int .i64 0), .sc (.bool false), .sc (.string ⟨#[]⟩), .row []])) (.node (some (.one [.sc .nilFunc])) (.leaf) (.leaf)) (.leaf)) (.node (some (.one [.sc .nilFunc])) (.leaf) (.leaf))) (.node (some (.one [.sc .nilFunc])) (.node (some (.one [.sc .nilFunc])) (.leaf) (.leaf)) (.node (some (.one [.sc .nilFunc])) (.leaf) (.leaf)))) (.node (some (.one [.sc .nilFunc])) (.node (none) (.node (some (.one [.sc .nilFunc])) (.leaf) (.leaf)) (.leaf)) (.node (some (.one [.sc .nilFunc])) (.node (some (.one [.sc .nilFunc])) (.leaf) (.leaf)) (.leaf)))) (.node (some (.one [.sc .nilFunc])) (.node (some (.agg [(0, 1), (1, 1), (2, 1), (3, 1), (4, 1)] [.row [], .row [], .row [], .row [], .row []])) (.node (none) (.node (some (.one [.sc .nilFunc])) (.leaf) (.leaf)) (.node (some (.one [.sc .nilFunc])) (.leaf) (.leaf))) (.node (some (.one [.sc .nilFunc])) (.node (some (.one [.sc .nilFunc])) (.leaf) (.leaf)) (.node (some (.one [.sc .nilFunc])) (.leaf) (.leaf)))) (.node (some (.one [.sc (.pointer none)])) (.node (some (.one [.sc .nilFunc])) (.leaf) (.node (some (.one [.sc .nilFunc])) (.leaf) (.leaf))) (.node (some (.one [.sc .nilFunc])) (.node (some (.one [.sc .nilFunc])) (.leaf) (.leaf)) (.node (some (.one [.sc .nilFunc])) (.leaf) (.leaf)))))) (.node (some (.one [.sc .nilFunc])) (.node (some (.agg [(0, 1), (1, 1), (2, 1), (3, 1), (4, 1), (5, 1), (6, 1), (7, 26)] [.sc (.int .i64 0), .sc (.int .i64 0), .sc (.int .i64 0), .sc (.int .i64 0), .sc (.int .i64 0), .sc (.int .i64 0), .sc (.int .i64 0), .sc (.int .i64 0), .sc (.string ⟨#[]⟩), .sc (.string ⟨#[]⟩), .sc (.int .i64 0), .sc (.string ⟨#[]⟩), .sc (.string ⟨#[]⟩), .sc (.int .i64 0), .sc (.string ⟨#[]⟩), .sc (.int .i64 0), .sc (.int .i64 0), .sc (.int .i64 0), .sc (.int .i64 0), .sc (.string ⟨#[]⟩), .sc (.string ⟨#[]⟩), .sc (.string ⟨#[]⟩), .sc (.string ⟨#[]⟩), .sc (.int .i64 0), .sc (.int .i64 0), .sc (.string ⟨#[]⟩), .sc (.string ⟨#[]⟩), .sc (.int .i64 0), .sc (.string ⟨#[]⟩), .row [], .sc (.int .i64 0), .row [], .row []])) (.node (some (.one [.sc .nilFunc])) (.node (some (.one [.sc .nilFunc])) (.node (some (.one [.sc .nilFunc])) (.node (some (.one [.sc (.int .u8 0)])) (.leaf) (.leaf)) (.leaf)) (.node (some (.one [.sc .nilFunc])) (.leaf) (.leaf))) (.node (some (.one [.sc .nilFunc])) (.node (some (.one [.sc .nilFunc])) (.leaf) (.leaf)) (.node (some (.one [.sc .nilFunc])) (.leaf) (.leaf)))) (.node (some (.one [.sc .nilFunc])) (.node (some (.one [.sc .nilFunc])) (.node (some (.one [.sc .nilFunc])) (.leaf) (.leaf)) (.leaf)) (.node (some (.one [.sc .nilFunc])) (.node (some (.one [.sc .nilFunc])) (.leaf) (.leaf)) (.node (some (.one [.sc (.pointer none)])) (.leaf) (.leaf))))) (.node (none) (.node (some (.agg [(0, 1), (1, 1)] [.row [], .sc (.bool false)])) (.node (some (.one [.sc .nilFunc])) (.node (some (.one [.sc .nilFunc])) (.leaf) (.leaf)) (.node (some (.one [.sc .nilFunc])) (.leaf) (.leaf))) (.node (some (.slice 216 3 40)) (.node (some (.one [.sc .nilFunc])) (.leaf) (.leaf)) (.node (some (.one [.sc .nilFunc])) (.leaf) (.leaf)))) (.node (some (.one [.sc .nilFunc])) (.node (some (.agg [(0, 6)] [.row [], .row [], .row [], .row [], .row [], .row []])) (.leaf) (.node (some (.one [.sc .nilFunc])) (.leaf) (.leaf))) (.node (none) (.node (some (.agg [] [])) (.leaf) (.leaf)) (.node (some (.one [.sc .nilFunc])) (.leaf) (.leaf)))))))))
theorem all : tt.all (tyOk Go.Proofs.Tryz.prog) := (TT.mk nn (TT.mk (sm k_1) (TT.mk (sm k_3) (TT.mk (sm k_7) (TT.mk (sm k_15) (TT.mk (sm k_31) (TT.mk (sm k_63) (TT.mk (sm k_127) (TT.mk (sm k_255) (TT.mk (sm k_511) trivial trivial) trivial) trivial) (TT.mk (sm k_191) (TT.mk (sm k_319) trivial trivial) (TT.mk (sm k_447) trivial trivial))) (TT.mk (sm k_95) (TT.mk (sm k_159) (TT.mk (sm k_287) trivial trivial) (TT.mk (sm k_415) trivial trivial)) (TT.mk (sm k_223) (TT.mk (sm k_351) trivial trivial) (TT.mk (sm k_479) trivial trivial)))) (TT.mk (sm k_47) (TT.mk (sm k_79) (TT.mk (sm k_143) (TT.mk (sm k_271) (TT.mk (sm k_527) trivial trivial) trivial) (TT.mk (sm k_399) trivial trivial)) (TT.mk (sm k_207) (TT.mk (sm k_335) trivial trivial) (TT.mk (sm k_463) trivial trivial))) (TT.mk (sm k_111) (TT.mk nn (TT.mk (sm k_303) trivial trivial) (TT.mk (sm k_431) trivial trivial)) (TT.mk nn (TT.mk (sm k_367) trivial trivial) trivial)))) (TT.mk (sm k_23) (TT.mk (sm k_39) (TT.mk (sm k_71) (TT.mk nn (TT.mk (sm k_263) (TT.mk (sm k_519) trivial trivial) trivial) (TT.mk (sm k_391) trivial trivial)) (TT.mk (sm k_199) (TT.mk (sm k_327) trivial trivial) (TT.mk (sm k_455) trivial trivial))) (TT.mk (sm k_103) (TT.mk nn (TT.mk (sm k_295) trivial trivial) (TT.mk (sm k_423) trivial trivial)) (TT.mk (sm k_231) (TT.mk (sm k_359) trivial trivial) (TT.mk (sm k_487) trivial trivial)))) (TT.mk nn (TT.mk (sm k_87) (TT.mk (sm k_151) (TT.mk (sm k_279) trivial trivial) (TT.mk (sm k_407) trivial trivial)) (TT.mk (sm k_215) (TT.mk (sm k_343) trivial trivial) (TT.mk (sm k_471) trivial trivial))) (TT.mk (sm k_119) (TT.mk nn (TT.mk (sm k_311) trivial trivial) (TT.mk (sm k_439) trivial trivial)) (TT.mk (sm k_247) (TT.mk (sm k_375) trivial trivial) (TT.mk (sm k_503) trivial trivial)))))) (TT.mk (sm k_11) (TT.mk (sm k_19) (TT.mk (sm k_35) (TT.mk (sm k_67) (TT.mk (sm k_131) (TT.mk (sm k_259) (TT.mk (sm k_515) trivial trivial) trivial) (TT.mk (sm k_387) trivial trivial)) (TT.mk (sm k_195) (TT.mk (sm k_323) trivial trivial) trivial)) (TT.mk (sm k_99) (TT.mk (sm k_163) (TT.mk (sm k_291) trivial trivial) (TT.mk (sm k_419) trivial trivial)) (TT.mk (sm k_227) (TT.mk (sm k_355) trivial trivial) (TT.mk (sm k_483) trivial trivial)))) (TT.mk (sm k_51) (TT.mk (sm k_83) (TT.mk (sm k_147) (TT.mk (sm k_275) (TT.mk (sm k_531) trivial trivial) trivial) trivial) (TT.mk (sm k_211) (TT.mk (sm k_339) trivial trivial) (TT.mk (sm k_467) trivial trivial))) (TT.mk (sm k_115) (TT.mk (sm k_179) (TT.mk (sm k_307) trivial trivial) (TT.mk (sm k_435) trivial trivial)) (TT.mk (sm k_243) (TT.mk (sm k_371) trivial trivial) (TT.mk (sm k_499) trivial trivial))))) (TT.mk (sm k_27) (TT.mk (sm k_43) (TT.mk (sm k_75) (TT.mk (sm k_139) (TT.mk (sm k_267) (TT.mk (sm k_523) trivial trivial) trivial) trivial) (TT.mk nn (TT.mk (sm k_331) trivial trivial) (TT.mk (sm k_459) trivial trivial))) (TT.mk (sm k_107) (TT.mk (sm k_171) (TT.mk (sm k_299) trivial trivial) (TT.mk (sm k_427) trivial trivial)) (TT.mk (sm k_235) (TT.mk (sm k_363) trivial trivial) (TT.mk (sm k_491) trivial trivial)))) (TT.mk (sm k_59) (TT.mk (sm k_91) (TT.mk (sm k_155) (TT.mk (sm k_283) trivial trivial) (TT.mk (sm k_411) trivial trivial)) (TT.mk nn (TT.mk (sm k_347) trivial trivial) (TT.mk (sm k_475) trivial trivial))) (TT.mk (sm k_123) (TT.mk (sm k_187) (TT.mk (sm k_315) trivial trivial) trivial) (TT.mk (sm k_251) (TT.mk (sm k_379) trivial trivial) (TT.mk (sm k_507) trivial trivial))))))) (TT.mk (sm k_5) (TT.mk (sm k_9) (TT.mk (sm k_17) (TT.mk (sm k_33) (TT.mk nn (TT.mk (sm k_129) (TT.mk (sm k_257) (TT.mk (sm k_513) trivial trivial) trivial) (TT.mk (sm k_385) trivial trivial)) (TT.mk (sm k_193) trivial (TT.mk (sm k_449) trivial trivial))) (TT.mk (sm k_97) (TT.mk (sm k_161) (TT.mk (sm k_289) trivial trivial) (TT.mk (sm k_417) trivial trivial)) (TT.mk (sm k_225) trivial (TT.mk (sm k_481) trivial trivial)))) (TT.mk (sm k_49) (TT.mk (sm k_81) (TT.mk (sm k_145) (TT.mk (sm k_273) (TT.mk (sm k_529) trivial trivial) trivial) (TT.mk (sm k_401) trivial trivial)) (TT.mk (sm k_209) (TT.mk (sm k_337) trivial trivial) (TT.mk (sm k_465) trivial trivial))) (TT.mk (sm k_113) (TT.mk nn (TT.mk (sm k_305) trivial trivial) (TT.mk (sm k_433) trivial trivial)) (TT.mk (sm k_241) (TT.mk (sm k_369) trivial trivial) (TT.mk (sm k_497) trivial trivial))))) (TT.mk (sm k_25) (TT.mk (sm k_41) (TT.mk (sm k_73) (TT.mk (sm k_137) (TT.mk (sm k_265) (TT.mk (sm k_521) trivial trivial) trivial) (TT.mk (sm k_393) trivial trivial)) (TT.mk (sm k_201) (TT.mk (sm k_329) trivial trivial) (TT.mk (sm k_457) trivial trivial))) (TT.mk (sm k_105) (TT.mk (sm k_169) (TT.mk (sm k_297) trivial trivial) trivial) (TT.mk (sm k_233) trivial (TT.mk (sm k_489) trivial trivial)))) (TT.mk (sm k_57) (TT.mk (sm k_89) (TT.mk (sm k_153) (TT.mk (sm k_281) trivial trivial) (TT.mk (sm k_409) trivial trivial)) (TT.mk nn (TT.mk (sm k_345) trivial trivial) (TT.mk (sm k_473) trivial trivial))) (TT.mk (sm k_121) (TT.mk (sm k_185) (TT.mk (sm k_313) trivial trivial) (TT.mk (sm k_441) trivial trivial)) (TT.mk (sm k_249) (TT.mk (sm k_377) trivial trivial) (TT.mk (sm k_505) trivial trivial)))))) (TT.mk (sm k_13) (TT.mk (sm k_21) (TT.mk (sm k_37) (TT.mk (sm k_69) (TT.mk (sm k_133) (TT.mk (sm k_261) (TT.mk (sm k_517) trivial trivial) trivial) (TT.mk (sm k_389) trivial trivial)) (TT.mk (sm k_197) (TT.mk (sm k_325) trivial trivial) trivial)) (TT.mk (sm k_101) (TT.mk nn (TT.mk (sm k_293) trivial trivial) (TT.mk (sm k_421) trivial trivial)) (TT.mk nn trivial (TT.mk (sm k_485) trivial trivial)))) (TT.mk (sm k_53) (TT.mk (sm k_85) (TT.mk (sm k_149) (TT.mk (sm k_277) trivial trivial) (TT.mk (sm k_405) trivial trivial)) (TT.mk (sm k_213) (TT.mk (sm k_341) trivial trivial) (TT.mk (sm k_469) trivial trivial))) (TT.mk (sm k_117) trivial (TT.mk nn (TT.mk (sm k_373) trivial trivial) (TT.mk (sm k_501) trivial trivial))))) (TT.mk nn (TT.mk (sm k_45) (TT.mk (sm k_77) (TT.mk (sm k_141) (TT.mk (sm k_269) (TT.mk (sm k_525) trivial trivial) trivial) trivial) (TT.mk (sm k_205) (TT.mk (sm k_333) trivial trivial) trivial)) (TT.mk (sm k_109) (TT.mk (sm k_173) (TT.mk (sm k_301) trivial trivial) (TT.mk (sm k_429) trivial trivial)) (TT.mk (sm k_237) (TT.mk (sm k_365) trivial trivial) (TT.mk (sm k_493) trivial trivial)))) (TT.mk (sm k_61) (TT.mk (sm k_93) (TT.mk (sm k_157) trivial (TT.mk (sm k_413) trivial trivial)) (TT.mk (sm k_221) (TT.mk (sm k_349) trivial trivial) (TT.mk (sm k_477) trivial trivial))) (TT.mk (sm k_125) (TT.mk (sm k_189) (TT.mk (sm k_317) trivial trivial) trivial) (TT.mk (sm k_253) (TT.mk (sm k_381) trivial trivial) (TT.mk (sm k_509) trivial trivial)))))))) (TT.mk (sm k_2) (TT.mk (sm k_4) (TT.mk (sm k_8) (TT.mk (sm k_16) (TT.mk (sm k_32) (TT.mk (sm k_64) (TT.mk (sm k_128) (TT.mk nn (TT.mk (sm k_512) trivial trivial) trivial) (TT.mk (sm k_384) trivial trivial)) (TT.mk (sm k_192) (TT.mk (sm k_320) trivial trivial) (TT.mk (sm k_448) trivial trivial))) (TT.mk (sm k_96) (TT.mk (sm k_160) (TT.mk (sm k_288) trivial trivial) (TT.mk (sm k_416) trivial trivial)) (TT.mk (sm k_224) (TT.mk (sm k_352) trivial trivial) (TT.mk (sm k_480) trivial trivial)))) (TT.mk nn (TT.mk (sm k_80) (TT.mk (sm k_144) (TT.mk (sm k_272) (TT.mk (sm k_528) trivial trivial) trivial) (TT.mk (sm k_400) trivial trivial)) (TT.mk nn trivial (TT.mk (sm k_464) trivial trivial))) (TT.mk nn (TT.mk (sm k_176) trivial (TT.mk (sm k_432) trivial trivial)) (TT.mk (sm k_240) (TT.mk (sm k_368) trivial trivial) (TT.mk (sm k_496) trivial trivial))))) (TT.mk (sm k_24) (TT.mk (sm k_40) (TT.mk (sm k_72) (TT.mk nn (TT.mk nn (TT.mk (sm k_520) trivial trivial) trivial) trivial) (TT.mk (sm k_200) (TT.mk (sm k_328) trivial trivial) trivial)) (TT.mk (sm k_104) (TT.mk (sm k_168) (TT.mk (sm k_296) trivial trivial) (TT.mk (sm k_424) trivial trivial)) (TT.mk (sm k_232) (TT.mk (sm k_360) trivial trivial) (TT.mk (sm k_488) trivial trivial)))) (TT.mk (sm k_56) (TT.mk nn (TT.mk nn (TT.mk (sm k_280) trivial trivial) trivial) (TT.mk (sm k_216) (TT.mk (sm k_344) trivial trivial) (TT.mk (sm k_472) trivial trivial))) (TT.mk (sm k_120) (TT.mk (sm k_184) trivial (TT.mk (sm k_440) trivial trivial)) (TT.mk (sm k_248) (TT.mk (sm k_376) trivial trivial) (TT.mk (sm k_504) trivial trivial)))))) (TT.mk (sm k_12) (TT.mk nn (TT.mk (sm k_36) (TT.mk (sm k_68) (TT.mk (sm k_132) (TT.mk (sm k_260) (TT.mk (sm k_516) trivial trivial) trivial) trivial) (TT.mk (sm k_196) (TT.mk (sm k_324) trivial trivial) (TT.mk (sm k_452) trivial trivial))) (TT.mk (sm k_100) (TT.mk (sm k_164) (TT.mk (sm k_292) trivial trivial) (TT.mk (sm k_420) trivial trivial)) (TT.mk (sm k_228) (TT.mk (sm k_356) trivial trivial) (TT.mk (sm k_484) trivial trivial)))) (TT.mk nn (TT.mk (sm k_84) (TT.mk (sm k_148) (TT.mk nn (TT.mk (sm k_532) trivial trivial) trivial) (TT.mk (sm k_404) trivial trivial)) (TT.mk nn (TT.mk (sm k_340) trivial trivial) (TT.mk (sm k_468) trivial trivial))) (TT.mk (sm k_116) (TT.mk (sm k_180) (TT.mk (sm k_308) trivial trivial) (TT.mk (sm k_436) trivial trivial)) (TT.mk (sm k_244) (TT.mk (sm k_372) trivial trivial) (TT.mk (sm k_500) trivial trivial))))) (TT.mk (sm k_28) (TT.mk (sm k_44) (TT.mk (sm k_76) (TT.mk (sm k_140) (TT.mk (sm k_268) (TT.mk (sm k_524) trivial trivial) trivial) trivial) (TT.mk (sm k_204) (TT.mk (sm k_332) trivial trivial) (TT.mk (sm k_460) trivial trivial))) (TT.mk (sm k_108) (TT.mk (sm k_172) trivial (TT.mk (sm k_428) trivial trivial)) (TT.mk (sm k_236) (TT.mk (sm k_364) trivial trivial) trivial))) (TT.mk nn (TT.mk (sm k_92) (TT.mk nn (TT.mk (sm k_284) trivial trivial) trivial) (TT.mk (sm k_220) (TT.mk (sm k_348) trivial trivial) (TT.mk (sm k_476) trivial trivial))) (TT.mk (sm k_124) (TT.mk (sm k_188) (TT.mk (sm k_316) trivial trivial) (TT.mk (sm k_444) trivial trivial)) (TT.mk (sm k_252) (TT.mk (sm k_380) trivial trivial) (TT.mk (sm k_508) trivial trivial))))))) (TT.mk (sm k_6) (TT.mk (sm k_10) (TT.mk (sm k_18) (TT.mk (sm k_34) (TT.mk (sm k_66) (TT.mk (sm k_130) (TT.mk (sm k_258) (TT.mk (sm k_514) trivial trivial) trivial) (TT.mk (sm k_386) trivial trivial)) (TT.mk (sm k_194) (TT.mk (sm k_322) trivial trivial) (TT.mk (sm k_450) trivial trivial))) (TT.mk (sm k_98) (TT.mk (sm k_162) (TT.mk (sm k_290) trivial trivial) (TT.mk (sm k_418) trivial trivial)) (TT.mk (sm k_226) (TT.mk (sm k_354) trivial trivial) (TT.mk (sm k_482) trivial trivial)))) (TT.mk (sm k_50) (TT.mk (sm k_82) (TT.mk (sm k_146) (TT.mk (sm k_274) (TT.mk (sm k_530) trivial trivial) trivial) (TT.mk (sm k_402) trivial trivial)) (TT.mk (sm k_210) (TT.mk (sm k_338) trivial trivial) trivial)) (TT.mk (sm k_114) (TT.mk (sm k_178) (TT.mk (sm k_306) trivial trivial) (TT.mk (sm k_434) trivial trivial)) (TT.mk (sm k_242) (TT.mk (sm k_370) trivial trivial) (TT.mk (sm k_498) trivial trivial))))) (TT.mk nn (TT.mk (sm k_42) (TT.mk (sm k_74) (TT.mk (sm k_138) (TT.mk (sm k_266) (TT.mk (sm k_522) trivial trivial) trivial) trivial) (TT.mk (sm k_202) (TT.mk (sm k_330) trivial trivial) (TT.mk (sm k_458) trivial trivial))) (TT.mk (sm k_106) (TT.mk (sm k_170) (TT.mk (sm k_298) trivial trivial) (TT.mk (sm k_426) trivial trivial)) (TT.mk (sm k_234) (TT.mk (sm k_362) trivial trivial) (TT.mk (sm k_490) trivial trivial)))) (TT.mk (sm k_58) (TT.mk (sm k_90) (TT.mk nn trivial (TT.mk (sm k_410) trivial trivial)) (TT.mk (sm k_218) (TT.mk (sm k_346) trivial trivial) (TT.mk (sm k_474) trivial trivial))) (TT.mk (sm k_122) (TT.mk (sm k_186) (TT.mk (sm k_314) trivial trivial) (TT.mk (sm k_442) trivial trivial)) (TT.mk (sm k_250) (TT.mk (sm k_378) trivial trivial) (TT.mk (sm k_506) trivial trivial)))))) (TT.mk (sm k_14) (TT.mk (sm k_22) (TT.mk (sm k_38) (TT.mk (sm k_70) (TT.mk (sm k_134) (TT.mk (sm k_262) (TT.mk (sm k_518) trivial trivial) trivial) (TT.mk (sm k_390) trivial trivial)) (TT.mk (sm k_198) (TT.mk (sm k_326) trivial trivial) (TT.mk (sm k_454) trivial trivial))) (TT.mk (sm k_102) (TT.mk nn (TT.mk (sm k_294) trivial trivial) trivial) (TT.mk (sm k_230) (TT.mk (sm k_358) trivial trivial) trivial))) (TT.mk (sm k_54) (TT.mk (sm k_86) (TT.mk nn (TT.mk (sm k_278) trivial trivial) (TT.mk (sm k_406) trivial trivial)) (TT.mk (sm k_214) (TT.mk (sm k_342) trivial trivial) (TT.mk (sm k_470) trivial trivial))) (TT.mk (sm k_118) (TT.mk (sm k_182) trivial (TT.mk (sm k_438) trivial trivial)) (TT.mk (sm k_246) (TT.mk (sm k_374) trivial trivial) (TT.mk (sm k_502) trivial trivial))))) (TT.mk (sm k_30) (TT.mk (sm k_46) (TT.mk (sm k_78) (TT.mk (sm k_142) (TT.mk (sm k_270) (TT.mk (sm k_526) trivial trivial) trivial) (TT.mk (sm k_398) trivial trivial)) (TT.mk (sm k_206) (TT.mk (sm k_334) trivial trivial) (TT.mk (sm k_462) trivial trivial))) (TT.mk (sm k_110) (TT.mk (sm k_174) (TT.mk (sm k_302) trivial trivial) trivial) (TT.mk (sm k_238) (TT.mk (sm k_366) trivial trivial) (TT.mk (sm k_494) trivial trivial)))) (TT.mk nn (TT.mk (sm k_94) (TT.mk (sm k_158) (TT.mk (sm k_286) trivial trivial) (TT.mk (sm k_414) trivial trivial)) (TT.mk (sm k_222) (TT.mk (sm k_350) trivial trivial) (TT.mk (sm k_478) trivial trivial))) (TT.mk (sm k_126) (TT.mk (sm k_190) trivial (TT.mk (sm k_446) trivial trivial)) (TT.mk nn (TT.mk (sm k_382) trivial trivial) (TT.mk (sm k_510) trivial trivial)))))))))
theorem ok : TTok Go.Proofs.Tryz.prog tt := fun t i h => TT.all_get all t i h
theorem en_7 : enters Go.Proofs.Tryz.prog 7 = true := by kernel_rfl
theorem en_8 : enters Go.Proofs.Tryz.prog 8 = true := by kernel_rfl
theorem en_9 : enters Go.Proofs.Tryz.prog 9 = true := by kernel_rfl
theorem en_10 : enters Go.Proofs.Tryz.prog 10 = true := by kernel_rfl
theorem en_11 : enters Go.Proofs.Tryz.prog 11 = true := by kernel_rfl
theorem en_22 : enters Go.Proofs.Tryz.prog 22 = true := by kernel_rfl
theorem en_23 : enters Go.Proofs.Tryz.prog 23 = true := by kernel_rfl
theorem en_24 : enters Go.Proofs.Tryz.prog 24 = true := by kernel_rfl
theorem en_25 : enters Go.Proofs.Tryz.prog 25 = true := by kernel_rfl
theorem en_26 : enters Go.Proofs.Tryz.prog 26 = true := by kernel_rfl
theorem en_50 : enters Go.Proofs.Tryz.prog 50 = true := by kernel_rfl
theorem en_53 : enters Go.Proofs.Tryz.prog 53 = true := by kernel_rfl
theorem en_96 : enters Go.Proofs.Tryz.prog 96 = true := by kernel_rfl
theorem en_134 : enters Go.Proofs.Tryz.prog 134 = true := by kernel_rfl
theorem en_140 : enters Go.Proofs.Tryz.prog 140 = true := by kernel_rfl
theorem en_219 : enters Go.Proofs.Tryz.prog 219 = true := by kernel_rfl
theorem en_222 : enters Go.Proofs.Tryz.prog 222 = true := by kernel_rfl
theorem mixed : Go.Proofs.Tryz.prog.follows .mixedOrders = true := by kernel_rfl
theorem fn {N : Nat} {f : FuncId} {fn : Func} {c : Code} {args : List D} {res : List C} {rs : List ResultVar} (fb : List Nat) (hf : Go.Proofs.Tryz.prog.funcs[f]? = some fn) (hk : argsT 0 args .leaf fun t => xcode Go.Proofs.Tryz.prog tt N fb c t (fun _ => .junk) (finK Go.Proofs.Tryz.prog tt rs res []))
  (hb : fn.body = some c := by rfl) (hN : fn.ntmps = N := by rfl) (hrs : fn.results.toList = rs := by rfl) (hargs : args.length ≤ N := by exact Nat.le_of_ble_eq_true rfl) (hNB : N ≤ BIG := by exact Nat.le_of_ble_eq_true rfl) : Contract Go.Proofs.Tryz.prog f args res := xfn ok fb hf hb hN hrs hargs hNB hk
end Go.Vm.T
end
section
namespace Go.Vm
open Go.RowKit Go.Proofs
set_option maxRecDepth 10000
theorem emp : ByteArray.empty = noB := rfl
theorem scb {a b : Bool} (h : a = b) : D.sc (.bool a) = D.sc (.bool b) := by rw [h]
theorem charAt {s : ByteArray} {k : Nat} (h : (k : Int) < (s.size : Int)) : ∃ b, s[k]? = some b := ⟨s[k]'(by omega), by rw [getElem?_pos]⟩
theorem name_any (s : ByteArray) : Contract Tryz.prog 140 [.sc (.string s)] [.d (.sc (.bool (nameB s)))] := by
 refine T.fn [] Tryz.func140 ?_
 refine x_len ?_
 refine br (fun hg1 => ?y1) (fun hg1 => ?n1)
 case' y1 =>
  refine brT ?_
 case' n1 =>
  refine x_len ?_
  refine br (fun hc3 => ?y3) (fun hc3 => ?n3)
  case' n3 =>
   have hlo : 1 ≤ s.size := by omega
   have hhi : s.size ≤ 12 := by omega
   refine x_len ?_
   refine xloopR (fb := []) T.ok (Nat.le_of_ble_eq_true rfl) [0, 15] (fun (k : Nat) => [(16, .c (.d (.sc (.int .i64 (k : Nat)))))]) (fun k => k ≤ s.size ∧ okTo s k ∧ 1 ≤ s.size ∧ s.size ≤ 12) (fun k => s.size - k) 0 ⟨Nat.zero_le _, okTo_zero s, hlo, hhi⟩ (x_ent (by first | rfl | (simp only [Tr.get]; simp; done)) trivial) ?_
   rintro k ⟨hk, hok, hlo, hhi⟩
   refine br (fun hc4 => ?y4) (fun hc4 => ?n4)
   case' y4 =>
    obtain ⟨b, hb⟩ := charAt hc4
    first | refine x_ch (by exact hb) ?_ | refine x_chI (by exact hb) ?_
    refine br (fun hg5 => ?y5) (fun hg5 => ?n5)
    case' y5 =>
     first | refine x_ch (by exact hb) ?_ | refine x_chI (by exact hb) ?_
     first | refine x_ch (by exact hb) ?_ | refine x_chI (by exact hb) ?_
     refine br (fun hg6 => ?y6) (fun hg6 => ?n6)
     case' y6 =>
      first | refine x_ch (by exact hb) ?_ | refine x_chI (by exact hb) ?_
      refine br (fun hg7 => ?y7) (fun hg7 => ?n7)
      case' y7 =>
       refine br (fun hg8 => ?y8) (fun hg8 => ?n8)
       case' y8 =>
        refine brT ?_
       case' n8 =>
        refine br (fun hc10 => ?y10) (fun hc10 => ?n10)
        case' n10 =>
         first | refine x_inc ?_ | refine x_add ?_ | refine x_bin rfl rfl ?_
         refine x_rnd (k + 1) ⟨char_lt hb, okTo_next hok hb (by (simp only [charB, decide_eq_true_eq, decide_eq_false_iff_not, Bool.not_eq_true', Bool.not_eq_false', Bool.and_eq_true, Bool.or_eq_true, Bool.or_eq_false_iff, Bool.and_eq_false_iff, beq_iff_eq, beq_eq_false_iff_ne, ne_eq, Bool.not_true, Bool.not_false, Bool.false_eq_true, Bool.true_eq_false] at * <;> omega)), hlo, hhi⟩ (by (try dsimp only); have := char_lt hb; omega) rfl (x_ent (by first | rfl | (simp only [Tr.get]; simp; done)) trivial) (by first | rfl | (funext u; simp only [hdrop, hset, hpost, hOf]; (repeat' split) <;> rfl))
      case' n7 =>
       refine brF ?_
       first | refine x_inc ?_ | refine x_add ?_ | refine x_bin rfl rfl ?_
       refine x_rnd (k + 1) ⟨char_lt hb, okTo_next hok hb (by (simp only [charB, decide_eq_true_eq, decide_eq_false_iff_not, Bool.not_eq_true', Bool.not_eq_false', Bool.and_eq_true, Bool.or_eq_true, Bool.or_eq_false_iff, Bool.and_eq_false_iff, beq_iff_eq, beq_eq_false_iff_ne, ne_eq, Bool.not_true, Bool.not_false, Bool.false_eq_true, Bool.true_eq_false] at * <;> omega)), hlo, hhi⟩ (by (try dsimp only); have := char_lt hb; omega) rfl (x_ent (by first | rfl | (simp only [Tr.get]; simp; done)) trivial) (by first | rfl | (funext u; simp only [hdrop, hset, hpost, hOf]; (repeat' split) <;> rfl))
     case' n6 =>
      refine br (fun hg12 => ?y12) (fun hg12 => ?n12)
      case' y12 =>
       refine brT ?_
       refine brT ?_
      case' n12 =>
       refine brF ?_
       first | refine x_inc ?_ | refine x_add ?_ | refine x_bin rfl rfl ?_
       refine x_rnd (k + 1) ⟨char_lt hb, okTo_next hok hb (by (simp only [charB, decide_eq_true_eq, decide_eq_false_iff_not, Bool.not_eq_true', Bool.not_eq_false', Bool.and_eq_true, Bool.or_eq_true, Bool.or_eq_false_iff, Bool.and_eq_false_iff, beq_iff_eq, beq_eq_false_iff_ne, ne_eq, Bool.not_true, Bool.not_false, Bool.false_eq_true, Bool.true_eq_false] at * <;> omega)), hlo, hhi⟩ (by (try dsimp only); have := char_lt hb; omega) rfl (x_ent (by first | rfl | (simp only [Tr.get]; simp; done)) trivial) (by first | rfl | (funext u; simp only [hdrop, hset, hpost, hOf]; (repeat' split) <;> rfl))
    case' n5 =>
     first | refine x_ch (by exact hb) ?_ | refine x_chI (by exact hb) ?_
     refine br (fun hg16 => ?y16) (fun hg16 => ?n16)
     case' y16 =>
      first | refine x_ch (by exact hb) ?_ | refine x_chI (by exact hb) ?_
      refine brT ?_
      refine br (fun hg18 => ?y18) (fun hg18 => ?n18)
      case' y18 =>
       refine brT ?_
      case' n18 =>
       refine br (fun hc20 => ?y20) (fun hc20 => ?n20)
       case' n20 =>
        first | refine x_inc ?_ | refine x_add ?_ | refine x_bin rfl rfl ?_
        refine x_rnd (k + 1) ⟨char_lt hb, okTo_next hok hb (by (simp only [charB, decide_eq_true_eq, decide_eq_false_iff_not, Bool.not_eq_true', Bool.not_eq_false', Bool.and_eq_true, Bool.or_eq_true, Bool.or_eq_false_iff, Bool.and_eq_false_iff, beq_iff_eq, beq_eq_false_iff_ne, ne_eq, Bool.not_true, Bool.not_false, Bool.false_eq_true, Bool.true_eq_false] at * <;> omega)), hlo, hhi⟩ (by (try dsimp only); have := char_lt hb; omega) rfl (x_ent (by first | rfl | (simp only [Tr.get]; simp; done)) trivial) (by first | rfl | (funext u; simp only [hdrop, hset, hpost, hOf]; (repeat' split) <;> rfl))
     case' n16 =>
      refine brT ?_
      refine brT ?_
      refine brT ?_
 all_goals (refine x_ret ?_; simp only [fitsL, fits, C.asD, and_true] <;> (refine scb ?_; first | (refine (name_short ?_).symm; omega; done) | (refine (name_long ?_).symm; omega; done) | (refine (name_no (char_lt hb) hb ?_).symm; (simp only [charB, decide_eq_true_eq, decide_eq_false_iff_not, Bool.not_eq_true', Bool.not_eq_false', Bool.and_eq_true, Bool.or_eq_true, Bool.or_eq_false_iff, Bool.and_eq_false_iff, beq_iff_eq, beq_eq_false_iff_ne, ne_eq, Bool.not_true, Bool.not_false, Bool.false_eq_true, Bool.true_eq_false] at * <;> omega); done) | (refine (name_yes hlo hhi ?_ hok).symm; omega; done)))
end Go.Vm
end
section
namespace Go.Vm
open Go.RowKit Go.Proofs
set_option maxRecDepth 10000
theorem less_any (a b : RefD) : Contract Tryz.prog 337 [rD a, rD b] [.d (.sc (.bool (lessB a b)))] := by
 refine T.fn [] Tryz.func337 ?_
 refine br (fun hc1 => ?y1) (fun hc1 => ?n1)
 case' n1 =>
  refine br (fun hc2 => ?y2) (fun hc2 => ?n2)
 all_goals (refine x_ret ?_; simp only [fitsL, fits, C.asD, and_true] <;> (refine scb ?_; simp_all [lessB, ltB]))
theorem place_any (r : RefD) : Contract Tryz.prog 219 [rD r] [.d (.sc (.bool (placeB r)))] := by
 refine T.fn [] Tryz.func219 ?_
 refine br (fun hg1 => ?y1) (fun hg1 => ?n1)
 case' y1 =>
  refine br (fun hc2 => ?y2) (fun hc2 => ?n2)
  case' n2 =>
   refine x_call T.en_140 (name_any _) ?_
   refine br (fun hg3 => ?y3) (fun hg3 => ?n3)
   case' y3 =>
    refine br (fun hg4 => ?y4) (fun hg4 => ?n4)
    case' n4 =>
     refine x_call T.en_140 (name_any _) ?_
 case' n1 =>
  refine brF ?_
  refine x_call T.en_140 (name_any _) ?_
  refine br (fun hg6 => ?y6) (fun hg6 => ?n6)
  case' y6 =>
   refine br (fun hg7 => ?y7) (fun hg7 => ?n7)
   case' n7 =>
    refine x_call T.en_140 (name_any _) ?_
 all_goals (refine x_ret ?_; simp only [fitsL, fits, C.asD, and_true] <;> (refine scb ?_; rcases (show r.scope = 0 ∨ r.scope = 1 ∨ (r.scope ≠ 0 ∧ r.scope ≠ 1) by omega) with h | h | h <;> simp_all [placeB, emp] <;> omega))
end Go.Vm
end
section
namespace Go.Vm
open Go.RowKit Go.Proofs
set_option maxRecDepth 10000
end Go.Vm
end
section
namespace Go.Vm
open Go.RowKit Go.Proofs
set_option maxRecDepth 10000
end Go.Vm
end
section
namespace Go.Vm
open Go.RowKit Go.Proofs
set_option maxRecDepth 10000
end Go.Vm
end
section
namespace Go.Vm
def okL (l : List FieldD) : Prop := l.length ≤ 1000 ∧ ∀ f ∈ l, f.cases.length ≤ 1000000
theorem okL.at {l : List FieldD} {k : Nat} {p : FieldD} (h : okL l) (hp : l[k]? = some p) : p.cases.length ≤ 1000000 := h.2 p (List.mem_of_getElem? hp)
def okSk (l : List FieldD) (k : Nat) : Bool := (List.range k).all fun j => match l[j]? with
 | some f => rightF f && (match l[j - 1]? with | some g => decide (j = 0) || lessB g.at_ f.at_ | none => true)
 | none => true
def rightS (l : List FieldD) : Bool := decide (l.length ≤ 16) && okSk l l.length
def indexS (l : List FieldD) (r : RefD) : Int := if (l.findIdx fun f => decide (f.at_ = r)) < l.length then ((l.findIdx fun f => decide (f.at_ = r) : Nat) : Int) else -1
def fieldAt (l : List FieldD) (r : RefD) : FieldD := match l[(indexS l r).toNat]? with
 | some f => f
 | none => noField
def insF (l : List FieldD) (f : FieldD) : List FieldD := (l.takeWhile fun g => lessB g.at_ f.at_) ++ f :: (l.dropWhile fun g => lessB g.at_ f.at_)
def withS (l : List FieldD) (f : FieldD) : List FieldD × Int :=
 if (rightS l && rightF f) = false then ([], 5) else if 0 ≤ indexS l f.at_ then ([], 7) else if 16 ≤ l.length then ([], 14) else (insF l f, 0)
def delF (l : List FieldD) (r : RefD) : List FieldD := l.filter fun f => !decide (f.at_ = r)
end Go.Vm
end
section
namespace Go.Vm
def caseT (t : List (ByteArray × ByteArray)) (s : ByteArray) : ByteArray × Bool := match t.find? fun p => decide (p.1 = s) with
  | some p => (p.2, true)
  | none => (noB, false)
def froms (t : List (ByteArray × ByteArray)) : List ByteArray := t.map (·.1)
def okT (t o : List (ByteArray × ByteArray)) (k : Nat) : Bool := (List.range k).all fun j => match t[j]? with
  | some p => nameB p.1 && !decide (p.1 ∈ froms (t.take j)) && decide (p.2 ∈ froms o)
  | none => true
def rightT (t o : List (ByteArray × ByteArray)) : Bool := decide (1 ≤ t.length) && decide (t.length ≤ 6) && okT t o t.length
def rightL (x : LensD) : Bool :=
  if x.kind = 2 ∨ x.kind = 3 then decide (x.at_ = noRef) && decide (x.name = noB) && decide (x.other = noB) && decide (x.factor = 0) && decide (x.forth.length = 0) && decide (x.back.length = 0) && rightF x.field
  else placeB x.at_ && decide (x.field = noField) &&
    (if x.kind = 8 then decide (x.factor = 0) && rightT x.forth x.back && rightT x.back x.forth && decide (caseT x.forth x.name = (x.other, true)) && decide (caseT x.back x.other = (x.name, true))
     else decide (x.forth.length = 0) && decide (x.back.length = 0) &&
      (if x.kind = 6 ∨ x.kind = 9 then nameB x.name && nameB x.other && !decide (x.name = x.other) && decide (2 ≤ x.factor) && decide (x.factor ≤ 1000)
       else decide (x.factor = 0) &&
        (if x.kind = 7 ∨ x.kind = 10 then decide (x.name = noB) && decide (x.other.size ≤ 40)
         else decide (x.other = noB) && (if x.kind = 1 then nameB x.name else if x.kind = 4 then decide (x.name = noB) && !decide (x.at_.group = noB) else if x.kind = 5 then decide (x.at_.group = noB) && nameB x.name else false))))
def named (r : RefD) (s : ByteArray) : RefD := ⟨r.scope, r.group, s⟩
def goesL (x : LensD) : List RefD := if x.kind = 2 then [] else if x.kind = 3 then [x.field.at_] else if x.kind = 9 then [named x.at_ x.name, named x.at_ x.other] else [x.at_]
def comesL (x : LensD) : List RefD := if x.kind = 2 then [x.field.at_] else if x.kind = 3 then [] else if x.kind = 6 then [named x.at_ x.name, named x.at_ x.other] else if x.kind = 1 then [named x.at_ x.name]
  else if x.kind = 4 then [⟨x.at_.scope, noB, x.at_.name⟩] else if x.kind = 5 then [⟨x.at_.scope, x.name, x.at_.name⟩] else [x.at_]
def newsL (l : List FieldD) (x : LensD) : Option (List FieldD) :=
  if x.kind = 2 then some [x.field]
  else if x.kind = 3 then (if fieldAt l x.field.at_ = x.field then some [] else none)
  else if x.kind = 9 then (if (fieldAt l (named x.at_ x.name)).kind = 1 ∧ (fieldAt l (named x.at_ x.other)).kind = 1 ∧ (fieldAt l (named x.at_ x.other)).worth = (fieldAt l (named x.at_ x.name)).worth * x.factor then some [⟨x.at_, 1, noB, [], (fieldAt l (named x.at_ x.name)).worth⟩] else none)
  else if x.kind = 6 then (if (fieldAt l x.at_).kind = 1 then some [⟨named x.at_ x.name, 1, noB, [], (fieldAt l x.at_).worth⟩, ⟨named x.at_ x.other, 1, noB, [], (fieldAt l x.at_).worth * x.factor⟩] else none)
  else if x.kind = 7 then (if (fieldAt l x.at_).kind = 2 ∧ (fieldAt l x.at_).deft = x.other then some [⟨x.at_, 4, noB, [], 0⟩] else none)
  else if x.kind = 10 then (if (fieldAt l x.at_).kind = 4 then some [⟨x.at_, 2, x.other, [], 0⟩] else none)
  else if x.kind = 8 then (if fieldAt l x.at_ = ⟨x.at_, 3, x.name, froms x.forth, 0⟩ then some [⟨x.at_, 3, x.other, froms x.back, 0⟩] else none)
  else some (match comesL x with | [] => [] | c :: _ => [⟨c, (fieldAt l x.at_).kind, (fieldAt l x.at_).deft, (fieldAt l x.at_).cases, (fieldAt l x.at_).worth⟩])
def withAll : List FieldD → List FieldD → List FieldD × Int
  | l, [] => (l, 0)
  | l, f :: fs => if (withS l f).2 = 0 then withAll (withS l f).1 fs else ([], 16)
def delAll (l : List FieldD) (rs : List RefD) : List FieldD := rs.foldl delF l
def applyS (l : List FieldD) (x : LensD) : List FieldD × Int :=
  if (rightS l && rightL x) = false then ([], 5)
  else if (goesL x).any (fun g => decide (indexS l g < 0)) then ([], 16)
  else match newsL l x with
    | none => ([], 16)
    | some fs => withAll (delAll l (goesL x)) fs
end Go.Vm
end
section
namespace Go.Vm
open Go.RowKit Go.Proofs
set_option maxRecDepth 10000
end Go.Vm
end
section
namespace Go.Vm
open Go.RowKit Go.Proofs
set_option maxRecDepth 10000
end Go.Vm
end
section
namespace Go.Vm
open Go.RowKit Go.Proofs
set_option maxRecDepth 10000
end Go.Vm
end
section
namespace Go.Vm
open Go.RowKit Go.Proofs
set_option maxRecDepth 10000
end Go.Vm
end
section
namespace Go.Vm
end Go.Vm
end
section
namespace Go.Vm
def okX (x : LensD) : Prop := x.field.cases.length ≤ 1000000 ∧ x.forth.length ≤ 1000 ∧ x.back.length ≤ 1000
def partsL (x : LensD) : LensD × Bool :=
 if x.kind = 1 ∨ x.kind = 5 then (⟨x.kind, x.at_, x.name, noB, 0, noField, [], []⟩, true)
 else if x.kind = 2 ∨ x.kind = 3 then (⟨x.kind, noRef, noB, noB, 0, x.field, [], []⟩, true)
 else if x.kind = 4 then (⟨x.kind, x.at_, noB, noB, 0, noField, [], []⟩, true)
 else if x.kind = 6 ∨ x.kind = 9 then (⟨x.kind, x.at_, x.name, x.other, x.factor, noField, [], []⟩, true)
 else if x.kind = 7 ∨ x.kind = 10 then (⟨x.kind, x.at_, noB, x.other, 0, noField, [], []⟩, true)
 else if x.kind = 8 then (⟨x.kind, x.at_, x.name, x.other, 0, noField, x.forth, x.back⟩, true)
 else (noLens, false)
end Go.Vm
end
section
namespace Go.Vm
open Go.RowKit Go.Proofs
set_option maxRecDepth 10000
theorem take_length {α : Type} {l : List α} {k : Nat} (h : k < l.length) : (l.take k).length = k := by rw [List.length_take]; omega
end Go.Vm
end
section
namespace Go.Vm
open Go.RowKit Go.Proofs
set_option maxRecDepth 10000
end Go.Vm
end
section
namespace Go.Vm
open Go.RowKit Go.Proofs
set_option maxRecDepth 10000
theorem parts_a {x : LensD} (h : x.kind = 1 ∨ x.kind = 5) : partsL x = (⟨x.kind, x.at_, x.name, noB, 0, noField, [], []⟩, true) := by unfold partsL; rw [if_pos h]
theorem parts_b {x : LensD} (h : x.kind = 2 ∨ x.kind = 3) : partsL x = (⟨x.kind, noRef, noB, noB, 0, x.field, [], []⟩, true) := by unfold partsL; rw [if_neg (by omega), if_pos h]
theorem parts_c {x : LensD} (h : x.kind = 4) : partsL x = (⟨x.kind, x.at_, noB, noB, 0, noField, [], []⟩, true) := by unfold partsL; rw [if_neg (by omega), if_neg (by omega), if_pos h]
theorem parts_d {x : LensD} (h : x.kind = 6 ∨ x.kind = 9) : partsL x = (⟨x.kind, x.at_, x.name, x.other, x.factor, noField, [], []⟩, true) := by unfold partsL; rw [if_neg (by omega), if_neg (by omega), if_neg (by omega), if_pos h]
theorem parts_e {x : LensD} (h : x.kind = 7 ∨ x.kind = 10) : partsL x = (⟨x.kind, x.at_, noB, x.other, 0, noField, [], []⟩, true) := by unfold partsL; rw [if_neg (by omega), if_neg (by omega), if_neg (by omega), if_neg (by omega), if_pos h]
theorem parts_f {x : LensD} (h : x.kind = 8) : partsL x = (⟨x.kind, x.at_, x.name, x.other, 0, noField, x.forth, x.back⟩, true) := by unfold partsL; rw [if_neg (by omega), if_neg (by omega), if_neg (by omega), if_neg (by omega), if_neg (by omega), if_pos h]
theorem parts_g {x : LensD} (h : ¬ x.kind = 1 ∧ ¬ x.kind = 2 ∧ ¬ x.kind = 3 ∧ ¬ x.kind = 4 ∧ ¬ x.kind = 5 ∧ ¬ x.kind = 6 ∧ ¬ x.kind = 7 ∧ ¬ x.kind = 8 ∧ ¬ x.kind = 9 ∧ ¬ x.kind = 10) : partsL x = (noLens, false) := by unfold partsL; rw [if_neg (by omega), if_neg (by omega), if_neg (by omega), if_neg (by omega), if_neg (by omega), if_neg (by omega)]
theorem parts_any (x : LensD) (hx0 : okX x) : Contract Tryz.prog 239 [lD x] [.d (lD (partsL x).1), .d (.sc (.bool ((partsL x).2)))] := by
 refine T.fn [] Tryz.func239 ?_
 refine br (fun hc1 => ?y1) (fun hc1 => ?n1)
 case' y1 =>
  have hkkind_1 := hc1
  refine brT ?_
  refine And.intro ⟨T.mixed, by decide +kernel⟩ ?_
 case' n1 =>
  have hnkind_1 := hc1
  refine br (fun hc3 => ?y3) (fun hc3 => ?n3)
  case' y3 =>
   have hkkind_5 := hc3
   refine And.intro ⟨T.mixed, by decide +kernel⟩ ?_
  case' n3 =>
   have hnkind_5 := hc3
   refine br (fun hc4 => ?y4) (fun hc4 => ?n4)
   case' y4 =>
    have hkkind_2 := hc4
    refine brT ?_
   case' n4 =>
    have hnkind_2 := hc4
    refine br (fun hc6 => ?y6) (fun hc6 => ?n6)
    case' y6 =>
     have hkkind_3 := hc6
    case' n6 =>
     have hnkind_3 := hc6
     refine br (fun hc7 => ?y7) (fun hc7 => ?n7)
     case' y7 =>
      have hkkind_4 := hc7
     case' n7 =>
      have hnkind_4 := hc7
      refine br (fun hc8 => ?y8) (fun hc8 => ?n8)
      case' y8 =>
       have hkkind_6 := hc8
       refine brT ?_
       refine And.intro ⟨T.mixed, by decide +kernel⟩ ?_
      case' n8 =>
       have hnkind_6 := hc8
       refine br (fun hc10 => ?y10) (fun hc10 => ?n10)
       case' y10 =>
        have hkkind_9 := hc10
        refine And.intro ⟨T.mixed, by decide +kernel⟩ ?_
       case' n10 =>
        have hnkind_9 := hc10
        refine br (fun hc11 => ?y11) (fun hc11 => ?n11)
        case' y11 =>
         have hkkind_7 := hc11
         refine brT ?_
         refine And.intro ⟨T.mixed, by decide +kernel⟩ ?_
        case' n11 =>
         have hnkind_7 := hc11
         refine br (fun hc13 => ?y13) (fun hc13 => ?n13)
         case' y13 =>
          have hkkind_10 := hc13
          refine And.intro ⟨T.mixed, by decide +kernel⟩ ?_
         case' n13 =>
          have hnkind_10 := hc13
          refine br (fun hc14 => ?y14) (fun hc14 => ?n14)
          case' y14 =>
           have hkkind_8 := hc14
           refine And.intro ⟨T.mixed, by decide +kernel⟩ ?_
           refine And.intro ⟨T.mixed, by decide +kernel⟩ ?_
          case' n14 =>
           have hnkind_8 := hc14
 all_goals (refine x_ret ?_; simp only [fitsL, fits, C.asD, and_true] <;> (first | (rw [parts_a (by omega)]; exact ⟨by kernel_rfl, by kernel_rfl⟩) | (rw [parts_b (by omega)]; exact ⟨by kernel_rfl, by kernel_rfl⟩) | (rw [parts_c (by omega)]; exact ⟨by kernel_rfl, by kernel_rfl⟩) | (rw [parts_d (by omega)]; exact ⟨by kernel_rfl, by kernel_rfl⟩) | (rw [parts_e (by omega)]; exact ⟨by kernel_rfl, by kernel_rfl⟩) | (rw [parts_f (by omega)]; exact ⟨by kernel_rfl, by kernel_rfl⟩) | (rw [parts_g (by omega)]; exact ⟨by kernel_rfl, by kernel_rfl⟩)))
end Go.Vm
end
section
namespace Go.Vm
open Go.RowKit Go.Proofs
set_option maxRecDepth 10000
end Go.Vm
end
section
namespace Go.Vm
open Go.RowKit Go.Proofs
set_option maxRecDepth 10000
end Go.Vm
end
section
namespace Go.Vm
open Go.RowKit Go.Proofs
set_option maxRecDepth 10000
end Go.Vm
end
section
namespace Go.Vm
open Go.RowKit Go.Proofs
set_option maxRecDepth 10000
end Go.Vm
end
section
namespace Go.Vm
open Go.RowKit Go.Proofs
set_option maxRecDepth 10000
end Go.Vm
end
section
namespace Go.Vm
open Go.RowKit Go.Proofs
set_option maxRecDepth 10000
end Go.Vm
end
section
namespace Go.Vm
open Go.RowKit
section
variable {P : Program} {N : Nat} {t : Tr} {h : Hp} {o : Oper}
def hpost (h : Hp) : List (Nat × S) → Hp
 | [] => h
 | (n, s) :: l => hset (hpost h l) n s
end
end Go.Vm
end
section
namespace Go.Vm
open Go.RowKit
structure TagD where
 r : Int
 n : Int
 deriving DecidableEq
def noTag : TagD := ⟨0, 0⟩
structure EdgeD where
 id : TagD
 parent : TagD
 lens : LensD
 deriving DecidableEq
structure NodeD where
 edge : EdgeD
 state : Int
 schema : List FieldD
 depth : Int
 deriving DecidableEq
def tD (t : TagD) : D := .agg [.sc (.int .i64 t.r), .sc (.int .i64 t.n)]
def nodeC (n : NodeD) : List D := .sc (.int .i64 n.edge.id.r) :: .sc (.int .i64 n.edge.id.n) :: .sc (.int .i64 n.edge.parent.r) :: .sc (.int .i64 n.edge.parent.n) :: 
 [.sc (.int .i64 n.edge.lens.kind), .sc (.int .i64 n.edge.lens.at_.scope), .sc (.string n.edge.lens.at_.group), .sc (.string n.edge.lens.at_.name), .sc (.string n.edge.lens.name), .sc (.string n.edge.lens.other), .sc (.int .i64 n.edge.lens.factor),
 .sc (.int .i64 n.edge.lens.field.at_.scope), .sc (.string n.edge.lens.field.at_.group), .sc (.string n.edge.lens.field.at_.name), .sc (.int .i64 n.edge.lens.field.kind), .sc (.string n.edge.lens.field.deft), .row (n.edge.lens.field.cases.map strD), .sc (.int .i64 n.edge.lens.field.worth), .row (n.edge.lens.forth.map pairD), .row (n.edge.lens.back.map pairD),
 .sc (.int .i64 n.state), .row (n.schema.map fD), .sc (.int .i64 n.depth)]
def nD (n : NodeD) : D := .agg (nodeC n)
def noEdge : EdgeD := ⟨noTag, noTag, noLens⟩
def noNode : NodeD := ⟨noEdge, 0, [], 0⟩
def findT {β : Type} (k : TagD) : List (TagD × β) → Option β
 | [] => none
 | p :: l => if k = p.1 then some p.2 else findT k l
def putT {β : Type} (k : TagD) (v : β) : List (TagD × β) → List (TagD × β)
 | [] => [(k, v)]
 | p :: l => if k = p.1 then (k, v) :: l else p :: putT k v l
def tagB (t : TagD) : Bool := decide (1 ≤ t.r) && decide (t.r ≤ 6) && decide (1 ≤ t.n) && decide (t.n ≤ 1099511627776)
def edgeB (e : EdgeD) : Bool := tagB e.id && (decide (e.parent = noTag) || (tagB e.parent && !decide (e.parent = e.id))) && (decide (1 ≤ e.lens.kind) && decide (e.lens.kind ≤ 8) && rightL e.lens)
def rootS : List FieldD := [⟨⟨0, noB, ⟨#[99, 111, 117, 112, 111, 110]⟩⟩, 2, noB, [], 0⟩, ⟨⟨1, noB, ⟨#[110, 111, 116, 101]⟩⟩, 2, noB, [], 0⟩, ⟨⟨1, noB, ⟨#[113, 116, 121]⟩⟩, 1, noB, [], 1⟩, ⟨⟨1, noB, ⟨#[115, 105, 122, 101]⟩⟩, 3, ⟨#[109, 101, 100, 105, 117, 109]⟩, [⟨#[115, 109, 97, 108, 108]⟩, ⟨#[109, 101, 100, 105, 117, 109]⟩, ⟨#[108, 97, 114, 103, 101]⟩], 0⟩, ⟨⟨1, noB, ⟨#[116, 97, 103, 115]⟩⟩, 4, noB, [], 0⟩]
def edgeOf (E : List EdgeD) (id : TagD) : Option EdgeD := E.find? fun e => decide (e.id = id)
def stepC (r : Int × List FieldD × Int) (x : LensD) : Int × List FieldD × Int :=
 if r.1 = 2 then (if (applyS r.2.1 x).2 = 0 then (2, (applyS r.2.1 x).1, r.2.2 + 1) else (3, [], 0)) else if r.1 = 3 then (3, [], 0) else (1, [], 0)
def comes : Nat → List EdgeD → TagD → Int × List FieldD × Int
 | 0, _, _ => (1, [], 0)
 | n + 1, E, id => if id = noTag then (2, rootS, 0) else match edgeOf E id with
  | none => (0, [], 0)
  | some e => stepC (comes n E e.parent) e.lens
def pend (e : EdgeD) : NodeD := ⟨e, 1, [], 0⟩
def nodeOf (E : List EdgeD) (e : EdgeD) : NodeD := let r := comes (E.length + 1) E e.id; ⟨e, r.1, r.2.1, r.2.2⟩
def atT (l : List (TagD × NodeD)) (id : TagD) : NodeD := if id = noTag then ⟨noEdge, 2, rootS, 0⟩ else (findT id l).getD noNode
def nodesOf (E : List EdgeD) : List (TagD × NodeD) := E.map fun e => (e.id, nodeOf E e)
def ents (l : List (TagD × NodeD)) : List (D × D) := l.map fun p => (tD p.1, nD p.2)
theorem at_root {l : List (TagD × NodeD)} {id : TagD} (h : id = noTag) : atT l id = ⟨noEdge, 2, rootS, 0⟩ := if_pos h
theorem at_other {l : List (TagD × NodeD)} {id : TagD} (h : ¬ id = noTag) : atT l id = (findT id l).getD noNode := if_neg h
end Go.Vm
end
section
namespace Go.Vm
open Go.RowKit
structure OpD where
 id : TagD
 schema : TagD
 time : Int
 cart : ByteArray
 kind : Int
 item : ByteArray
 at_ : RefD
 delta : Int
 has : Bool
 text : ByteArray
 drops : List TagD
 deriving DecidableEq
structure VecD where
 v1 : Int
 v2 : Int
 v3 : Int
 v4 : Int
 v5 : Int
 v6 : Int
 deriving DecidableEq
structure NoteD where
 kind : Int
 who : Int
 format : Int
 have_ : VecD
 tags : List TagD
 edges : List EdgeD
 ops : List OpD
 deriving DecidableEq
structure DeedD where
 kind : Int
 cart : ByteArray
 item : ByteArray
 at_ : RefD
 n : Int
 text : ByteArray
 tag : TagD
 lens : LensD
 deriving DecidableEq
end Go.Vm
end
section
namespace Go.Vm
abbrev Came := Int × List FieldD × Int
def doneB (r : Came) : Bool := decide (r.1 = 2) || decide (r.1 = 3)
theorem step_done {r : Came} {x : LensD} (h : doneB (stepC r x) = true) : doneB r = true := by
  unfold stepC at h
  split at h
  · rename_i h2; simp [doneB, h2]
  · split at h
    · rename_i h3; simp [doneB, h3]
    · simp [doneB] at h
theorem step_of_done {r : Came} {x : LensD} (h : doneB r = true) : doneB (stepC r x) = true := by
  unfold stepC
  simp only [doneB, Bool.or_eq_true, decide_eq_true_eq] at h
  split
  · split <;> simp [doneB]
  · rename_i h2
    rw [if_pos (h.resolve_left h2)]; simp [doneB]
theorem comes_succ {n : Nat} {E : List EdgeD} {id : TagD} {e : EdgeD} (h0 : ¬ id = noTag) (he : edgeOf E id = some e) : comes (n + 1) E id = stepC (comes n E e.parent) e.lens := by
  simp only [comes, if_neg h0, he]
theorem comes_none {n : Nat} {E : List EdgeD} {id : TagD} (h0 : ¬ id = noTag) (he : edgeOf E id = none) : comes (n + 1) E id = (0, [], 0) := by
  simp only [comes, if_neg h0, he]
theorem comes_root {n : Nat} {E : List EdgeD} : comes (n + 1) E noTag = (2, rootS, 0) := by simp [comes]
theorem comes_mono {E : List EdgeD} : ∀ {n : Nat} {id : TagD}, doneB (comes n E id) = true → comes (n + 1) E id = comes n E id
  | 0, id, h => by simp [comes, doneB] at h
  | n + 1, id, h => by
    by_cases h0 : id = noTag
    · subst h0; rw [comes_root, comes_root]
    · cases he : edgeOf E id with
      | none => rw [comes_none h0 he, comes_none h0 he]
      | some e =>
        rw [comes_succ h0 he, comes_succ (n := n) h0 he]
        rw [comes_succ h0 he] at h
        rw [comes_mono (step_done h)]
theorem comes_more {E : List EdgeD} {n : Nat} {id : TagD} (h : doneB (comes n E id) = true) : ∀ k, comes (n + k) E id = comes n E id
  | 0 => rfl
  | k + 1 => by
    have := comes_more h k
    rw [← Nat.add_assoc, comes_mono (by rw [this]; exact h), this]
def cnt (E : List EdgeD) (n : Nat) : Nat := E.countP fun e => doneB (comes n E e.id)
theorem countP_imp {α : Type} {p q : α → Bool} : ∀ {l : List α}, (∀ a ∈ l, p a = true → q a = true) → l.countP p = l.countP q → ∀ a ∈ l, q a = true → p a = true
  | [], _, _, a, ha, _ => by cases ha
  | b :: l, hi, hc, a, ha, hq => by
    have hle : l.countP p ≤ l.countP q := List.countP_mono_left fun a ha => hi a (List.mem_cons_of_mem _ ha)
    have hb := hi b (List.mem_cons_self ..)
    simp only [List.countP_cons] at hc
    rcases List.mem_cons.1 ha with rfl | ha
    · cases hp : p a with
      | true => rfl
      | false => rw [hp, hq] at hc; simp at hc; omega
    · refine countP_imp (fun a ha => hi a (List.mem_cons_of_mem _ ha)) ?_ a ha hq
      cases hp : p b with
      | true => rw [hp, hb hp] at hc; simpa using hc
      | false =>
        cases hq2 : q b with
        | true => rw [hp, hq2] at hc; simp at hc; omega
        | false => rw [hp, hq2] at hc; simpa using hc
theorem edge_mem {E : List EdgeD} {id : TagD} {e : EdgeD} (h : edgeOf E id = some e) : e ∈ E ∧ e.id = id := by
  unfold edgeOf at h
  exact ⟨List.mem_of_find?_eq_some h, by simpa using List.find?_some h⟩
theorem cnt_still {E : List EdgeD} {n : Nat} (h : cnt E (n + 2) = cnt E (n + 1)) : ∀ k id, doneB (comes (n + 1 + k) E id) = true → doneB (comes (n + 1) E id) = true := by
  have hstep : ∀ id, doneB (comes (n + 2) E id) = true → doneB (comes (n + 1) E id) = true := by
    intro id hd
    by_cases h0 : id = noTag
    · subst h0; rw [comes_root]; rfl
    · cases he : edgeOf E id with
      | none => rw [comes_none h0 he] at hd; simp [doneB] at hd
      | some e =>
        obtain ⟨hm, rfl⟩ := edge_mem he
        exact countP_imp (p := fun e : EdgeD => doneB (comes (n + 1) E e.id)) (q := fun e : EdgeD => doneB (comes (n + 2) E e.id)) (fun a _ ha => by rw [comes_mono ha]; exact ha) h.symm e hm hd
  intro k
  induction k with
  | zero => intro id h; exact h
  | succ k ih =>
    intro id hd
    by_cases h0 : id = noTag
    · subst h0; rw [comes_root]; rfl
    · cases he : edgeOf E id with
      | none => rw [show n + 1 + (k + 1) = (n + 1 + k) + 1 by omega, comes_none h0 he] at hd; simp [doneB] at hd
      | some e =>
        rw [show n + 1 + (k + 1) = (n + 1 + k) + 1 by omega, comes_succ h0 he] at hd
        have := ih e.parent (step_done hd)
        refine hstep id ?_
        rw [comes_succ h0 he]
        exact step_of_done this
theorem cnt_le (E : List EdgeD) (n : Nat) : cnt E n ≤ E.length := List.countP_le_length
theorem cnt_mono (E : List EdgeD) (n : Nat) : cnt E n ≤ cnt E (n + 1) := List.countP_mono_left fun e _ h => by rw [comes_mono h]; exact h
theorem comes_full {E : List EdgeD} {k : Nat} {id : TagD} (h : doneB (comes k E id) = true) : comes (E.length + 1) E id = comes k E id := by
  have key : ∃ n, n ≤ E.length ∧ cnt E (n + 2) = cnt E (n + 1) := by
    apply Classical.byContradiction
    intro hno
    have grow : ∀ n, n ≤ E.length + 1 → n ≤ cnt E (n + 1) := by
      intro n
      induction n with
      | zero => intro _; exact Nat.zero_le _
      | succ n ih =>
        intro hn
        have h1 := ih (by omega)
        have h2 := cnt_mono E (n + 1)
        have h3 : cnt E (n + 2) ≠ cnt E (n + 1) := fun e => hno ⟨n, by omega, e⟩
        show n + 1 ≤ cnt E (n + 2)
        have h4 : cnt E (n + 1) ≤ cnt E (n + 2) := h2
        omega
    have := grow (E.length + 1) (Nat.le_refl _)
    have := cnt_le E (E.length + 1 + 1)
    omega
  obtain ⟨n, hn, hc⟩ := key
  have hst := cnt_still hc
  rcases Nat.le_total k (n + 1) with hk | hk
  · have e1 := comes_more h (E.length + 1 - k)
    rwa [show k + (E.length + 1 - k) = E.length + 1 by omega] at e1
  · have h1 := hst (k - (n + 1)) id (by rw [show n + 1 + (k - (n + 1)) = k by omega]; exact h)
    have e1 := comes_more h1 (k - (n + 1))
    have e2 := comes_more h1 (E.length + 1 - (n + 1))
    rw [show n + 1 + (k - (n + 1)) = k by omega] at e1
    rw [show n + 1 + (E.length + 1 - (n + 1)) = E.length + 1 by omega] at e2
    rw [e1, e2]
def cameOf (E : List EdgeD) (id : TagD) : Came := comes (E.length + 1) E id
theorem came_step {E : List EdgeD} {id : TagD} {e : EdgeD} (h0 : ¬ id = noTag) (he : edgeOf E id = some e) : cameOf E id = stepC (cameOf E e.parent) e.lens := by
  unfold cameOf
  cases hd : doneB (comes (E.length + 1) E e.parent) with
  | true =>
    have : doneB (comes (E.length + 2) E id) = true := by rw [comes_succ h0 he]; exact step_of_done hd
    rw [comes_full this, comes_succ h0 he]
  | false =>
    rw [comes_succ h0 he]
    have h1 : doneB (comes E.length E e.parent) = false := by
      cases h2 : doneB (comes E.length E e.parent) with
      | false => rfl
      | true => rw [comes_mono h2] at hd; rw [hd] at h2; cases h2
    have nd : ∀ r : Came, doneB r = false → stepC r e.lens = (1, [], 0) := by
      intro r hr
      simp only [doneB, Bool.or_eq_false_iff, decide_eq_false_iff_not] at hr
      unfold stepC
      rw [if_neg hr.1, if_neg hr.2]
    rw [nd _ h1, nd _ hd]
theorem came_root {E : List EdgeD} : cameOf E noTag = (2, rootS, 0) := comes_root
structure Good (E : List EdgeD) : Prop where
  ok : ∀ e ∈ E, okX e.lens
  tag : ∀ e ∈ E, ¬ e.id = noTag
  uniq : E.Pairwise fun a b => ¬ a.id = b.id
theorem edge_of_mem {E : List EdgeD} : E.Pairwise (fun a b => ¬ a.id = b.id) → ∀ {e : EdgeD}, e ∈ E → edgeOf E e.id = some e
  | .nil, e, h => by cases h
  | .cons (a := a) (l := l) h1 h2, e, h => by
    unfold edgeOf
    rcases List.mem_cons.1 h with rfl | h
    · simp
    · rw [List.find?_cons_of_neg (by simpa using h1 e h)]
      exact edge_of_mem h2 h
structure Half (E : List EdgeD) (l : List (TagD × NodeD)) : Prop where
  edges : l.map (fun p => p.2.edge) = E
  each : ∀ p ∈ l, p.1 = p.2.edge.id ∧ (p.2 = nodeOf E p.2.edge ∨ p.2 = pend p.2.edge)
theorem findT_mem {β : Type} {k : TagD} : ∀ {l : List (TagD × β)} {n : β}, findT k l = some n → (k, n) ∈ l
  | [], n, h => by cases h
  | p :: l, n, h => by
    unfold findT at h
    split at h
    · rename_i e; injection h with h; subst h e; exact List.mem_cons_self ..
    · exact List.mem_cons_of_mem _ (findT_mem h)
theorem edge_find {l : List (TagD × NodeD)} {k : TagD} : (∀ p ∈ l, p.1 = p.2.edge.id) → edgeOf (l.map fun p => p.2.edge) k = (findT k l).map (·.edge) := by
  induction l with
  | nil => intro _; rfl
  | cons p l ih =>
    intro h
    have hp := h p (List.mem_cons_self ..)
    unfold edgeOf findT
    simp only [List.map_cons]
    by_cases e : k = p.1
    · rw [if_pos e, List.find?_cons_of_pos (by simp [e, hp])]; rfl
    · rw [if_neg e, List.find?_cons_of_neg (by simp only [decide_eq_true_eq]; intro e2; exact e (by rw [hp, e2]))]
      exact ih fun q hq => h q (List.mem_cons_of_mem _ hq)
theorem Half.edge {E : List EdgeD} {l : List (TagD × NodeD)} (h : Half E l) (k : TagD) : edgeOf E k = (findT k l).map (·.edge) := by
  have := edge_find (k := k) fun p hp => (h.each p hp).1
  rwa [h.edges] at this
theorem Half.at {E : List EdgeD} {l : List (TagD × NodeD)} (h : Half E l) {id : TagD} (hs : (atT l id).state = 2 ∨ (atT l id).state = 3) : (atT l id).state = (cameOf E id).1 ∧ (atT l id).schema = (cameOf E id).2.1 ∧ (atT l id).depth = (cameOf E id).2.2 := by
  by_cases h0 : id = noTag
  · subst h0; rw [at_root rfl, came_root]; exact ⟨rfl, rfl, rfl⟩
  · rw [at_other h0] at hs ⊢
    cases hf : findT id l with
    | none => rw [hf] at hs; simp [noNode] at hs
    | some n =>
      rw [hf] at hs
      simp only [Option.getD_some] at hs ⊢
      obtain ⟨h1, h2⟩ := h.each _ (findT_mem hf)
      simp only at h1 h2
      rcases h2 with h2 | h2
      · rw [h2, h1]; exact ⟨rfl, rfl, rfl⟩
      · rw [h2] at hs; simp [pend] at hs
theorem came_undone {E : List EdgeD} {e : EdgeD} (hg : Good E) (he : e ∈ E) (h : doneB (cameOf E e.id) = false) : cameOf E e.id = (1, [], 0) := by
  rw [came_step (hg.tag e he) (edge_of_mem hg.uniq he)] at h ⊢
  cases hd : doneB (cameOf E e.parent) with
  | true => rw [step_of_done hd] at h; cases h
  | false =>
    simp only [doneB, Bool.or_eq_false_iff, decide_eq_false_iff_not] at hd
    unfold stepC
    rw [if_neg hd.1, if_neg hd.2]
theorem node_pend {E : List EdgeD} {e : EdgeD} (hg : Good E) (he : e ∈ E) (h : doneB (cameOf E e.id) = false) : nodeOf E e = pend e := by
  have := came_undone hg he h
  unfold nodeOf pend
  show NodeD.mk e (cameOf E e.id).1 (cameOf E e.id).2.1 (cameOf E e.id).2.2 = _
  rw [this]
theorem Half.pend {E : List EdgeD} {l : List (TagD × NodeD)} (hg : Good E) (h : Half E l) {p : TagD × NodeD} (hp : p ∈ l) (hs : p.2.state = 1) : p.2 = Vm.pend p.2.edge ∧ p.1 = p.2.edge.id ∧ p.2.edge ∈ E := by
  obtain ⟨h1, h2⟩ := h.each p hp
  have hm : p.2.edge ∈ E := by rw [← h.edges]; exact List.mem_map.2 ⟨p, hp, rfl⟩
  refine ⟨?_, h1, hm⟩
  rcases h2 with h2 | h2
  · rw [h2] at hs
    have : doneB (cameOf E p.2.edge.id) = false := by
      have hs : (cameOf E p.2.edge.id).1 = 1 := hs
      simp [doneB, hs]
    rw [h2]; exact node_pend hg hm this
  · exact h2
theorem put_at {β : Type} {k : TagD} {v : β} : ∀ {l : List (TagD × β)} {i : Nat} {q : TagD × β}, l[i]? = some q → q.1 = k → (∀ j p, j < i → l[j]? = some p → ¬ p.1 = k) → putT k v l = l.set i (k, v)
  | [], i, q, h, _, _ => by simp at h
  | p :: l, 0, q, h, hk, _ => by
    simp at h; subst h
    unfold putT; rw [if_pos hk.symm]; rfl
  | p :: l, i + 1, q, h, hk, hn => by
    unfold putT
    rw [if_neg (fun e => hn 0 p (Nat.succ_pos _) rfl e.symm)]
    rw [put_at (l := l) (i := i) (by simpa using h) hk (fun j p hj hp => hn (j + 1) p (by omega) (by simpa using hp))]
    rfl
theorem Half.uniq {E : List EdgeD} {l : List (TagD × NodeD)} (hg : Good E) (h : Half E l) {i j : Nat} {p q : TagD × NodeD} (hp : l[i]? = some p) (hq : l[j]? = some q) (hlt : i < j) : ¬ p.1 = q.1 := by
  have h1 : E[i]? = some p.2.edge := by rw [← h.edges, List.getElem?_map, hp]; rfl
  have h2 : E[j]? = some q.2.edge := by rw [← h.edges, List.getElem?_map, hq]; rfl
  obtain ⟨hi, e1⟩ := List.getElem?_eq_some_iff.1 h1
  obtain ⟨hj, e2⟩ := List.getElem?_eq_some_iff.1 h2
  have := (List.pairwise_iff_getElem.1 hg.uniq) i j hi hj hlt
  rw [e1, e2] at this
  rw [(h.each p (List.mem_of_getElem? hp)).1, (h.each q (List.mem_of_getElem? hq)).1]
  exact this
theorem set_self {α : Type} : ∀ {l : List α} {i : Nat} {x : α}, l[i]? = some x → l.set i x = l
  | [], i, x, h => by simp at h
  | y :: l, 0, x, h => by simp at h; subst h; rfl
  | y :: l, i + 1, x, h => by simp only [List.set_cons_succ]; rw [set_self (l := l) (by simpa using h)]
theorem Half.put {E : List EdgeD} {l : List (TagD × NodeD)} (hg : Good E) (h : Half E l) {i : Nat} {q : TagD × NodeD} (hq : l[i]? = some q) : putT q.1 (nodeOf E q.2.edge) l = l.set i (q.1, nodeOf E q.2.edge) ∧ Half E (putT q.1 (nodeOf E q.2.edge) l) := by
  have e := put_at (v := nodeOf E q.2.edge) hq rfl (fun j p hj hp => h.uniq hg hp hq hj)
  refine ⟨e, ?_⟩
  rw [e]
  have hi := (List.getElem?_eq_some_iff.1 hq).1
  constructor
  · rw [List.map_set, ← h.edges]
    show (l.map fun p => p.2.edge).set i q.2.edge = _
    exact set_self (by rw [List.getElem?_map, hq]; rfl)
  · intro p hp
    rcases List.mem_or_eq_of_mem_set hp with hp | rfl
    · exact h.each p hp
    · exact ⟨(h.each q (List.mem_of_getElem? hq)).1, .inl rfl⟩
def quiet (l : List (TagD × NodeD)) (i : Nat) : Prop := ∀ p, l[i]? = some p → ¬ p.2.state = 1 ∨ (¬ (atT l p.2.edge.parent).state = 2 ∧ ¬ (atT l p.2.edge.parent).state = 3)
theorem Half.over {E : List EdgeD} {l : List (TagD × NodeD)} (hg : Good E) (h : Half E l) (hq : ∀ i, i < l.length → quiet l i) : l = nodesOf E := by
  have key : ∀ n id nd, doneB (comes n E id) = true → ¬ id = noTag → findT id l = some nd → nd = nodeOf E nd.edge := by
    intro n
    induction n with
    | zero => intro id nd hd; simp [comes, doneB] at hd
    | succ n ih =>
      intro id nd hd h0 hf
      have hm := findT_mem hf
      obtain ⟨h1, h2⟩ := h.each _ hm
      simp only at h1 h2
      have he : edgeOf E id = some nd.edge := by rw [h.edge, hf]; rfl
      rcases h2 with h2 | h2
      · exact h2
      · exfalso
        rw [comes_succ h0 he] at hd
        have hd := step_done hd
        obtain ⟨i, hi⟩ := List.getElem?_of_mem hm
        rcases hq i (List.getElem?_eq_some_iff.1 hi).1 _ hi with h3 | ⟨h3, h4⟩
        · simp only at h3; rw [h2] at h3; exact h3 rfl
        · simp only at h3 h4
          by_cases hp : nd.edge.parent = noTag
          · rw [at_root hp] at h3; exact h3 rfl
          · cases hfp : findT nd.edge.parent l with
            | none =>
              have he2 : edgeOf E nd.edge.parent = none := by rw [h.edge, hfp]; rfl
              cases n with
              | zero => simp [comes, doneB] at hd
              | succ n => rw [comes_none hp he2] at hd; simp [doneB] at hd
            | some np =>
              have hnp := ih nd.edge.parent np hd hp hfp
              have h5 := (h.each _ (findT_mem hfp)).1
              simp only at h5
              have hc : cameOf E nd.edge.parent = comes n E nd.edge.parent := comes_full hd
              have hst : np.state = (cameOf E nd.edge.parent).1 := by rw [h5, hnp]; rfl
              rw [at_other hp, hfp] at h3 h4
              simp only [Option.getD_some] at h3 h4
              rw [hst, hc] at h3 h4
              simp only [doneB, Bool.or_eq_true, decide_eq_true_eq] at hd
              exact hd.elim h3 h4
  have each : ∀ p ∈ l, p = (p.2.edge.id, nodeOf E p.2.edge) := by
    intro p hp
    obtain ⟨h1, h2⟩ := h.each p hp
    have hm : p.2.edge ∈ E := by rw [← h.edges]; exact List.mem_map.2 ⟨p, hp, rfl⟩
    have h3 : p.2 = nodeOf E p.2.edge := by
      rcases h2 with h2 | h2
      · exact h2
      · cases hd : doneB (cameOf E p.2.edge.id) with
        | false => rw [node_pend hg hm hd]; exact h2
        | true =>
          have hf : findT p.1 l = some p.2 := by
            have he := h.edge p.1
            rw [h1, edge_of_mem hg.uniq hm] at he
            cases hf : findT p.2.edge.id l with
            | none => rw [hf] at he; cases he
            | some n =>
              rw [h1, hf]
              obtain ⟨i, hi⟩ := List.getElem?_of_mem hp
              obtain ⟨j, hj⟩ := List.getElem?_of_mem (findT_mem hf)
              rcases Nat.lt_trichotomy i j with hij | hij | hij
              · exact absurd (by simpa using h1) (h.uniq hg hi hj hij)
              · subst hij; rw [hi] at hj; injection hj with hj; rw [hj]
              · exact absurd (by simpa using h1.symm) (h.uniq hg hj hi hij)
          exact key _ p.1 p.2 (by rw [h1]; exact hd) (by rw [h1]; exact hg.tag _ hm) hf
    exact Prod.ext h1 h3
  have e : nodesOf E = l.map fun p => (p.2.edge.id, nodeOf E p.2.edge) := by
    have := congrArg (List.map fun e : EdgeD => (e.id, nodeOf E e)) h.edges
    rw [List.map_map] at this
    exact this.symm
  rw [e]
  conv => lhs; rw [← List.map_id l]
  exact List.map_congr_left fun p hp => each p hp
def putE (E : List EdgeD) (e : EdgeD) : List EdgeD × Int :=
  if edgeB e = false then (E, 5) else match edgeOf E e.id with
    | some f => if f = e then (E, 7) else (E, 15)
    | none => if 40 ≤ E.length then (E, 9) else (E ++ [e], 0)
theorem edgeOf_none {E : List EdgeD} {k : TagD} (h : edgeOf E k = none) : ∀ f ∈ E, ¬ f.id = k := by
  intro f hf e
  unfold edgeOf at h
  have := List.find?_eq_none.1 h f hf
  simp [e] at this
theorem tag_real {t : TagD} (h : tagB t = true) : ¬ t = noTag := by
  rintro rfl; simp [tagB, noTag] at h
theorem Good.more {E : List EdgeD} {e : EdgeD} (hg : Good E) (hx : okX e.lens) (hb : edgeB e = true) (hn : edgeOf E e.id = none) : Good (E ++ [e]) := by
  have ht : tagB e.id = true := by unfold edgeB at hb; simp only [Bool.and_eq_true] at hb; exact hb.1.1
  refine ⟨fun x hx2 => ?_, fun x hx2 => ?_, List.pairwise_append.2 ⟨hg.uniq, List.pairwise_singleton .., fun a ha b hb => ?_⟩⟩
  · rcases List.mem_append.1 hx2 with h | h
    · exact hg.ok x h
    · rw [List.mem_singleton.1 h]; exact hx
  · rcases List.mem_append.1 hx2 with h | h
    · exact hg.tag x h
    · rw [List.mem_singleton.1 h]; exact tag_real ht
  · rw [List.mem_singleton.1 hb]; exact edgeOf_none hn a ha
theorem Good.put {E : List EdgeD} {e : EdgeD} (hg : Good E) (hx : okX e.lens) : Good (putE E e).1 := by
  unfold putE
  split
  · exact hg
  · rename_i hb
    split
    · split <;> exact hg
    · rename_i hn
      split
      · exact hg
      · exact hg.more hx (by simpa using hb) hn
section
variable {E : List EdgeD} {l : List (TagD × NodeD)} {e : EdgeD} {n : NodeD}
end
section
variable {E : List EdgeD} {e f : EdgeD}
end
end Go.Vm
end
section
namespace Go.Vm
def pick {β : Type} (p : NodeD → Bool) (f : TagD × NodeD → β) (l : List (TagD × NodeD)) (seen : List Nat) : List β := seen.filterMap fun i => (l[i]?).bind fun q => if p q.2 = true then some (f q) else none
def Seen (n : Nat) (seen : List Nat) : Prop := seen.Nodup ∧ ∀ i ∈ seen, i < n
theorem Seen.next {n i : Nat} {seen : List Nat} (h : Seen n seen) (hi : i < n) (hn : i ∉ seen) : Seen n (seen ++ [i]) := by
  refine ⟨List.nodup_append.2 ⟨h.1, by simp, ?_⟩, fun j hj => ?_⟩
  · intro a ha b hb e
    rw [List.mem_singleton] at hb
    subst hb e; exact hn ha
  · rcases List.mem_append.1 hj with hj | hj
    · exact h.2 j hj
    · rw [List.mem_singleton.1 hj]; exact hi
theorem Seen.all {n : Nat} {seen : List Nat} (h : Seen n seen) (ha : ∀ i, i < n → i ∈ seen) : seen.Perm (List.range n) := by
  refine (List.perm_ext_iff_of_nodup h.1 List.nodup_range).2 fun i => ?_
  rw [List.mem_range]
  exact ⟨h.2 i, ha i⟩
theorem Seen.len {n : Nat} {seen : List Nat} (h : Seen n seen) : seen.length ≤ n := by
  have hp : seen.Perm ((List.range n).filter fun i => decide (i ∈ seen)) := (List.perm_ext_iff_of_nodup h.1 (List.nodup_range.filter _)).2 fun i => by
    rw [List.mem_filter, List.mem_range, decide_eq_true_eq]
    exact ⟨fun hi => ⟨h.2 i hi, hi⟩, fun hi => hi.2⟩
  have := List.length_filter_le (fun i => decide (i ∈ seen)) (List.range n)
  rw [hp.length_eq]
  simpa using this
end Go.Vm
end
section
namespace Go.Vm
end Go.Vm
end
section
namespace Go.Vm
open Go.RowKit
def hdrop (id : Nat) (h : Hp) : Hp := fun u => dropG id (h u)
section
variable {P : Program} {N : Nat} {t : Tr} {h : Hp} {o : Oper}
end
section
variable {P : Program} {N : Nat} {env : Env} {t : Tr} {h : Hp} {o : Oper}
end
end Go.Vm
end
section
namespace Go.Vm
open Go.RowKit
section
variable {P : Program} {N : Nat} {env : Env} {t : Tr} {h : Hp} {o : Oper}
end
section
variable {P : Program} {t t' : TypeId} {x y : Operand} {k k' yk : IntKind} {a b n c : Int}
end
end Go.Vm
end
section
namespace Go.Vm
noncomputable def grd {α : Type} (p : Prop) (x : Option α) : Option α := open Classical in if p then x else none
theorem grd_of {α : Type} {p : Prop} {x : Option α} {r : α} (h : grd p x = some r) : p ∧ x = some r := by
  unfold grd at h
  split at h
  · exact ⟨by assumption, h⟩
  · cases h
theorem grd_yes {α : Type} {p : Prop} {x : Option α} (h : p) : grd p x = x := if_pos h
theorem pos_of {α : Type} {c : Prop} [Decidable c] {a b r : α} (h : (if c then a else b) = r) (hc : c) : a = r := by rwa [if_pos hc] at h
theorem neg_of {α : Type} {c : Prop} [Decidable c] {a b r : α} (h : (if c then a else b) = r) (hc : ¬ c) : b = r := by rwa [if_neg hc] at h
theorem nf {b : Bool} (h : b = false) : ¬ b = true := by rw [h]; exact Bool.false_ne_true
theorem grdG {α : Type} {p : Prop} {x : Option α} {r : α} {G : Prop} (h : grd p x = some r) (g : p → x = some r → G) : G := g (grd_of h).1 (grd_of h).2
def schC (E : List EdgeD) (id : TagD) : Int := if (cameOf E id).1 = 2 then 0 else if (cameOf E id).1 = 3 then 16 else 13
end Go.Vm
end
section
namespace Go.Vm
theorem ba_ext {a b : ByteArray} (h : a.data.toList = b.data.toList) : a = b := by
  obtain ⟨⟨a⟩⟩ := a
  obtain ⟨⟨b⟩⟩ := b
  simp only at h
  rw [h]
abbrev mkB (l : List UInt8) : ByteArray := ⟨l.toArray⟩
theorem mkB_data (l : List UInt8) : (mkB l).data.toList = l := by simp
theorem mkB_of (s : ByteArray) : mkB s.data.toList = s := ba_ext (mkB_data _)
theorem ba_app (a b : ByteArray) : (a ++ b).data.toList = a.data.toList ++ b.data.toList := by rw [ByteArray.data_append]; simp
theorem ba_len (a : ByteArray) : a.data.toList.length = a.size := rfl
section
variable {c : UInt8}
def splitC (c : UInt8) : List UInt8 → List (List UInt8)
  | [] => [[]]
  | b :: l => if b = c then [] :: splitC c l else match splitC c l with
    | [] => [[b]]
    | w :: ws => (b :: w) :: ws
theorem splitC_ne (l : List UInt8) : splitC c l ≠ [] := by
  cases l with
  | nil => simp [splitC]
  | cons b l => unfold splitC; split; simp; split <;> simp
theorem splitC_free : ∀ {w : List UInt8}, c ∉ w → splitC c w = [w]
  | [], _ => rfl
  | b :: w, h => by
    have hb : ¬ b = c := fun e => h (by rw [e]; exact List.mem_cons_self ..)
    have ih := splitC_free (w := w) fun k => h (List.mem_cons_of_mem _ k)
    unfold splitC
    rw [if_neg hb, ih]
theorem splitC_app : ∀ {w : List UInt8} (l : List UInt8), c ∉ w → splitC c (w ++ c :: l) = w :: splitC c l
  | [], l, _ => by simp [splitC]
  | b :: w, l, h => by
    have hb : ¬ b = c := fun e => h (by rw [e]; exact List.mem_cons_self ..)
    have ih := splitC_app (w := w) l fun k => h (List.mem_cons_of_mem _ k)
    rw [List.cons_append, splitC, if_neg hb, ih]
theorem idx_cases : ∀ l : List UInt8, (Lib.index l [c] = -1 ∧ c ∉ l) ∨ ∃ a r, l = a ++ c :: r ∧ c ∉ a ∧ Lib.index l [c] = (a.length : Int)
  | [] => .inl ⟨rfl, by simp⟩
  | b :: l => by
    by_cases e : c = b
    · subst e
      exact .inr ⟨[], l, rfl, by simp, by unfold Lib.index; rw [if_pos (by simp)]; rfl⟩
    · have hp : ¬ [c].isPrefixOf (b :: l) = true := by simp [List.isPrefixOf, e]
      rcases idx_cases l with ⟨h1, h2⟩ | ⟨a, r, rfl, h2, h3⟩
      · refine .inl ⟨by unfold Lib.index; rw [if_neg hp, h1]; rfl, fun k => ?_⟩
        rcases List.mem_cons.1 k with k | k
        · exact e k
        · exact h2 k
      · refine .inr ⟨b :: a, r, rfl, fun k => ?_, ?_⟩
        · rcases List.mem_cons.1 k with k | k
          · exact e k
          · exact h2 k
        · unfold Lib.index
          rw [if_neg hp, h3, if_neg (by simp), List.length_cons]; omega
theorem splitK_C : ∀ (k : Nat) (l : List UInt8), l.count c = k → Lib.splitK [c] 0 k l = splitC c l
  | 0, l, h => by
    rw [splitC_free (List.count_eq_zero.1 h)]; rfl
  | k + 1, l, h => by
    rcases idx_cases (c := c) l with ⟨h1, h2⟩ | ⟨a, r, rfl, h2, h3⟩
    · rw [List.count_eq_zero.2 h2] at h; cases h
    · rw [splitC_app _ h2]
      unfold Lib.splitK
      rw [h3, if_neg (by simp)]
      rw [List.count_append, List.count_cons_self, List.count_eq_zero.2 h2] at h
      have hd : (a ++ c :: r).drop (((a.length : Int)).toNat + [c].length) = r := by
        rw [Int.toNat_natCast, List.length_singleton, ← List.drop_drop, List.drop_left]; rfl
      rw [hd, splitK_C k r (by omega), Int.toNat_natCast, Nat.add_zero, List.take_left]
def splitW (c : UInt8) (s : ByteArray) : List ByteArray := (splitC c s.data.toList).map mkB
theorem splitW_lib (s : ByteArray) : Lib.splitB ⟨#[c]⟩ 0 (Lib.countB s ⟨#[c]⟩) s = splitW c s := by
  have h := Lib.splitB_data ⟨#[c]⟩ 0 (Lib.countB s ⟨#[c]⟩) s
  have hc : Lib.countB s ⟨#[c]⟩ = s.data.toList.count c := Lib.count_one c _
  rw [show (⟨#[c]⟩ : ByteArray).data.toList = [c] from rfl, hc, splitK_C _ _ rfl] at h
  rw [← hc] at h
  unfold splitW
  rw [← h, List.map_map]
  conv => lhs; rw [← List.map_id (Lib.splitB _ _ _ _)]
  exact List.map_congr_left fun a _ => (mkB_of a).symm
theorem splitW_ne (s : ByteArray) : splitW c s ≠ [] := by unfold splitW; simp [splitC_ne]
def cutC (c : UInt8) (l : List UInt8) : List UInt8 × List UInt8 × Bool := if c ∈ l then (l.takeWhile (fun b => !decide (b = c)), (l.dropWhile (fun b => !decide (b = c))).drop 1, true) else (l, [], false)
theorem takeW_app : ∀ {a : List UInt8} (r : List UInt8), c ∉ a → (a ++ c :: r).takeWhile (fun b => !decide (b = c)) = a ∧ (a ++ c :: r).dropWhile (fun b => !decide (b = c)) = c :: r
  | [], r, _ => by simp
  | b :: a, r, h => by
    have hb : ¬ b = c := fun e => h (by rw [e]; exact List.mem_cons_self ..)
    have ih := takeW_app (a := a) r fun k => h (List.mem_cons_of_mem _ k)
    simp [hb, ih.1, ih.2]
theorem cutC_hit {a r : List UInt8} (h : c ∉ a) : cutC c (a ++ c :: r) = (a, r, true) := by
  unfold cutC
  rw [if_pos (by simp), (takeW_app r h).1, (takeW_app r h).2]; rfl
theorem cutC_miss {l : List UInt8} (h : c ∉ l) : cutC c l = (l, [], false) := by unfold cutC; rw [if_neg h]
theorem mem_split {l : List UInt8} (h : c ∈ l) : ∃ a r, l = a ++ c :: r ∧ c ∉ a := by
  rcases idx_cases (c := c) l with ⟨_, h2⟩ | ⟨a, r, h1, h2, _⟩
  · exact absurd h h2
  · exact ⟨a, r, h1, h2⟩
end
-- names
theorem nameB_bytes {s : ByteArray} (h : nameB s = true) : ∀ c ∈ s.data.toList, (97 ≤ c.toNat ∧ c.toNat ≤ 122) ∨ (48 ≤ c.toNat ∧ c.toNat ≤ 57) := by
  intro c hc
  unfold nameB at h
  simp only [Bool.and_eq_true, List.all_eq_true] at h
  obtain ⟨i, hi, rfl⟩ := List.getElem_of_mem hc
  have := h.2 i (List.mem_range.2 hi)
  have he : s[i]? = some s.data.toList[i] := by
    rw [getElem?_pos s i hi]
    rfl
  rw [he] at this
  simp only [charB, Bool.or_eq_true, Bool.and_eq_true, decide_eq_true_eq] at this
  omega
theorem nameB_free {s : ByteArray} (h : nameB s = true) {c : UInt8} (hc : c.toNat < 48 ∨ (57 < c.toNat ∧ c.toNat < 97)) : c ∉ s.data.toList := fun k => by have := nameB_bytes h c k; omega
end Go.Vm
end
section
namespace Punnet.Name
set_option maxRecDepth 10000
def plainB (c : UInt8) : Bool := decide (32 ≤ c.toNat) && decide (c.toNat ≤ 126) && decide (c.toNat ≠ 34) && decide (c.toNat ≠ 92)
def hexD (c : UInt8) : Option Nat := if 48 ≤ c.toNat ∧ c.toNat ≤ 57 then some (c.toNat - 48) else if 97 ≤ c.toNat ∧ c.toNat ≤ 102 then some (c.toNat - 87) else none
def hexOf (n : Nat) : UInt8 := UInt8.ofNat (if n < 10 then 48 + n else 87 + n)
def code2 (a b : UInt8) : Option UInt8 := match hexD a, hexD b with
  | some h, some l => if plainB (UInt8.ofNat (16 * h + l)) then none else some (UInt8.ofNat (16 * h + l))
  | _, _ => none
def coded : List UInt8 → Option (UInt8 × Nat)
  | a :: b :: _ => (code2 a b).map fun x => (x, 2)
  | _ => none
def sign : List UInt8 → Option (UInt8 × Nat)
  | [] => none
  | c :: r => if c.toNat = 92 then coded r else if plainB c then some (c, 0) else none
def bodyAt (l : List UInt8) (k : Nat) : Option (List UInt8 × Nat) :=
  if h : k < l.length then
    if l[k].toNat = 34 then some ([], k + 1)
    else match sign (l.drop k) with
      | none => none
      | some (c, n) => (bodyAt l (k + n + 1)).map fun p => (c :: p.1, p.2)
  else none
  termination_by l.length - k
def quotedAt (l : List UInt8) (k : Nat) : Option (List UInt8 × Nat) :=
  if h : k < l.length then (if l[k].toNat = 34 then bodyAt l (k + 1) else none) else none
theorem bodyAt_out {l : List UInt8} {k : Nat} (h : ¬ k < l.length) : bodyAt l k = none := by rw [bodyAt, dif_neg h]
theorem bodyAt_end {l : List UInt8} {k : Nat} (h : k < l.length) (hq : l[k].toNat = 34) : bodyAt l k = some ([], k + 1) := by rw [bodyAt, dif_pos h, if_pos hq]
theorem bodyAt_none {l : List UInt8} {k : Nat} (h : k < l.length) (hq : l[k].toNat ≠ 34) (hs : sign (l.drop k) = none) : bodyAt l k = none := by
  rw [bodyAt, dif_pos h, if_neg hq, hs]
theorem bodyAt_some {l : List UInt8} {k n : Nat} {c : UInt8} (h : k < l.length) (hq : l[k].toNat ≠ 34) (hs : sign (l.drop k) = some (c, n)) : bodyAt l k = (bodyAt l (k + n + 1)).map fun p => (c :: p.1, p.2) := by
  rw [bodyAt, dif_pos h, if_neg hq, hs]
theorem bodyAt_le {l : List UInt8} : ∀ {k e : Nat} {t : List UInt8}, bodyAt l k = some (t, e) → k < e ∧ e ≤ l.length := by
  intro k
  induction hn : l.length - k using Nat.strongRecOn generalizing k with
  | _ n ih =>
    intro e t h
    by_cases hk : k < l.length
    · by_cases hq : l[k].toNat = 34
      · rw [bodyAt_end hk hq] at h
        injection h with h
        injection h with h1 h2
        omega
      · cases hs : sign (l.drop k) with
        | none => rw [bodyAt_none hk hq hs] at h; cases h
        | some p =>
          obtain ⟨c, m⟩ := p
          rw [bodyAt_some hk hq hs] at h
          cases hb : bodyAt l (k + m + 1) with
          | none => rw [hb] at h; cases h
          | some p =>
            obtain ⟨t', e'⟩ := p
            rw [hb] at h
            injection h with h
            injection h with h1 h2
            have := ih (l.length - (k + m + 1)) (by omega) rfl hb
            omega
    · rw [bodyAt_out hk] at h; cases h
theorem quotedAt_le {l : List UInt8} {k e : Nat} {t : List UInt8} (h : quotedAt l k = some (t, e)) : k < e ∧ e ≤ l.length := by
  unfold quotedAt at h
  split at h
  · split at h
    · have := bodyAt_le h; omega
    · cases h
  · cases h
end Punnet.Name
end
section
namespace Go.Proofs.YtdfbohaohjaloaaGreatDoor
set_option maxRecDepth 10000
open Go.RowKit Punnet.Name
end Go.Proofs.YtdfbohaohjaloaaGreatDoor
end
section
namespace Go.Proofs.YtdfbohaohjaloaaGreatDoor
set_option maxRecDepth 10000
open Go.RowKit Punnet.Name
def cellsOf (l : List UInt8) : List Value := l.map fun b => .int .u8 (b.toNat : Int)
end Go.Proofs.YtdfbohaohjaloaaGreatDoor
end
section
namespace Go.Proofs.YtdfbohaohjaloaaGreatDoor
set_option maxRecDepth 10000
open Go.RowKit Punnet.Name
def blankAt (l : List UInt8) (k : Nat) : Nat := k + ((l.drop k).takeWhile fun b => decide (b.toNat ≠ 32)).length
def wordEndOf (l : List UInt8) (k : Nat) : Nat := match quotedAt l k with
 | some (_, e) => if e = l.length ∨ l[e]? = some 32 then e else blankAt l k
 | none => blankAt l k
end Go.Proofs.YtdfbohaohjaloaaGreatDoor
end
section
namespace Go.Proofs.YtdfbohaohjaloaaGreatDoor
set_option maxRecDepth 10000
open Go.RowKit Punnet.Name
theorem takeWhile_le (p : UInt8 → Bool) (l : List UInt8) : (l.takeWhile p).length ≤ l.length := by
  induction l with
  | nil => simp
  | cons b r ih => rw [List.takeWhile_cons]; split <;> simp <;> omega
theorem blankAt_bound (l : List UInt8) {k : Nat} (hk : k ≤ l.length) : k ≤ blankAt l k ∧ blankAt l k ≤ l.length := by
  unfold blankAt
  have h := takeWhile_le (fun b => decide (b.toNat ≠ 32)) (l.drop k)
  rw [List.length_drop] at h
  omega
theorem wordEnd_bound (l : List UInt8) {k : Nat} (hk : k ≤ l.length) : k ≤ wordEndOf l k ∧ wordEndOf l k ≤ l.length := by
  have hb := blankAt_bound l hk
  unfold wordEndOf
  cases hq : quotedAt l k with
  | none => exact hb
  | some p =>
    obtain ⟨t, e⟩ := p
    have := quotedAt_le hq
    simp only
    split
    · omega
    · exact hb
def splitB (s : ByteArray) (k : Nat) : List ByteArray :=
  if h : k ≤ s.size ∧ wordEndOf s.data.toList k < s.size then
    s.extract k (wordEndOf s.data.toList k) :: splitB s (wordEndOf s.data.toList k + 1)
  else [s.extract k (wordEndOf s.data.toList k)]
  termination_by s.size - k
  decreasing_by
    have h1 : s.data.toList.length = s.size := by simp
    have := wordEnd_bound s.data.toList (k := k) (by omega)
    omega
theorem splitB_last {s : ByteArray} {k : Nat} (h : ¬ wordEndOf s.data.toList k < s.size) : splitB s k = [s.extract k (wordEndOf s.data.toList k)] := by rw [splitB, dif_neg (fun x => h x.2)]
theorem splitB_more {s : ByteArray} {k : Nat} (hk : k ≤ s.size) (h : wordEndOf s.data.toList k < s.size) : splitB s k = s.extract k (wordEndOf s.data.toList k) :: splitB s (wordEndOf s.data.toList k + 1) := by rw [splitB, dif_pos ⟨hk, h⟩]
def strsOf (l : List ByteArray) : List Value := l.map Value.string
theorem strsOf_snoc (l : List ByteArray) (b : ByteArray) : strsOf (l ++ [b]) = strsOf l ++ [.string b] := by simp [strsOf]
def Words (w : World) (l : List ByteArray) (e : Ending) (w' : World) : Prop :=
  ∃ v, e = .returned v ∧ w'.ownsRow w.heap.size 9 1 v l.length (strsOf l) ∧ Below w.heap.size w w'
def SplitRel (s : ByteArray) (w : World) (k : Nat) (v : Value) (W : List ByteArray) (w' : World) : Prop :=
  w'.ownsRow w.heap.size 9 1 v W.length (strsOf W) ∧ Below w.heap.size w w' ∧ splitB s 0 = W ++ splitB s k
theorem SplitRel.more {s : ByteArray} {w : World} {k : Nat} {v v' : Value} {W : List ByteArray} {w1 w2 w3 : World} (h : SplitRel s w k v W w1) (hk : k ≤ s.size) (he : wordEndOf s.data.toList k < s.size) (hb : Below w1.heap.size w1 w2)
    (ho : w3.ownsRow w.heap.size 9 1 v' (W.length + 1) (strsOf W ++ [.string (s.extract k (wordEndOf s.data.toList k))])) (hb2 : Below w.heap.size w2 w3) : SplitRel s w (wordEndOf s.data.toList k + 1) v' (W ++ [s.extract k (wordEndOf s.data.toList k)]) w3 := by
  obtain ⟨h1, h2, h3⟩ := h
  refine ⟨by rw [strsOf_snoc, List.length_append, List.length_singleton]; exact ho, (h2.trans (hb.mono h2.size)).trans hb2, ?_⟩
  rw [h3, splitB_more hk he]; simp
theorem SplitRel.done {s : ByteArray} {w : World} {k : Nat} {v v' : Value} {W : List ByteArray} {w1 w2 w3 : World} (h : SplitRel s w k v W w1) (he : ¬ wordEndOf s.data.toList k < s.size) (hb : Below w1.heap.size w1 w2)
    (ho : w3.ownsRow w.heap.size 9 1 v' (W.length + 1) (strsOf W ++ [.string (s.extract k (wordEndOf s.data.toList k))])) (hb2 : Below w.heap.size w2 w3) : Words w (splitB s 0) (.returned v') w3 := by
  obtain ⟨h1, h2, h3⟩ := h
  rw [h3, splitB_last he]
  exact ⟨v', rfl, by rw [strsOf_snoc, List.length_append, List.length_singleton]; exact ho, (h2.trans (hb.mono h2.size)).trans hb2⟩
end Go.Proofs.YtdfbohaohjaloaaGreatDoor
end
section
namespace Punnet.Name
set_option maxRecDepth 10000
def signOf (c : UInt8) : List UInt8 := if plainB c then [c] else [92, hexOf (c.toNat / 16), hexOf (c.toNat % 16)]
end Punnet.Name
end
section
namespace Go.Proofs.YtdfbohaohjaloaaGreatDoor
set_option maxRecDepth 10000
open Go.RowKit Punnet.Name
end Go.Proofs.YtdfbohaohjaloaaGreatDoor
end
section
namespace Go.Proofs.YtdfbohaohjaloaaGreatDoor
set_option maxRecDepth 10000
open Go.RowKit Punnet.Name
end Go.Proofs.YtdfbohaohjaloaaGreatDoor
end
section
namespace Go.Proofs.YtdfbohaohjaloaaGreatDoor
set_option maxRecDepth 10000
open Go.RowKit Punnet.Name
end Go.Proofs.YtdfbohaohjaloaaGreatDoor
end
section
namespace Go.Proofs.YtdfbohaohjaloaaGreatDoor
set_option maxRecDepth 10000
open Go.RowKit Punnet.Name
end Go.Proofs.YtdfbohaohjaloaaGreatDoor
end
section
namespace Go.Proofs.YtdfbohaohjaloaaGreatDoor
set_option maxRecDepth 10000
open Go.RowKit Punnet.Name
def okAt (c k : Nat) : Bool := decide (97 ≤ c ∧ c ≤ 122) || (decide (48 ≤ c ∧ c ≤ 57) && decide (k ≠ 0))
def OkTo (s : ByteArray) (k : Nat) : Prop := ∀ j (h : j < s.size), j < k → okAt s[j].toNat j = true
def nameOk (s : ByteArray) : Bool := decide (1 ≤ s.size ∧ s.size ≤ 12) && (List.range s.size).all fun j => okAt (s.data.toList[j]?.getD 0).toNat j
theorem at_data {s : ByteArray} {j : Nat} (h : j < s.size) : s.data.toList[j]?.getD 0 = s[j] := by
  rw [List.getElem?_eq_getElem (by simpa using h), get_list s j h]; rfl
theorem ok_all {s : ByteArray} (h1 : 1 ≤ s.size) (h2 : s.size ≤ 12) (h : OkTo s s.size) : nameOk s = true := by
  unfold nameOk
  rw [Bool.and_eq_true, decide_eq_true_iff, List.all_eq_true]
  refine ⟨⟨h1, h2⟩, fun j hj => ?_⟩
  have hj := List.mem_range.1 hj
  rw [at_data hj]; exact h j hj hj
theorem ok_not {s : ByteArray} {j : Nat} (hj : j < s.size) (h : okAt s[j].toNat j = false) : nameOk s = false := by
  unfold nameOk
  rw [Bool.and_eq_false_iff]
  refine .inr (Bool.eq_false_iff.2 fun ha => ?_)
  have := List.all_eq_true.1 ha j (List.mem_range.2 hj)
  rw [at_data hj, h] at this; cases this
theorem ok_next {s : ByteArray} {k : Nat} (ho : OkTo s k) (hk : k < s.size) (h : okAt s[k].toNat k = true) : OkTo s (k + 1) := by
  intro j hj hjk
  by_cases e : j = k
  · subst e; exact h
  · exact ho j hj (by omega)
set_option maxHeartbeats 2000000 in
theorem name_any (s : ByteArray) (w : World) (hs : s.size ≤ 16777216) : Calls Tryz.prog 140 #[.string s] w fun e w' => e = .returned (.bool (nameOk s)) ∧ Below w.heap.size w w' := by
  have hml : s.size ≤ 9223372036854775807 := by omega
  by_cases h1 : s.size < 1
  · have h1' : (s.size : Int) < 1 := by omega
    have HE := Lib.hid (show nameOk s = false by unfold nameOk; simp; omega)
    go_enter Tryz.func140, Tryz.ntmps140
    go_wp2_with fail
    go_ret
    exact ⟨ret_bool HE.out.symm, Below.refl _ _⟩
  by_cases h2 : 12 < s.size
  · have h1' : ¬ (s.size : Int) < 1 := by omega
    have h2' : (12 : Int) < s.size := by omega
    have HE := Lib.hid (show nameOk s = false by unfold nameOk; simp; omega)
    go_enter Tryz.func140, Tryz.ntmps140
    go_wp2_with fail
    go_ret
    exact ⟨ret_bool HE.out.symm, Below.refl _ _⟩
  have h1' : ¬ (s.size : Int) < 1 := by omega
  have h2' : ¬ (12 : Int) < s.size := by omega
  go_enter Tryz.func140, Tryz.ntmps140
  go_wp2_with fail
  go_loop [16] (fun i => ∃ k : Nat, k ≤ s.size ∧ i = .int .i64 (k : Int) ∧ OkTo s k) (fun i => s.size - (intOf i).toNat)
  case atStart => exact ⟨0, by omega, rfl, fun j hj hh => absurd hh (by omega)⟩
  case round =>
    obtain ⟨k, hk, rfl, ho⟩ := hrel
    have HO := Lib.hid ho
    clear ho
    by_cases hlt : k < s.size
    · have hlt' : (k : Int) < s.size := by omega
      have hcl : (97 ≤ s[k].toNat ∧ s[k].toNat ≤ 122) ∨ 122 < s[k].toNat ∨ (57 < s[k].toNat ∧ s[k].toNat < 97) ∨ (48 ≤ s[k].toNat ∧ s[k].toNat ≤ 57 ∧ k = 0) ∨ (48 ≤ s[k].toNat ∧ s[k].toNat ≤ 57 ∧ k ≠ 0) ∨ s[k].toNat < 48 := by omega
      rcases hcl with hcl | hcl | hcl | hcl | hcl | hcl
      · have hh0 : 97 ≤ (s[k].toNat : Int) := by omega
        have hh1 : (s[k].toNat : Int) ≤ 122 := by omega
        have hh2 : 48 ≤ (s[k].toNat : Int) := by omega
        have hh3 : ¬ (s[k].toNat : Int) ≤ 57 := by omega
        have HO2 := Lib.hid (ok_next HO.out hlt (by simp only [okAt]; simp; omega))
        clear hcl
        go_wp2_with fail
        go_round
        case rel => exact ⟨k + 1, by omega, by go_num, HO2.out⟩
        case measure => simp [intOf]; omega
      · have hh0 : 97 ≤ (s[k].toNat : Int) := by omega
        have hh1 : ¬ (s[k].toNat : Int) ≤ 122 := by omega
        have hh2 : 48 ≤ (s[k].toNat : Int) := by omega
        have hh3 : ¬ (s[k].toNat : Int) ≤ 57 := by omega
        have HE := Lib.hid (show nameOk s = false from ok_not hlt (by simp only [okAt]; simp; omega))
        clear hcl
        go_wp2_with fail
        go_ret
        exact ⟨ret_bool HE.out.symm, Below.refl _ _⟩
      · have hh0 : ¬ 97 ≤ (s[k].toNat : Int) := by omega
        have hh1 : 48 ≤ (s[k].toNat : Int) := by omega
        have hh2 : ¬ (s[k].toNat : Int) ≤ 57 := by omega
        have HE := Lib.hid (show nameOk s = false from ok_not hlt (by simp only [okAt]; simp; omega))
        clear hcl
        go_wp2_with fail
        go_ret
        exact ⟨ret_bool HE.out.symm, Below.refl _ _⟩
      · have hh0 : ¬ 97 ≤ (s[k].toNat : Int) := by omega
        have hh1 : 48 ≤ (s[k].toNat : Int) := by omega
        have hh2 : (s[k].toNat : Int) ≤ 57 := by omega
        have hh3 : ((k : Int) == 0) = true := beq_iff_eq.2 (by omega)
        have HE := Lib.hid (show nameOk s = false from ok_not hlt (by simp only [okAt]; simp; omega))
        clear hcl
        go_wp2_with fail
        go_ret
        exact ⟨ret_bool HE.out.symm, Below.refl _ _⟩
      · have hh0 : ¬ 97 ≤ (s[k].toNat : Int) := by omega
        have hh1 : 48 ≤ (s[k].toNat : Int) := by omega
        have hh2 : (s[k].toNat : Int) ≤ 57 := by omega
        have hh3 : ((k : Int) == 0) = false := beq_eq_false_iff_ne.2 (by omega)
        have HO2 := Lib.hid (ok_next HO.out hlt (by simp only [okAt]; simp; omega))
        clear hcl
        go_wp2_with fail
        go_round
        case rel => exact ⟨k + 1, by omega, by go_num, HO2.out⟩
        case measure => simp [intOf]; omega
      · have hh0 : ¬ 97 ≤ (s[k].toNat : Int) := by omega
        have hh1 : ¬ 48 ≤ (s[k].toNat : Int) := by omega
        have HE := Lib.hid (show nameOk s = false from ok_not hlt (by simp only [okAt]; simp; omega))
        clear hcl
        go_wp2_with fail
        go_ret
        exact ⟨ret_bool HE.out.symm, Below.refl _ _⟩
    · have hlt' : ¬ (k : Int) < s.size := by omega
      have HE := Lib.hid (show nameOk s = true from ok_all (by omega) (by omega) (show OkTo s s.size by have := HO.out; rwa [show k = s.size by omega] at this))
      go_wp2_with fail
      go_ret
      exact ⟨ret_bool HE.out.symm, Below.refl _ _⟩
end Go.Proofs.YtdfbohaohjaloaaGreatDoor
end
section
namespace Go.Proofs.YtdfbohaohjaloaaGreatDoor
set_option maxRecDepth 10000
open Go.RowKit
end Go.Proofs.YtdfbohaohjaloaaGreatDoor
end
section
namespace Go.Proofs.YtdfbohaohjaloaaGreatDoor
set_option maxRecDepth 10000
open Go.RowKit Punnet.Name
def quoteL (l : List UInt8) : List UInt8 := 34 :: (l.flatMap signOf ++ [34])
end Go.Proofs.YtdfbohaohjaloaaGreatDoor
end
section
namespace Go.Proofs.YtdfbohaohjaloaaGreatDoor
set_option maxRecDepth 10000
open Go.RowKit Punnet.Name
end Go.Proofs.YtdfbohaohjaloaaGreatDoor
end
section
namespace Go.Proofs.YtdfbohaohjaloaaGreatDoor
set_option maxRecDepth 10000
open Go.RowKit Punnet.Name
end Go.Proofs.YtdfbohaohjaloaaGreatDoor
end
section
namespace Go.Proofs.YtdfbohaohjaloaaGreatDoor
set_option maxRecDepth 10000
open Go.RowKit Punnet.Name
end Go.Proofs.YtdfbohaohjaloaaGreatDoor
end
section
namespace Punnet.Num
set_option maxRecDepth 10000
def digs (m : Nat) : List UInt8 := if m < 10 then [UInt8.ofNat (48 + m)] else digs (m / 10) ++ [UInt8.ofNat (48 + m % 10)]
  termination_by m
  decreasing_by omega
theorem digs_small {m : Nat} (h : m < 10) : digs m = [UInt8.ofNat (48 + m)] := by rw [digs, if_pos h]
theorem digs_step {m : Nat} (h : ¬ m < 10) : digs m = digs (m / 10) ++ [UInt8.ofNat (48 + m % 10)] := by rw [digs, if_neg h]
theorem digs_ne (m : Nat) : digs m ≠ [] := by rw [digs]; split <;> simp
def print (n : Int) : List UInt8 := if n < 0 then 45 :: digs n.natAbs else digs n.natAbs
def printB (n : Int) : ByteArray := ⟨(print n).toArray⟩
theorem printB_data (n : Int) : (printB n).data.toList = print n := by simp [printB]
theorem printB_size (n : Int) : (printB n).size = (print n).length := by
  rw [← printB_data]; simp
def dig (b : UInt8) : Bool := decide (48 ≤ b.toNat ∧ b.toNat ≤ 57)
def neg : List UInt8 → Nat
  | b :: _ => if b.toNat = 45 then 1 else 0
  | [] => 0
theorem neg_le (l : List UInt8) : neg l ≤ l.length := by
  cases l with
  | nil => simp [neg]
  | cons b r => simp only [neg, List.length_cons]; split <;> omega
theorem neg_le_one (l : List UInt8) : neg l ≤ 1 := by
  cases l with
  | nil => simp [neg]
  | cons b r => simp only [neg]; split <;> omega
def pieceLen (l : List UInt8) : Nat :=
  if ((l.drop (neg l)).takeWhile dig).length = 0 then 0 else neg l + ((l.drop (neg l)).takeWhile dig).length
def PieceInv (l : List UInt8) (k D E : Nat) : Prop :=
  k ≤ l.length ∧ (k = 0 → D = 0 ∧ E = 0) ∧ (0 < k → D + neg l = k ∧ E = if D = 0 then 0 else k) ∧ ∀ j (h : j < l.length), neg l ≤ j → j < k → dig l[j] = true
theorem PieceInv.start (l : List UInt8) : PieceInv l 0 0 0 := ⟨Nat.zero_le _, fun _ => ⟨rfl, rfl⟩, fun h => absurd h (by omega), fun _ _ _ h => absurd h (by omega)⟩
theorem PieceInv.skip {l : List UInt8} {D E : Nat} (h : PieceInv l 0 D E) (hl : 0 < l.length) (hb : l[0].toNat = 45) : PieceInv l 1 D E := by
  obtain ⟨_, h0, _, _⟩ := h
  obtain ⟨rfl, rfl⟩ := h0 rfl
  have hn : neg l = 1 := by
    cases l with
    | nil => simp at hl
    | cons b r => simpa [neg] using hb
  exact ⟨hl, fun h => absurd h (by omega), fun _ => ⟨by omega, by simp⟩, fun j _ h1 h2 => absurd h2 (by omega)⟩
theorem neg_of_dig {l : List UInt8} (hl : 0 < l.length) (hb : l[0].toNat ≠ 45) : neg l = 0 := by
  cases l with
  | nil => rfl
  | cons b r => simp only [neg]; exact if_neg (by simpa using hb)
theorem neg_of_minus {l : List UInt8} (hl : 0 < l.length) (hb : l[0].toNat = 45) : neg l = 1 := by
  cases l with
  | nil => simp at hl
  | cons b r => simp only [neg]; exact if_pos (by simpa using hb)
theorem PieceInv.more {l : List UInt8} {k D E : Nat} (h : PieceInv l k D E) (hl : k < l.length) (hb : 48 ≤ l[k].toNat) (hb' : l[k].toNat ≤ 57) : PieceInv l (k + 1) (D + 1) (k + 1) := by
  obtain ⟨_, h0, h1, h2⟩ := h
  have hd : D + neg l = k := by
    rcases Nat.eq_zero_or_pos k with rfl | hp
    · rw [neg_of_dig hl (by omega)]; exact (h0 rfl).1
    · exact (h1 hp).1
  refine ⟨hl, fun h => absurd h (by omega), fun _ => ⟨by omega, by simp⟩, fun j hj hn hjk => ?_⟩
  by_cases e : j = k
  · subst e; simp [dig, hb, hb']
  · exact h2 j hj hn (by omega)
theorem takeWhile_len {p : UInt8 → Bool} {l : List UInt8} {n : Nat} (hn : n ≤ l.length) (ha : ∀ j (h : j < l.length), j < n → p l[j] = true) (he : ∀ h : n < l.length, p l[n] = false) : (l.takeWhile p).length = n := by
  induction l generalizing n with
  | nil => simp at hn; simp [hn]
  | cons b r ih =>
    cases n with
    | zero =>
      have hb : p b = false := he (by simp)
      rw [List.takeWhile_cons, if_neg (by simp [hb])]; rfl
    | succ n =>
      have hb : p b = true := ha 0 (by simp) (by omega)
      rw [List.takeWhile_cons, if_pos hb, List.length_cons, ih (by simpa using hn) (fun j h hj => ha (j + 1) (by simpa using h) (by omega)) (fun h => he (by simpa using h))]
theorem PieceInv.stop {l : List UInt8} {k D E : Nat} (h : PieceInv l k D E) (he : ∀ h : k < l.length, ¬ (48 ≤ l[k].toNat ∧ l[k].toNat ≤ 57) ∧ ¬ (k = 0 ∧ l[k].toNat = 45)) : pieceLen l = if D = 0 then 0 else E := by
  obtain ⟨hk, h0, h1, h2⟩ := h
  have hd : D + neg l = k := by
    rcases Nat.eq_zero_or_pos k with rfl | hp
    · have hn : neg l = 0 := by
        cases l with
        | nil => rfl
        | cons b r => exact neg_of_dig (by simp) (fun e => (he (by simp)).2 ⟨rfl, e⟩)
      rw [hn]; exact (h0 rfl).1
    · exact (h1 hp).1
  have hlen : ((l.drop (neg l)).takeWhile dig).length = D := by
    refine takeWhile_len (by rw [List.length_drop]; omega) (fun j h hj => ?_) (fun h => ?_)
    · rw [List.getElem_drop]; exact h2 _ _ (by omega) (by omega)
    · rw [List.getElem_drop]
      have hh : k < l.length := by rw [List.length_drop] at h; omega
      have := (he hh).1
      subst hd
      simp only [dig, decide_eq_false_iff_not]
      rw [show l[neg l + D]'(by omega) = l[D + neg l]'hh from by congr 1; omega]
      exact this
  rw [pieceLen, hlen]
  by_cases hD : D = 0
  · simp [hD]
  · rw [if_neg hD, if_neg hD, (h1 (by omega)).2, if_neg hD]; omega
theorem takeWhile_all {p : UInt8 → Bool} {l : List UInt8} (h : (l.takeWhile p).length = l.length) : ∀ j (hj : j < l.length), p l[j] = true := by
  induction l with
  | nil => intro j hj; simp at hj
  | cons b r ih =>
    intro j hj
    rw [List.takeWhile_cons] at h
    by_cases hb : p b = true
    · rw [if_pos hb] at h
      cases j with
      | zero => exact hb
      | succ j => exact ih (by simpa using h) j (by simpa using hj)
    · rw [if_neg hb] at h; simp at h
theorem takeWhile_len_le (p : UInt8 → Bool) (l : List UInt8) : (l.takeWhile p).length ≤ l.length := by
  induction l with
  | nil => simp
  | cons b r ih => rw [List.takeWhile_cons]; split <;> simp <;> omega
theorem piece_gt {l : List UInt8} (hp : pieceLen l = l.length) (hl : 0 < l.length) : neg l < l.length := by
  rw [pieceLen] at hp
  split at hp <;> omega
theorem piece_digs {l : List UInt8} (hp : pieceLen l = l.length) (hl : 0 < l.length) (k : Nat) (hk : k < l.length) (hn : neg l ≤ k) : dig l[k] = true := by
  have hw : ((l.drop (neg l)).takeWhile dig).length = (l.drop (neg l)).length := by
    rw [List.length_drop]
    rw [pieceLen] at hp
    split at hp <;> omega
  have := takeWhile_all hw (k - neg l) (by rw [List.length_drop]; omega)
  rw [List.getElem_drop] at this
  rw [← this]
  congr 2
  omega
def natOf (l : List UInt8) : Nat := l.foldl (fun a b => 10 * a + (b.toNat - 48)) 0
theorem natOf_snoc (l : List UInt8) (b : UInt8) : natOf (l ++ [b]) = 10 * natOf l + (b.toNat - 48) := by simp [natOf]
theorem natOf_take_succ {l : List UInt8} {k : Nat} (h : k < l.length) : natOf (l.take (k + 1)) = 10 * natOf (l.take k) + (l[k].toNat - 48) := by
  rw [List.take_succ_eq_append_getElem h, natOf_snoc]
theorem foldl_ge (l : List UInt8) : ∀ a : Nat, a ≤ l.foldl (fun a b => 10 * a + (b.toNat - 48)) a := by
  induction l with
  | nil => exact fun a => Nat.le_refl _
  | cons b r ih => exact fun a => Nat.le_trans (show a ≤ 10 * a + (b.toNat - 48) by omega) (ih _)
theorem natOf_take_le (l : List UInt8) (k : Nat) : natOf (l.take k) ≤ natOf l := by
  have h : natOf l = (l.drop k).foldl (fun a b => 10 * a + (b.toNat - 48)) (natOf (l.take k)) := by
    rw [natOf, natOf, ← List.foldl_append, List.take_append_drop]
  rw [h]
  exact foldl_ge _ _
def valueOf (l : List UInt8) : Int × Int :=
  if (l.drop (neg l)).head? = some 48 ∧ (neg l = 1 ∨ 1 < (l.drop (neg l)).length) then (0, 4)
  else if neg l = 1 then (if 9223372036854775808 < natOf (l.drop (neg l)) then (0, 3) else (-(natOf (l.drop (neg l)) : Int), 0))
  else (if 9223372036854775807 < natOf (l.drop (neg l)) then (0, 3) else ((natOf (l.drop (neg l)) : Int), 0))
def readOf (l : List UInt8) : Int × Int := if pieceLen l = 0 ∨ pieceLen l ≠ l.length then (0, 4) else valueOf l
theorem pieceLen_le (l : List UInt8) : pieceLen l ≤ l.length := by
  have h1 := takeWhile_len_le dig (l.drop (neg l))
  have h2 := neg_le l
  rw [List.length_drop] at h1
  rw [pieceLen]
  split <;> omega
end Punnet.Num
end
section
namespace Punnet.Num
set_option maxRecDepth 10000
open Go
theorem natOf_nil : natOf [] = 0 := rfl
theorem foldl_add (r : List UInt8) : ∀ a : Nat, r.foldl (fun a b => 10 * a + (b.toNat - 48)) a = a * 10 ^ r.length + natOf r := by
  induction r with
  | nil => intro a; simp [natOf]
  | cons b r ih =>
    intro a
    have e : natOf (b :: r) = (10 * 0 + (b.toNat - 48)) * 10 ^ r.length + natOf r := by rw [← ih]; rfl
    rw [List.foldl_cons, ih, e, List.length_cons, Nat.pow_succ]
    simp only [Nat.mul_zero, Nat.zero_add, Nat.add_mul]
    rw [Nat.mul_comm 10 a, Nat.mul_assoc, Nat.mul_comm 10 (10 ^ r.length)]
    omega
theorem natOf_cons (b : UInt8) (r : List UInt8) : natOf (b :: r) = (b.toNat - 48) * 10 ^ r.length + natOf r := by
  rw [natOf, List.foldl_cons, foldl_add]; simp
def Digits (l : List UInt8) : Prop := ∀ b ∈ l, 48 ≤ b.toNat ∧ b.toNat ≤ 57
theorem Digits.tail {b : UInt8} {r : List UInt8} (h : Digits (b :: r)) : Digits r := fun x hx => h x (List.mem_cons_of_mem _ hx)
theorem Digits.head {b : UInt8} {r : List UInt8} (h : Digits (b :: r)) : 48 ≤ b.toNat ∧ b.toNat ≤ 57 := h b (List.mem_cons_self)
theorem Digits.append {x y : List UInt8} (hx : Digits x) (hy : Digits y) : Digits (x ++ y) := fun b hb => (List.mem_append.1 hb).elim (hx b) (hy b)
theorem Digits.left {x y : List UInt8} (h : Digits (x ++ y)) : Digits x := fun b hb => h b (List.mem_append.2 (.inl hb))
theorem natOf_lt {l : List UInt8} (h : Digits l) : natOf l < 10 ^ l.length := by
  induction l with
  | nil => simp [natOf]
  | cons b r ih =>
    have h1 := ih h.tail
    have h2 := h.head
    rw [natOf_cons, List.length_cons, Nat.pow_succ]
    have : (b.toNat - 48) * 10 ^ r.length ≤ 9 * 10 ^ r.length := Nat.mul_le_mul_right _ (by omega)
    omega
theorem lex_nat : ∀ {x y : List UInt8}, x.length = y.length → Digits x → Digits y → Op.bytesLess x y = decide (natOf x < natOf y)
  | [], [], _, _, _ => by simp [Op.bytesLess]
  | [], _ :: _, h, _, _ => by simp at h
  | _ :: _, [], h, _, _ => by simp at h
  | a :: x, b :: y, h, hx, hy => by
    have hl : x.length = y.length := by simpa using h
    have ih := lex_nat hl hx.tail hy.tail
    have h1 := natOf_lt hx.tail
    have h2 := natOf_lt hy.tail
    have ha := hx.head
    have hb := hy.head
    rw [Op.bytesLess, ih, natOf_cons, natOf_cons, hl]
    rw [hl] at h1
    have hab : (a == b) = decide (a.toNat = b.toNat) := by
      by_cases e : a = b
      · subst e; simp
      · rw [beq_eq_false_iff_ne.2 e]; symm; rw [decide_eq_false_iff_not]; intro h; exact e (UInt8.toNat_inj.1 h)
    rw [hab]
    have hlt : (decide (a < b)) = decide (a.toNat < b.toNat) := by simp [UInt8.lt_iff_toNat_lt]
    rw [hlt]
    rcases Nat.lt_trichotomy a.toNat b.toNat with hc | hc | hc
    · have : (a.toNat - 48 + 1) * 10 ^ y.length ≤ (b.toNat - 48) * 10 ^ y.length := Nat.mul_le_mul_right _ (by omega)
      rw [Nat.add_mul] at this
      simp [hc]
      omega
    · have e : a.toNat - 48 = b.toNat - 48 := by omega
      simp [hc]
    · have : (b.toNat - 48 + 1) * 10 ^ y.length ≤ (a.toNat - 48) * 10 ^ y.length := Nat.mul_le_mul_right _ (by omega)
      rw [Nat.add_mul] at this
      have hn : ¬ a.toNat < b.toNat := by omega
      have hne : ¬ a.toNat = b.toNat := by omega
      simp [hn, hne]
      omega
theorem digit_toNat (d : Nat) (h : d < 10) : (UInt8.ofNat (48 + d)).toNat = 48 + d := by
  rw [UInt8.toNat_ofNat']; omega
theorem digs_digits (m : Nat) : Digits (digs m) := by
  induction m using Nat.strongRecOn with
  | _ m ih =>
    by_cases h : m < 10
    · rw [digs_small h]
      intro b hb
      simp only [List.mem_singleton] at hb
      subst hb
      rw [digit_toNat m h]; omega
    · rw [digs_step h]
      refine (ih _ (by omega)).append fun b hb => ?_
      simp only [List.mem_singleton] at hb
      subst hb
      rw [digit_toNat _ (by omega)]; omega
theorem natOf_digs (m : Nat) : natOf (digs m) = m := by
  induction m using Nat.strongRecOn with
  | _ m ih =>
    by_cases h : m < 10
    · rw [digs_small h, natOf_cons, digit_toNat m h]; simp [natOf]
    · rw [digs_step h, natOf_snoc, ih _ (by omega), digit_toNat _ (by omega)]; omega
theorem digs_low (m : Nat) (h : 10 ≤ m) : 10 ^ ((digs m).length - 1) ≤ m := by
  induction m using Nat.strongRecOn with
  | _ m ih =>
    rw [digs_step (by omega)]
    rw [List.length_append, List.length_singleton, Nat.add_sub_cancel]
    by_cases h2 : m / 10 < 10
    · rw [digs_small h2]; simp; omega
    · have := ih (m / 10) (by omega) (by omega)
      have hp : 0 < (digs (m / 10)).length := List.length_pos_iff.2 (digs_ne _)
      obtain ⟨k, hk⟩ : ∃ k, (digs (m / 10)).length = k + 1 := ⟨_, (Nat.succ_pred_eq_of_pos hp).symm⟩
      rw [hk] at this ⊢
      rw [Nat.pow_succ]
      simp only [Nat.add_sub_cancel] at this
      omega
theorem digs_len_mono {a b : Nat} (h : (digs a).length < (digs b).length) : a < b := by
  have hb : 10 ≤ b := by
    rcases Nat.lt_or_ge b 10 with hlt | hge
    · rw [digs_small hlt] at h
      have : 0 < (digs a).length := List.length_pos_iff.2 (digs_ne _)
      simp at h
      exact absurd h (digs_ne a)
    · exact hge
  have h1 := digs_low b hb
  have h2 := natOf_lt (digs_digits a)
  rw [natOf_digs] at h2
  have h3 : 10 ^ (digs a).length ≤ 10 ^ ((digs b).length - 1) := Nat.pow_le_pow_right (by omega) (by omega)
  omega
theorem digs_lex {a b : Nat} (h : (digs a).length = (digs b).length) : Op.bytesLess (digs a) (digs b) = decide (a < b) := by
  rw [lex_nat h (digs_digits a) (digs_digits b), natOf_digs, natOf_digs]
theorem natOf_pos {b : UInt8} {r : List UInt8} (h : Digits (b :: r)) (hb : b ≠ 48) : 0 < natOf (b :: r) := by
  have h1 := h.head
  have h2 : b.toNat ≠ 48 := fun e => hb (UInt8.toNat_inj.1 e)
  rw [natOf_cons]
  have : 0 < (b.toNat - 48) * 10 ^ r.length := Nat.mul_pos (by omega) (Nat.pow_pos (by omega))
  omega
theorem digs_natOf_snoc (n : Nat) : ∀ {l : List UInt8}, l.length = n → Digits l → l ≠ [] → (l.head? = some 48 → l.length = 1) → digs (natOf l) = l := by
  induction n with
  | zero => intro l hl _ hne _; exact absurd (List.length_eq_zero_iff.1 hl) hne
  | succ n ih =>
    intro l hl hd hne hz
    obtain ⟨r, b, rfl⟩ : ∃ r b, l = r ++ [b] := ⟨_, _, (List.dropLast_concat_getLast hne).symm⟩
    have hb : 48 ≤ b.toNat ∧ b.toNat ≤ 57 := hd b (by simp)
    have hr : r.length = n := by simpa using hl
    have e48 : UInt8.ofNat (48 + (b.toNat - 48)) = b := by
      rw [show 48 + (b.toNat - 48) = b.toNat by omega]; simp
    rw [natOf_snoc]
    cases r with
    | nil =>
      rw [natOf_nil, digs_small (by omega), Nat.mul_zero, Nat.zero_add, e48]; rfl
    | cons h t =>
      have hh : h ≠ 48 := by
        rintro rfl
        have := hz rfl
        simp at this
      have hp := natOf_pos hd.left hh
      rw [digs_step (by omega), show (10 * natOf (h :: t) + (b.toNat - 48)) / 10 = natOf (h :: t) by omega, show (10 * natOf (h :: t) + (b.toNat - 48)) % 10 = b.toNat - 48 by omega, e48,
        ih hr hd.left (by simp) (fun e => by simp at e; exact absurd e hh)]
theorem digs_natOf {l : List UInt8} (hd : Digits l) (hne : l ≠ []) (hz : l.head? = some 48 → l.length = 1) : digs (natOf l) = l := digs_natOf_snoc _ rfl hd hne hz
theorem digs_head {m : Nat} (h : (digs m).head? = some 48) : m = 0 := by
  have hd := digs_digits m
  have hn := natOf_digs m
  have hs : m < 10 ∨ ¬ m < 10 := by omega
  rcases hs with hs | hs
  · rw [digs_small hs] at h
    simp only [List.head?_cons, Option.some.injEq] at h
    have := congrArg UInt8.toNat h
    rw [digit_toNat m hs] at this
    have e : (48 : UInt8).toNat = 48 := rfl
    omega
  · exfalso
    have hl := digs_low m (by omega)
    revert h hd hn hl
    have hlen : 2 ≤ (digs m).length := by
      rw [digs_step hs]
      have : 0 < (digs (m / 10)).length := List.length_pos_iff.2 (digs_ne _)
      simp
      omega
    revert hlen
    generalize digs m = l
    intro hlen h hd hn hl
    cases l with
    | nil => simp at h
    | cons b r =>
      simp at h
      subst h
      rw [natOf_cons] at hn
      have e : (48 : UInt8).toNat - 48 = 0 := rfl
      rw [e, Nat.zero_mul, Nat.zero_add] at hn
      have := natOf_lt hd.tail
      rw [List.length_cons, Nat.add_sub_cancel] at hl
      omega
theorem digs_len {m k : Nat} (h : m < 10 ^ k) (hk : 0 < k) : (digs m).length ≤ k := by
  rcases Nat.lt_or_ge m 10 with h1 | h1
  · rw [digs_small h1]; exact hk
  · have h2 := digs_low m h1
    rcases Nat.lt_or_ge k (digs m).length with h3 | h3
    · have : 10 ^ k ≤ 10 ^ ((digs m).length - 1) := Nat.pow_le_pow_right (by omega) (by omega)
      omega
    · exact h3
def LeftOf (m L : Nat) (tail : List UInt8) : Prop := digs m = if L = 0 then tail else digs L ++ tail
theorem LeftOf.start {m : Nat} (h : m ≠ 0) : LeftOf m m [] := by rw [LeftOf, if_neg h]; simp
theorem LeftOf.next {m L : Nat} {tail : List UInt8} (h : LeftOf m L tail) (hL : L ≠ 0) : LeftOf m (L / 10) (UInt8.ofNat (48 + L % 10) :: tail) := by
  rw [LeftOf, if_neg hL] at h
  rw [LeftOf, h]
  by_cases h1 : L < 10
  · rw [if_pos (by omega), digs_small h1, Nat.mod_eq_of_lt h1]; rfl
  · rw [if_neg (by omega), digs_step h1]; simp
theorem LeftOf.done {m : Nat} {tail : List UInt8} (h : LeftOf m 0 tail) : digs m = tail := h
theorem LeftOf.len {m L k : Nat} {tail : List UInt8} (h : LeftOf m L tail) (hm : m < 10 ^ k) (hk : 0 < k) : tail.length ≤ k := by
  have h1 := digs_len hm hk
  rw [h] at h1
  split at h1
  · exact h1
  · rw [List.length_append] at h1; omega
def wordOf (l : List UInt8) : Bool := decide (neg l < l.length) && (l.drop (neg l)).all dig && !(decide ((l.drop (neg l)).head? = some 48) && decide (l ≠ [48]))
structure IsWord (l : List UInt8) : Prop where
  some_ : neg l < l.length
  digits : Digits (l.drop (neg l))
  zero : (l.drop (neg l)).head? = some 48 → neg l = 0 ∧ l.length = 1
theorem isWord {l : List UInt8} (h : wordOf l = true) : IsWord l := by
  simp only [wordOf, Bool.and_eq_true, decide_eq_true_iff, Bool.not_eq_true', Bool.and_eq_false_iff, decide_eq_false_iff_not, ne_eq, Decidable.not_not] at h
  obtain ⟨⟨h1, h2⟩, h3⟩ := h
  refine ⟨h1, fun b hb => ?_, fun h => ?_⟩
  · have := List.all_eq_true.1 h2 b hb
    simpa [dig] using this
  · rcases h3 with h3 | h3
    · exact absurd h h3
    · subst h3; exact ⟨rfl, rfl⟩
theorem dig_of_digits {l : List UInt8} (h : Digits l) : l.all dig = true := by
  rw [List.all_eq_true]; intro b hb; simpa [dig] using h b hb
theorem takeWhile_of_all {p : UInt8 → Bool} {l : List UInt8} (h : l.all p = true) : (l.takeWhile p).length = l.length := by
  induction l with
  | nil => rfl
  | cons b r ih =>
    simp only [List.all_cons, Bool.and_eq_true] at h
    rw [List.takeWhile_cons, if_pos h.1, List.length_cons, List.length_cons, ih h.2]
theorem IsWord.piece {l : List UInt8} (h : IsWord l) : pieceLen l = l.length := by
  have h1 := h.some_
  rw [pieceLen, takeWhile_of_all (dig_of_digits h.digits), List.length_drop, if_neg (by omega)]
  omega
theorem IsWord.read {l : List UInt8} (h : IsWord l) : readOf l = if neg l = 1 then (if 9223372036854775808 < natOf (l.drop (neg l)) then (0, 3) else (-(natOf (l.drop (neg l)) : Int), 0))
    else (if 9223372036854775807 < natOf (l.drop (neg l)) then (0, 3) else ((natOf (l.drop (neg l)) : Int), 0)) := by
  have h1 := h.some_
  rw [readOf, h.piece, if_neg (by omega), valueOf, if_neg]
  rintro ⟨hz, ho⟩
  obtain ⟨e1, e2⟩ := h.zero hz
  rw [List.length_drop] at ho
  omega
theorem read_no_word {l : List UInt8} (h : wordOf l = false) : readOf l = (0, 4) := by
  rw [readOf]
  by_cases hp : pieceLen l = 0 ∨ pieceLen l ≠ l.length
  · rw [if_pos hp]
  · rw [if_neg hp, valueOf, if_pos]
    have hp2 : pieceLen l = l.length := by omega
    have hl : 0 < l.length := by omega
    have hg := piece_gt hp2 hl
    have ha : (l.drop (neg l)).all dig = true := by
      rw [List.all_eq_true]
      intro b hb
      obtain ⟨j, hj, rfl⟩ := List.getElem_of_mem hb
      rw [List.length_drop] at hj
      rw [List.getElem_drop]
      exact piece_digs hp2 hl _ (by omega) (by omega)
    rw [wordOf, decide_eq_true hg, ha] at h
    simp only [Bool.and_self, Bool.true_and, Bool.not_eq_false', Bool.and_eq_true, decide_eq_true_iff] at h
    refine ⟨h.1, ?_⟩
    have hn := neg_le_one l
    by_cases e : neg l = 1
    · exact .inl e
    · right
      have e0 : neg l = 0 := by omega
      rw [e0] at h ⊢
      rw [List.drop_zero] at h ⊢
      obtain ⟨h1, h2⟩ := h
      match l, h1, h2, hl with
      | [b], h1, h2, _ => simp at h1; subst h1; exact absurd rfl h2
      | b :: c :: r, _, _, _ => simp
def lessB (a b : List UInt8) : Bool := decide (a.length < b.length) || (decide (a.length = b.length) && (Op.bytesLess a b || a == b))
theorem lessB_digs (a b : Nat) : lessB (digs a) (digs b) = decide (a ≤ b) := by
  rw [lessB]
  rcases Nat.lt_trichotomy (digs a).length (digs b).length with h | h | h
  · have := digs_len_mono h
    rw [decide_eq_true h, Bool.true_or, eq_comm, decide_eq_true_iff]; omega
  · rw [decide_eq_false (by omega), decide_eq_true h, digs_lex h, Bool.false_or, Bool.true_and]
    have he : (digs a == digs b) = decide (a = b) := by
      by_cases e : a = b
      · subst e; simp
      · rw [decide_eq_false e, beq_eq_false_iff_ne]
        intro h2
        have := congrArg natOf h2
        rw [natOf_digs, natOf_digs] at this
        exact e this
    rw [he, ← Bool.decide_or, decide_eq_decide]
    omega
  · have := digs_len_mono h
    rw [decide_eq_false (by omega), decide_eq_false (by omega), Bool.false_and, Bool.false_or, eq_comm, decide_eq_false_iff_not]; omega
theorem IsWord.digs {l : List UInt8} (h : IsWord l) : digs (natOf (l.drop (neg l))) = l.drop (neg l) := by
  have h1 := h.some_
  refine digs_natOf h.digits (fun e => ?_) (fun hz => ?_)
  · have := congrArg List.length e
    rw [List.length_drop] at this
    simp at this
    omega
  · obtain ⟨e1, e2⟩ := h.zero hz
    rw [List.length_drop]; omega
theorem digs_most : digs 9223372036854775808 = [57, 50, 50, 51, 51, 55, 50, 48, 51, 54, 56, 53, 52, 55, 55, 53, 56, 48, 56] :=
  digs_natOf (l := [57, 50, 50, 51, 51, 55, 50, 48, 51, 54, 56, 53, 52, 55, 55, 53, 56, 48, 56]) (by intro b hb; revert b; decide) (by decide) (by decide)
theorem digs_max : digs 9223372036854775807 = [57, 50, 50, 51, 51, 55, 50, 48, 51, 54, 56, 53, 52, 55, 55, 53, 56, 48, 55] :=
  digs_natOf (l := [57, 50, 50, 51, 51, 55, 50, 48, 51, 54, 56, 53, 52, 55, 55, 53, 56, 48, 55]) (by intro b hb; revert b; decide) (by decide) (by decide)
theorem IsWord.less_most {l : List UInt8} (h : IsWord l) : lessB (l.drop (neg l)) [57, 50, 50, 51, 51, 55, 50, 48, 51, 54, 56, 53, 52, 55, 55, 53, 56, 48, 56] = decide (natOf (l.drop (neg l)) ≤ 9223372036854775808) := by
  rw [← digs_most]
  conv => lhs; rw [← h.digs]
  exact lessB_digs _ _
theorem IsWord.less_max {l : List UInt8} (h : IsWord l) : lessB (l.drop (neg l)) [57, 50, 50, 51, 51, 55, 50, 48, 51, 54, 56, 53, 52, 55, 55, 53, 56, 48, 55] = decide (natOf (l.drop (neg l)) ≤ 9223372036854775807) := by
  rw [← digs_max]
  conv => lhs; rw [← h.digs]
  exact lessB_digs _ _
def pref (l : List UInt8) (k : Nat) : Nat := natOf ((l.take k).drop (neg l))
theorem pref_zero (l : List UInt8) : pref l 0 = 0 := by simp [pref, natOf]
theorem pref_one {l : List UInt8} (h : neg l = 1) : pref l 1 = 0 := by
  rw [pref, h]
  have : ((l.take 1).drop 1) = [] := List.drop_eq_nil_iff.2 (by simp; omega)
  rw [this]; rfl
theorem pref_step {l : List UInt8} {k : Nat} (hk : k < l.length) (hn : neg l ≤ k) : pref l (k + 1) = 10 * pref l k + (l[k].toNat - 48) := by
  have hlen : (l.take k).length = k := by simp; omega
  rw [pref, List.take_succ_eq_append_getElem hk, List.drop_append_of_le_length (by omega), natOf_snoc]; rfl
theorem pref_le (l : List UInt8) (k : Nat) : pref l k ≤ natOf (l.drop (neg l)) := by
  rw [pref, List.drop_take]
  exact natOf_take_le _ _
theorem pref_end {l : List UInt8} {k : Nat} (h : l.length ≤ k) : pref l k = natOf (l.drop (neg l)) := by
  rw [pref, List.take_of_length_le h]
theorem neg_digs (m : Nat) (b : List UInt8) : neg (digs m ++ b) = 0 := by
  have hp : 0 < (digs m).length := List.length_pos_iff.2 (digs_ne m)
  refine neg_of_dig (by rw [List.length_append]; omega) ?_
  rw [List.getElem_append_left hp]
  have := digs_digits m _ (List.getElem_mem hp)
  omega
theorem print_neg_eq (n : Int) (b : List UInt8) : neg (print n ++ b) = if n < 0 then 1 else 0 := by
  rw [print]
  split
  · rfl
  · exact neg_digs _ _
theorem print_drop (n : Int) (b : List UInt8) : (print n ++ b).drop (neg (print n ++ b)) = digs n.natAbs ++ b := by
  rw [print_neg_eq, print]
  split
  · rfl
  · rfl
theorem takeWhile_stop {p : UInt8 → Bool} {x y : List UInt8} (hx : x.all p = true) (hy : ∀ b, y.head? = some b → p b = false) : (x ++ y).takeWhile p = x := by
  induction x with
  | nil =>
    cases y with
    | nil => rfl
    | cons b r => rw [List.nil_append, List.takeWhile_cons, if_neg (by simp [hy b rfl])]
  | cons b r ih =>
    simp only [List.all_cons, Bool.and_eq_true] at hx
    rw [List.cons_append, List.takeWhile_cons, if_pos hx.1, ih hx.2]
theorem print_len (n : Int) : (print n).length = (if n < 0 then 1 else 0) + (digs n.natAbs).length := by
  rw [print]; split <;> simp <;> omega
theorem print_piece (n : Int) {b : List UInt8} (hb : ∀ c, b.head? = some c → dig c = false) : pieceLen (print n ++ b) = (print n).length := by
  have hp : 0 < (digs n.natAbs).length := List.length_pos_iff.2 (digs_ne _)
  rw [pieceLen, print_drop, takeWhile_stop (dig_of_digits (digs_digits _)) hb, if_neg (by omega), print_neg_eq, print_len]
theorem print_value {n : Int} (h0 : -9223372036854775808 ≤ n) (h1 : n ≤ 9223372036854775807) : valueOf (print n) = (n, 0) := by
  have hd := print_drop n []
  have hn := print_neg_eq n []
  rw [List.append_nil] at hd hn
  rw [List.append_nil] at hd
  rw [valueOf, hd, hn, natOf_digs, if_neg]
  · by_cases h : n < 0
    · rw [if_pos h, if_pos rfl, if_neg (by omega)]; congr 1; omega
    · rw [if_neg h, if_neg (by omega), if_neg (by omega)]; congr 1; omega
  · rintro ⟨hz, ho⟩
    have := digs_head hz
    rw [this] at ho
    simp [digs_small] at ho
    omega
theorem print_read {n : Int} (h0 : -9223372036854775808 ≤ n) (h1 : n ≤ 9223372036854775807) : readOf (print n) = (n, 0) := by
  have hp := print_piece n (b := []) (by simp)
  rw [List.append_nil] at hp
  have hpos : 0 < (print n).length := by
    have := List.length_pos_iff.2 (digs_ne n.natAbs)
    rw [print_len]; omega
  rw [readOf, hp, if_neg (by omega), print_value h0 h1]
theorem read_print {l : List UInt8} (h : (readOf l).2 = 0) : print (readOf l).1 = l ∧ -9223372036854775808 ≤ (readOf l).1 ∧ (readOf l).1 ≤ 9223372036854775807 := by
  cases hw : wordOf l with
  | false => rw [read_no_word hw] at h; exact absurd h (by decide)
  | true =>
    have iw := isWord hw
    have hr := iw.read
    have hdg := iw.digs
    have hn := neg_le_one l
    have hs := iw.some_
    by_cases e : neg l = 1
    · rw [if_pos e] at hr
      by_cases hov : 9223372036854775808 < natOf (l.drop (neg l))
      · rw [hr, if_pos hov] at h; exact absurd h (by decide)
      · rw [hr, if_neg hov]
        have hpos : 0 < natOf (l.drop (neg l)) := by
          rcases Nat.eq_zero_or_pos (natOf (l.drop (neg l))) with hz | hz
          · exfalso
            rw [hz] at hdg
            have := iw.zero (by rw [← hdg]; simp [digs_small])
            omega
          · exact hz
        refine ⟨?_, by omega, by omega⟩
        simp only [print]
        rw [if_pos (by omega), show (-(natOf (l.drop (neg l)) : Int)).natAbs = natOf (l.drop (neg l)) by omega, hdg, e]
        match l, e, hs with
        | b :: r, e, _ =>
          simp only [neg] at e
          have hb : b.toNat = 45 := by
            by_cases hb : b.toNat = 45
            · exact hb
            · rw [if_neg hb] at e; exact absurd e (by decide)
          have : b = 45 := UInt8.toNat_inj.1 hb
          subst this; rfl
    · have e0 : neg l = 0 := by omega
      rw [if_neg e] at hr
      by_cases hov : 9223372036854775807 < natOf (l.drop (neg l))
      · rw [hr, if_pos hov] at h; exact absurd h (by decide)
      · rw [hr, if_neg hov]
        refine ⟨?_, by omega, by omega⟩
        simp only [print]
        rw [if_neg (by omega), show ((natOf (l.drop (neg l)) : Int)).natAbs = natOf (l.drop (neg l)) by omega, hdg, e0]; rfl
end Punnet.Num
end
section
namespace Go.Vm
def u64 (n : Int) : Nat := (n % 18446744073709551616).toNat
def i64 (u : Nat) : Int := if u < 9223372036854775808 then (u : Int) else (u : Int) - 18446744073709551616
abbrev inI64 (n : Int) : Prop := -9223372036854775808 ≤ n ∧ n < 9223372036854775808
theorem i64_in {u : Nat} (h : u < 18446744073709551616) : inI64 (i64 u) := by unfold i64; split <;> omega
end Go.Vm
end
section
namespace Go.Vm
abbrev St := Nat × Bool
variable {b : List UInt8} {f most : Int} {s : St}
theorem none_of {α : Type} {g : Option α} (h : g.isSome = false) : g = none := by simpa using h
end Go.Vm
end
section
namespace Go.Vm
section
variable {b : List UInt8} {f most : Int} {s : St}
theorem nameB_size {s : ByteArray} (h : nameB s = true) : s.size ≤ 12 := by
  unfold nameB at h
  simp only [Bool.and_eq_true, decide_eq_true_eq] at h
  exact h.1.2
theorem placeB_size {r : RefD} (h : placeB r = true) : inI64 r.scope ∧ r.group.size ≤ 12 ∧ r.name.size ≤ 12 := by
  unfold placeB at h
  simp only [Bool.and_eq_true, Bool.or_eq_true, decide_eq_true_eq] at h
  obtain ⟨⟨h1, h2⟩, h3⟩ := h
  refine ⟨by omega, ?_, nameB_size h2⟩
  rcases h3 with h3 | h3
  · rw [h3]; decide
  · exact nameB_size h3
structure SizeL (x : LensD) : Prop where
  kind : 1 ≤ x.kind ∧ x.kind ≤ 10
  place : inI64 x.at_.scope ∧ x.at_.group.size ≤ 12 ∧ x.at_.name.size ≤ 12
  name : x.name.size ≤ 12
  other : x.other.size ≤ 40
  factor : inI64 x.factor
  forth : x.forth.length ≤ 6 ∧ ∀ p ∈ x.forth, p.1.size ≤ 12 ∧ p.2.size ≤ 12
  back : x.back.length ≤ 6 ∧ ∀ p ∈ x.back, p.1.size ≤ 12 ∧ p.2.size ≤ 12
  field : (x.kind = 2 ∨ x.kind = 3 → rightF x.field = true) ∧ (¬ (x.kind = 2 ∨ x.kind = 3) → x.field = noField)
structure OkF (x : FieldD) : Prop where
  scope : inI64 x.at_.scope
  group : x.at_.group.size ≤ 200
  name : x.at_.name.size ≤ 200
  kind : inI64 x.kind
  deft : x.deft.size ≤ 200
  cases : x.cases.length ≤ 20
  each : ∀ t ∈ x.cases, t.size ≤ 200
  worth : inI64 x.worth
structure OkB (x : LensD) : Prop where
  kind : inI64 x.kind
  scope : inI64 x.at_.scope
  group : x.at_.group.size ≤ 200
  rname : x.at_.name.size ≤ 200
  name : x.name.size ≤ 200
  other : x.other.size ≤ 200
  factor : inI64 x.factor
  field : OkF x.field
  forth : x.forth.length ≤ 20
  feach : ∀ t ∈ x.forth, t.1.size ≤ 200 ∧ t.2.size ≤ 200
  back : x.back.length ≤ 20
  beach : ∀ t ∈ x.back, t.1.size ≤ 200 ∧ t.2.size ≤ 200
end
end Go.Vm
end
