/- The shapes of the types that the program names. Printed by gen_types.py. -/
import Derived.Test.YthkgbmekiclgmaaVm8
import Derived.KernelRfl
namespace Go.Vm.T
set_option linter.unusedVariables false

theorem ts_2 : tshape Go.Proofs.Try.prog 2 = some (false, 1) := by kernel_rfl
theorem ts_3 : tshape Go.Proofs.Try.prog 3 = some (false, 1) := by kernel_rfl
theorem ts_4 : tshape Go.Proofs.Try.prog 4 = some (false, 1) := by kernel_rfl
theorem ts_5 : tshape Go.Proofs.Try.prog 5 = some (false, 1) := by kernel_rfl
theorem ts_9 : tshape Go.Proofs.Try.prog 9 = some (false, 1) := by kernel_rfl
theorem ts_22 : tshape Go.Proofs.Try.prog 22 = some (false, 1) := by kernel_rfl
theorem ts_24 : tshape Go.Proofs.Try.prog 24 = some (true, 3) := by kernel_rfl
theorem ts_25 : tshape Go.Proofs.Try.prog 25 = some (false, 1) := by kernel_rfl
theorem ts_27 : tshape Go.Proofs.Try.prog 27 = some (true, 7) := by kernel_rfl
theorem ts_28 : tshape Go.Proofs.Try.prog 28 = some (false, 1) := by kernel_rfl
theorem ts_30 : tshape Go.Proofs.Try.prog 30 = some (true, 16) := by kernel_rfl
theorem ts_55 : tshape Go.Proofs.Try.prog 55 = some (true, 2) := by kernel_rfl
theorem ts_57 : tshape Go.Proofs.Try.prog 57 = some (true, 2) := by kernel_rfl
theorem ts_61 : tshape Go.Proofs.Try.prog 61 = some (false, 1) := by kernel_rfl
theorem ts_77 : tshape Go.Proofs.Try.prog 77 = some (true, 20) := by kernel_rfl
theorem ts_131 : tshape Go.Proofs.Try.prog 131 = some (true, 16) := by kernel_rfl
theorem ts_141 : tshape Go.Proofs.Try.prog 141 = some (false, 1) := by kernel_rfl
theorem ts_146 : tshape Go.Proofs.Try.prog 146 = some (true, 23) := by kernel_rfl
theorem ts_182 : tshape Go.Proofs.Try.prog 182 = some (false, 1) := by kernel_rfl
theorem fo_24_0 : fieldOff Go.Proofs.Try.prog 24 0 = some 0 := by kernel_rfl
theorem fo_24_1 : fieldOff Go.Proofs.Try.prog 24 1 = some 1 := by kernel_rfl
theorem fo_24_2 : fieldOff Go.Proofs.Try.prog 24 2 = some 2 := by kernel_rfl
theorem fo_27_0 : fieldOff Go.Proofs.Try.prog 27 0 = some 0 := by kernel_rfl
theorem fo_27_1 : fieldOff Go.Proofs.Try.prog 27 1 = some 3 := by kernel_rfl
theorem fo_27_2 : fieldOff Go.Proofs.Try.prog 27 2 = some 4 := by kernel_rfl
theorem fo_27_3 : fieldOff Go.Proofs.Try.prog 27 3 = some 5 := by kernel_rfl
theorem fo_27_4 : fieldOff Go.Proofs.Try.prog 27 4 = some 6 := by kernel_rfl
theorem fo_30_0 : fieldOff Go.Proofs.Try.prog 30 0 = some 0 := by kernel_rfl
theorem fo_30_1 : fieldOff Go.Proofs.Try.prog 30 1 = some 1 := by kernel_rfl
theorem fo_30_2 : fieldOff Go.Proofs.Try.prog 30 2 = some 4 := by kernel_rfl
theorem fo_30_3 : fieldOff Go.Proofs.Try.prog 30 3 = some 5 := by kernel_rfl
theorem fo_30_4 : fieldOff Go.Proofs.Try.prog 30 4 = some 6 := by kernel_rfl
theorem fo_30_5 : fieldOff Go.Proofs.Try.prog 30 5 = some 7 := by kernel_rfl
theorem fo_30_6 : fieldOff Go.Proofs.Try.prog 30 6 = some 14 := by kernel_rfl
theorem fo_30_7 : fieldOff Go.Proofs.Try.prog 30 7 = some 15 := by kernel_rfl
theorem fo_55_0 : fieldOff Go.Proofs.Try.prog 55 0 = some 0 := by kernel_rfl
theorem fo_55_1 : fieldOff Go.Proofs.Try.prog 55 1 = some 1 := by kernel_rfl
theorem fo_57_0 : fieldOff Go.Proofs.Try.prog 57 0 = some 0 := by kernel_rfl
theorem fo_57_1 : fieldOff Go.Proofs.Try.prog 57 1 = some 1 := by kernel_rfl
theorem fo_77_0 : fieldOff Go.Proofs.Try.prog 77 0 = some 0 := by kernel_rfl
theorem fo_77_1 : fieldOff Go.Proofs.Try.prog 77 1 = some 2 := by kernel_rfl
theorem fo_77_2 : fieldOff Go.Proofs.Try.prog 77 2 = some 4 := by kernel_rfl
theorem fo_125_0 : fieldOff Go.Proofs.Try.prog 125 0 = some 0 := by kernel_rfl
theorem fo_125_1 : fieldOff Go.Proofs.Try.prog 125 1 = some 1 := by kernel_rfl
theorem fo_125_2 : fieldOff Go.Proofs.Try.prog 125 2 = some 2 := by kernel_rfl
theorem fo_125_3 : fieldOff Go.Proofs.Try.prog 125 3 = some 3 := by kernel_rfl
theorem fo_131_0 : fieldOff Go.Proofs.Try.prog 131 0 = some 0 := by kernel_rfl
theorem fo_131_1 : fieldOff Go.Proofs.Try.prog 131 1 = some 1 := by kernel_rfl
theorem fo_131_2 : fieldOff Go.Proofs.Try.prog 131 2 = some 2 := by kernel_rfl
theorem fo_131_3 : fieldOff Go.Proofs.Try.prog 131 3 = some 3 := by kernel_rfl
theorem fo_131_4 : fieldOff Go.Proofs.Try.prog 131 4 = some 4 := by kernel_rfl
theorem fo_131_5 : fieldOff Go.Proofs.Try.prog 131 5 = some 6 := by kernel_rfl
theorem fo_131_6 : fieldOff Go.Proofs.Try.prog 131 6 = some 12 := by kernel_rfl
theorem fo_131_7 : fieldOff Go.Proofs.Try.prog 131 7 = some 15 := by kernel_rfl
theorem fo_143_0 : fieldOff Go.Proofs.Try.prog 143 0 = some 0 := by kernel_rfl
theorem fo_146_0 : fieldOff Go.Proofs.Try.prog 146 0 = some 0 := by kernel_rfl
theorem fo_146_1 : fieldOff Go.Proofs.Try.prog 146 1 = some 20 := by kernel_rfl
theorem fo_146_2 : fieldOff Go.Proofs.Try.prog 146 2 = some 21 := by kernel_rfl
theorem fo_146_3 : fieldOff Go.Proofs.Try.prog 146 3 = some 22 := by kernel_rfl
theorem es_22 : elemSize Go.Proofs.Try.prog 22 = some 7 := by kernel_rfl
theorem es_25 : elemSize Go.Proofs.Try.prog 25 = some 1 := by kernel_rfl
theorem es_28 : elemSize Go.Proofs.Try.prog 28 = some 2 := by kernel_rfl
theorem es_40 : elemSize Go.Proofs.Try.prog 40 = some 3 := by kernel_rfl
theorem es_61 : elemSize Go.Proofs.Try.prog 61 = some 1 := by kernel_rfl
theorem es_68 : elemSize Go.Proofs.Try.prog 68 = some 1 := by kernel_rfl
theorem es_73 : elemSize Go.Proofs.Try.prog 73 = some 20 := by kernel_rfl
theorem es_84 : elemSize Go.Proofs.Try.prog 84 = some 2 := by kernel_rfl
theorem ar_129 : arrShape Go.Proofs.Try.prog 129 = some (6, 1) := by kernel_rfl
theorem ef_22 : elemFull Go.Proofs.Try.prog 22 = some (27, 7, 96) := by kernel_rfl
theorem ef_25 : elemFull Go.Proofs.Try.prog 25 = some (9, 1, 16) := by kernel_rfl
theorem ef_28 : elemFull Go.Proofs.Try.prog 28 = some (55, 2, 32) := by kernel_rfl
theorem ef_40 : elemFull Go.Proofs.Try.prog 40 = some (24, 3, 40) := by kernel_rfl
theorem ef_61 : elemFull Go.Proofs.Try.prog 61 = some (5, 1, 1) := by kernel_rfl
theorem ef_68 : elemFull Go.Proofs.Try.prog 68 = some (61, 1, 24) := by kernel_rfl
theorem ef_73 : elemFull Go.Proofs.Try.prog 73 = some (77, 20, 264) := by kernel_rfl
theorem ef_84 : elemFull Go.Proofs.Try.prog 84 = some (57, 2, 16) := by kernel_rfl
theorem zo_3 : zeroOf Go.Proofs.Try.prog 3 = some [.sc (.int .i64 0)] := by kernel_rfl
theorem zs_3 : (zeroOf Go.Proofs.Try.prog 3).isSome = true := by rw [zo_3]; rfl
theorem zo_5 : zeroOf Go.Proofs.Try.prog 5 = some [.sc (.int .u8 0)] := by kernel_rfl
theorem zs_5 : (zeroOf Go.Proofs.Try.prog 5).isSome = true := by rw [zo_5]; rfl
theorem zo_9 : zeroOf Go.Proofs.Try.prog 9 = some [.sc (.string ⟨#[]⟩)] := by kernel_rfl
theorem zs_9 : (zeroOf Go.Proofs.Try.prog 9).isSome = true := by rw [zo_9]; rfl
theorem zo_24 : zeroOf Go.Proofs.Try.prog 24 = some [.sc (.int .i64 0), .sc (.string ⟨#[]⟩), .sc (.string ⟨#[]⟩)] := by kernel_rfl
theorem zs_24 : (zeroOf Go.Proofs.Try.prog 24).isSome = true := by rw [zo_24]; rfl
theorem zo_27 : zeroOf Go.Proofs.Try.prog 27 = some [.sc (.int .i64 0), .sc (.string ⟨#[]⟩), .sc (.string ⟨#[]⟩), .sc (.int .i64 0), .sc (.string ⟨#[]⟩), .row [], .sc (.int .i64 0)] := by kernel_rfl
theorem zs_27 : (zeroOf Go.Proofs.Try.prog 27).isSome = true := by rw [zo_27]; rfl
theorem zo_30 : zeroOf Go.Proofs.Try.prog 30 = some [.sc (.int .i64 0), .sc (.int .i64 0), .sc (.string ⟨#[]⟩), .sc (.string ⟨#[]⟩), .sc (.string ⟨#[]⟩), .sc (.string ⟨#[]⟩), .sc (.int .i64 0), .sc (.int .i64 0), .sc (.string ⟨#[]⟩), .sc (.string ⟨#[]⟩), .sc (.int .i64 0), .sc (.string ⟨#[]⟩), .row [], .sc (.int .i64 0), .row [], .row []] := by kernel_rfl
theorem zs_30 : (zeroOf Go.Proofs.Try.prog 30).isSome = true := by rw [zo_30]; rfl
theorem zo_55 : zeroOf Go.Proofs.Try.prog 55 = some [.sc (.string ⟨#[]⟩), .sc (.string ⟨#[]⟩)] := by kernel_rfl
theorem zs_55 : (zeroOf Go.Proofs.Try.prog 55).isSome = true := by rw [zo_55]; rfl
theorem zo_57 : zeroOf Go.Proofs.Try.prog 57 = some [.sc (.int .i64 0), .sc (.int .i64 0)] := by kernel_rfl
theorem zs_57 : (zeroOf Go.Proofs.Try.prog 57).isSome = true := by rw [zo_57]; rfl
theorem zo_61 : zeroOf Go.Proofs.Try.prog 61 = some [.row []] := by kernel_rfl
theorem zs_61 : (zeroOf Go.Proofs.Try.prog 61).isSome = true := by rw [zo_61]; rfl
theorem zo_77 : zeroOf Go.Proofs.Try.prog 77 = some [.sc (.int .i64 0), .sc (.int .i64 0), .sc (.int .i64 0), .sc (.int .i64 0), .sc (.int .i64 0), .sc (.int .i64 0), .sc (.string ⟨#[]⟩), .sc (.string ⟨#[]⟩), .sc (.string ⟨#[]⟩), .sc (.string ⟨#[]⟩), .sc (.int .i64 0), .sc (.int .i64 0), .sc (.string ⟨#[]⟩), .sc (.string ⟨#[]⟩), .sc (.int .i64 0), .sc (.string ⟨#[]⟩), .row [], .sc (.int .i64 0), .row [], .row []] := by kernel_rfl
theorem zs_77 : (zeroOf Go.Proofs.Try.prog 77).isSome = true := by rw [zo_77]; rfl
theorem zo_131 : zeroOf Go.Proofs.Try.prog 131 = some [.sc (.int .i64 0), .sc (.int .i64 0), .sc (.string ⟨#[]⟩), .sc (.bool false), .sc (.int .i64 0), .sc (.int .i64 0), .sc (.int .i64 0), .sc (.int .i64 0), .sc (.int .i64 0), .sc (.int .i64 0), .sc (.int .i64 0), .sc (.int .i64 0), .sc (.int .i64 0), .sc (.string ⟨#[]⟩), .sc (.string ⟨#[]⟩), .sc (.int .i64 0)] := by kernel_rfl
theorem zs_131 : (zeroOf Go.Proofs.Try.prog 131).isSome = true := by rw [zo_131]; rfl
theorem zo_146 : zeroOf Go.Proofs.Try.prog 146 = some [.sc (.int .i64 0), .sc (.int .i64 0), .sc (.int .i64 0), .sc (.int .i64 0), .sc (.int .i64 0), .sc (.int .i64 0), .sc (.string ⟨#[]⟩), .sc (.string ⟨#[]⟩), .sc (.string ⟨#[]⟩), .sc (.string ⟨#[]⟩), .sc (.int .i64 0), .sc (.int .i64 0), .sc (.string ⟨#[]⟩), .sc (.string ⟨#[]⟩), .sc (.int .i64 0), .sc (.string ⟨#[]⟩), .row [], .sc (.int .i64 0), .row [], .row [], .sc (.int .i64 0), .row [], .sc (.int .i64 0)] := by kernel_rfl
theorem zs_146 : (zeroOf Go.Proofs.Try.prog 146).isSome = true := by rw [zo_146]; rfl
theorem zo_182 : zeroOf Go.Proofs.Try.prog 182 = some [.sc (.int .u64 0)] := by kernel_rfl
theorem zs_182 : (zeroOf Go.Proofs.Try.prog 182).isSome = true := by rw [zo_182]; rfl
theorem us_9 : Go.Proofs.Try.prog.underlying 9 = some .string := Go.Proofs.Try.underlying9
theorem en_11 : enters Go.Proofs.Try.prog 11 = true := by kernel_rfl
theorem en_12 : enters Go.Proofs.Try.prog 12 = true := by kernel_rfl
theorem en_13 : enters Go.Proofs.Try.prog 13 = true := by kernel_rfl
theorem en_14 : enters Go.Proofs.Try.prog 14 = true := by kernel_rfl
theorem en_15 : enters Go.Proofs.Try.prog 15 = true := by kernel_rfl
theorem en_16 : enters Go.Proofs.Try.prog 16 = true := by kernel_rfl
theorem en_17 : enters Go.Proofs.Try.prog 17 = true := by kernel_rfl
theorem en_18 : enters Go.Proofs.Try.prog 18 = true := by kernel_rfl
theorem en_19 : enters Go.Proofs.Try.prog 19 = true := by kernel_rfl
theorem en_20 : enters Go.Proofs.Try.prog 20 = true := by kernel_rfl
theorem en_21 : enters Go.Proofs.Try.prog 21 = true := by kernel_rfl
theorem en_22 : enters Go.Proofs.Try.prog 22 = true := by kernel_rfl
theorem en_23 : enters Go.Proofs.Try.prog 23 = true := by kernel_rfl
theorem en_24 : enters Go.Proofs.Try.prog 24 = true := by kernel_rfl
theorem en_25 : enters Go.Proofs.Try.prog 25 = true := by kernel_rfl
theorem en_26 : enters Go.Proofs.Try.prog 26 = true := by kernel_rfl
theorem en_27 : enters Go.Proofs.Try.prog 27 = true := by kernel_rfl
theorem en_28 : enters Go.Proofs.Try.prog 28 = true := by kernel_rfl
theorem en_29 : enters Go.Proofs.Try.prog 29 = true := by kernel_rfl
theorem en_30 : enters Go.Proofs.Try.prog 30 = true := by kernel_rfl
theorem en_31 : enters Go.Proofs.Try.prog 31 = true := by kernel_rfl
theorem en_32 : enters Go.Proofs.Try.prog 32 = true := by kernel_rfl
theorem en_33 : enters Go.Proofs.Try.prog 33 = true := by kernel_rfl
theorem en_34 : enters Go.Proofs.Try.prog 34 = true := by kernel_rfl
theorem en_35 : enters Go.Proofs.Try.prog 35 = true := by kernel_rfl
theorem en_36 : enters Go.Proofs.Try.prog 36 = true := by kernel_rfl
theorem en_37 : enters Go.Proofs.Try.prog 37 = true := by kernel_rfl
theorem en_38 : enters Go.Proofs.Try.prog 38 = true := by kernel_rfl
theorem en_39 : enters Go.Proofs.Try.prog 39 = true := by kernel_rfl
theorem en_40 : enters Go.Proofs.Try.prog 40 = true := by kernel_rfl
theorem en_41 : enters Go.Proofs.Try.prog 41 = true := by kernel_rfl
theorem en_42 : enters Go.Proofs.Try.prog 42 = true := by kernel_rfl
theorem en_43 : enters Go.Proofs.Try.prog 43 = true := by kernel_rfl
theorem en_44 : enters Go.Proofs.Try.prog 44 = true := by kernel_rfl
theorem en_45 : enters Go.Proofs.Try.prog 45 = true := by kernel_rfl
theorem en_46 : enters Go.Proofs.Try.prog 46 = true := by kernel_rfl
theorem en_47 : enters Go.Proofs.Try.prog 47 = true := by kernel_rfl
theorem en_48 : enters Go.Proofs.Try.prog 48 = true := by kernel_rfl
theorem en_49 : enters Go.Proofs.Try.prog 49 = true := by kernel_rfl
theorem en_50 : enters Go.Proofs.Try.prog 50 = true := by kernel_rfl
theorem en_51 : enters Go.Proofs.Try.prog 51 = true := by kernel_rfl
theorem en_52 : enters Go.Proofs.Try.prog 52 = true := by kernel_rfl
theorem en_53 : enters Go.Proofs.Try.prog 53 = true := by kernel_rfl
theorem en_54 : enters Go.Proofs.Try.prog 54 = true := by kernel_rfl
theorem en_55 : enters Go.Proofs.Try.prog 55 = true := by kernel_rfl
theorem en_56 : enters Go.Proofs.Try.prog 56 = true := by kernel_rfl
theorem en_57 : enters Go.Proofs.Try.prog 57 = true := by kernel_rfl
theorem en_58 : enters Go.Proofs.Try.prog 58 = true := by kernel_rfl
theorem en_59 : enters Go.Proofs.Try.prog 59 = true := by kernel_rfl
theorem en_60 : enters Go.Proofs.Try.prog 60 = true := by kernel_rfl
theorem en_61 : enters Go.Proofs.Try.prog 61 = true := by kernel_rfl
theorem en_62 : enters Go.Proofs.Try.prog 62 = true := by kernel_rfl
theorem en_63 : enters Go.Proofs.Try.prog 63 = true := by kernel_rfl
theorem en_64 : enters Go.Proofs.Try.prog 64 = true := by kernel_rfl
theorem en_65 : enters Go.Proofs.Try.prog 65 = true := by kernel_rfl
theorem en_66 : enters Go.Proofs.Try.prog 66 = true := by kernel_rfl
theorem en_67 : enters Go.Proofs.Try.prog 67 = true := by kernel_rfl
theorem en_68 : enters Go.Proofs.Try.prog 68 = true := by kernel_rfl
theorem en_69 : enters Go.Proofs.Try.prog 69 = true := by kernel_rfl
theorem en_70 : enters Go.Proofs.Try.prog 70 = true := by kernel_rfl
theorem en_71 : enters Go.Proofs.Try.prog 71 = true := by kernel_rfl
theorem en_72 : enters Go.Proofs.Try.prog 72 = true := by kernel_rfl
theorem en_73 : enters Go.Proofs.Try.prog 73 = true := by kernel_rfl
theorem en_74 : enters Go.Proofs.Try.prog 74 = true := by kernel_rfl
theorem en_75 : enters Go.Proofs.Try.prog 75 = true := by kernel_rfl
theorem en_76 : enters Go.Proofs.Try.prog 76 = true := by kernel_rfl
theorem en_77 : enters Go.Proofs.Try.prog 77 = true := by kernel_rfl
theorem en_78 : enters Go.Proofs.Try.prog 78 = true := by kernel_rfl
theorem en_79 : enters Go.Proofs.Try.prog 79 = true := by kernel_rfl
theorem en_80 : enters Go.Proofs.Try.prog 80 = true := by kernel_rfl
theorem en_81 : enters Go.Proofs.Try.prog 81 = true := by kernel_rfl
theorem en_82 : enters Go.Proofs.Try.prog 82 = true := by kernel_rfl
theorem en_83 : enters Go.Proofs.Try.prog 83 = true := by kernel_rfl
theorem en_84 : enters Go.Proofs.Try.prog 84 = true := by kernel_rfl
theorem en_85 : enters Go.Proofs.Try.prog 85 = true := by kernel_rfl
theorem en_86 : enters Go.Proofs.Try.prog 86 = true := by kernel_rfl
theorem en_87 : enters Go.Proofs.Try.prog 87 = true := by kernel_rfl
theorem en_88 : enters Go.Proofs.Try.prog 88 = true := by kernel_rfl
theorem en_89 : enters Go.Proofs.Try.prog 89 = true := by kernel_rfl
theorem en_90 : enters Go.Proofs.Try.prog 90 = true := by kernel_rfl
theorem en_91 : enters Go.Proofs.Try.prog 91 = true := by kernel_rfl
theorem en_92 : enters Go.Proofs.Try.prog 92 = true := by kernel_rfl
theorem en_93 : enters Go.Proofs.Try.prog 93 = true := by kernel_rfl
theorem en_94 : enters Go.Proofs.Try.prog 94 = true := by kernel_rfl
theorem en_95 : enters Go.Proofs.Try.prog 95 = true := by kernel_rfl
theorem en_96 : enters Go.Proofs.Try.prog 96 = true := by kernel_rfl
theorem en_97 : enters Go.Proofs.Try.prog 97 = true := by kernel_rfl
theorem en_98 : enters Go.Proofs.Try.prog 98 = true := by kernel_rfl
theorem en_99 : enters Go.Proofs.Try.prog 99 = true := by kernel_rfl
theorem en_100 : enters Go.Proofs.Try.prog 100 = true := by kernel_rfl
theorem en_101 : enters Go.Proofs.Try.prog 101 = true := by kernel_rfl
theorem en_102 : enters Go.Proofs.Try.prog 102 = true := by kernel_rfl
theorem en_103 : enters Go.Proofs.Try.prog 103 = true := by kernel_rfl
theorem en_104 : enters Go.Proofs.Try.prog 104 = true := by kernel_rfl
theorem en_105 : enters Go.Proofs.Try.prog 105 = true := by kernel_rfl
theorem en_106 : enters Go.Proofs.Try.prog 106 = true := by kernel_rfl
theorem en_107 : enters Go.Proofs.Try.prog 107 = true := by kernel_rfl
theorem en_108 : enters Go.Proofs.Try.prog 108 = true := by kernel_rfl
theorem en_109 : enters Go.Proofs.Try.prog 109 = true := by kernel_rfl
theorem en_110 : enters Go.Proofs.Try.prog 110 = true := by kernel_rfl
theorem en_111 : enters Go.Proofs.Try.prog 111 = true := by kernel_rfl
theorem en_112 : enters Go.Proofs.Try.prog 112 = true := by kernel_rfl
theorem en_113 : enters Go.Proofs.Try.prog 113 = true := by kernel_rfl
theorem en_114 : enters Go.Proofs.Try.prog 114 = true := by kernel_rfl
theorem en_115 : enters Go.Proofs.Try.prog 115 = true := by kernel_rfl
theorem en_116 : enters Go.Proofs.Try.prog 116 = true := by kernel_rfl
theorem en_117 : enters Go.Proofs.Try.prog 117 = true := by kernel_rfl
theorem en_118 : enters Go.Proofs.Try.prog 118 = true := by kernel_rfl
theorem en_119 : enters Go.Proofs.Try.prog 119 = true := by kernel_rfl
theorem en_120 : enters Go.Proofs.Try.prog 120 = true := by kernel_rfl
theorem en_121 : enters Go.Proofs.Try.prog 121 = true := by kernel_rfl
theorem en_122 : enters Go.Proofs.Try.prog 122 = true := by kernel_rfl
theorem en_125 : enters Go.Proofs.Try.prog 125 = true := by kernel_rfl
theorem en_126 : enters Go.Proofs.Try.prog 126 = true := by kernel_rfl
theorem en_127 : enters Go.Proofs.Try.prog 127 = true := by kernel_rfl
theorem en_128 : enters Go.Proofs.Try.prog 128 = true := by kernel_rfl
theorem en_129 : enters Go.Proofs.Try.prog 129 = true := by kernel_rfl
theorem en_130 : enters Go.Proofs.Try.prog 130 = true := by kernel_rfl
theorem en_131 : enters Go.Proofs.Try.prog 131 = true := by kernel_rfl
theorem en_132 : enters Go.Proofs.Try.prog 132 = true := by kernel_rfl
theorem en_133 : enters Go.Proofs.Try.prog 133 = true := by kernel_rfl
theorem en_134 : enters Go.Proofs.Try.prog 134 = true := by kernel_rfl
theorem en_135 : enters Go.Proofs.Try.prog 135 = true := by kernel_rfl
theorem en_136 : enters Go.Proofs.Try.prog 136 = true := by kernel_rfl
theorem en_137 : enters Go.Proofs.Try.prog 137 = true := by kernel_rfl
theorem en_138 : enters Go.Proofs.Try.prog 138 = true := by kernel_rfl
theorem en_139 : enters Go.Proofs.Try.prog 139 = true := by kernel_rfl
theorem en_140 : enters Go.Proofs.Try.prog 140 = true := by kernel_rfl
theorem en_141 : enters Go.Proofs.Try.prog 141 = true := by kernel_rfl
theorem en_142 : enters Go.Proofs.Try.prog 142 = true := by kernel_rfl
theorem en_143 : enters Go.Proofs.Try.prog 143 = true := by kernel_rfl
theorem en_145 : enters Go.Proofs.Try.prog 145 = true := by kernel_rfl
theorem en_146 : enters Go.Proofs.Try.prog 146 = true := by kernel_rfl
theorem en_147 : enters Go.Proofs.Try.prog 147 = true := by kernel_rfl
theorem en_148 : enters Go.Proofs.Try.prog 148 = true := by kernel_rfl
theorem en_149 : enters Go.Proofs.Try.prog 149 = true := by kernel_rfl
theorem en_150 : enters Go.Proofs.Try.prog 150 = true := by kernel_rfl
theorem en_151 : enters Go.Proofs.Try.prog 151 = true := by kernel_rfl
theorem en_152 : enters Go.Proofs.Try.prog 152 = true := by kernel_rfl
theorem en_153 : enters Go.Proofs.Try.prog 153 = true := by kernel_rfl
theorem en_154 : enters Go.Proofs.Try.prog 154 = true := by kernel_rfl
theorem en_155 : enters Go.Proofs.Try.prog 155 = true := by kernel_rfl
theorem en_156 : enters Go.Proofs.Try.prog 156 = true := by kernel_rfl
theorem en_157 : enters Go.Proofs.Try.prog 157 = true := by kernel_rfl
theorem en_158 : enters Go.Proofs.Try.prog 158 = true := by kernel_rfl
theorem en_159 : enters Go.Proofs.Try.prog 159 = true := by kernel_rfl
theorem en_160 : enters Go.Proofs.Try.prog 160 = true := by kernel_rfl
theorem en_161 : enters Go.Proofs.Try.prog 161 = true := by kernel_rfl
theorem en_162 : enters Go.Proofs.Try.prog 162 = true := by kernel_rfl
theorem en_163 : enters Go.Proofs.Try.prog 163 = true := by kernel_rfl
theorem en_164 : enters Go.Proofs.Try.prog 164 = true := by kernel_rfl
theorem en_165 : enters Go.Proofs.Try.prog 165 = true := by kernel_rfl
theorem en_166 : enters Go.Proofs.Try.prog 166 = true := by kernel_rfl
theorem en_167 : enters Go.Proofs.Try.prog 167 = true := by kernel_rfl
theorem en_168 : enters Go.Proofs.Try.prog 168 = true := by kernel_rfl
theorem en_169 : enters Go.Proofs.Try.prog 169 = true := by kernel_rfl
theorem en_170 : enters Go.Proofs.Try.prog 170 = true := by kernel_rfl
theorem mixed : Go.Proofs.Try.prog.follows .mixedOrders = true := by kernel_rfl
end Go.Vm.T
