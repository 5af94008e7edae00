/- The functions that are called have bodies. -/
import Derived.Test.YtjceoaomkbabmaaProg
import Derived.Test.YtjceoaomkbabmaaVvB
namespace Go.Proofs.Ytjceoaomkbabmaa
open Go Go.VV Go.Proofs
set_option linter.unusedSimpArgs false
set_option linter.unusedVariables false
set_option maxRecDepth 100000
theorem call_10 : callable Try.prog 10 = true := by kernel_rfl
theorem call_11 : callable Try.prog 11 = true := by kernel_rfl
theorem call_12 : callable Try.prog 12 = true := by kernel_rfl
theorem call_13 : callable Try.prog 13 = true := by kernel_rfl
theorem call_14 : callable Try.prog 14 = true := by kernel_rfl
theorem call_15 : callable Try.prog 15 = true := by kernel_rfl
theorem call_16 : callable Try.prog 16 = true := by kernel_rfl
theorem call_17 : callable Try.prog 17 = true := by kernel_rfl
theorem call_18 : callable Try.prog 18 = true := by kernel_rfl
theorem call_19 : callable Try.prog 19 = true := by kernel_rfl
theorem call_29 : callable Try.prog 29 = true := by kernel_rfl
theorem call_30 : callable Try.prog 30 = true := by kernel_rfl
theorem call_31 : callable Try.prog 31 = true := by kernel_rfl
theorem call_32 : callable Try.prog 32 = true := by kernel_rfl
theorem call_33 : callable Try.prog 33 = true := by kernel_rfl
theorem call_34 : callable Try.prog 34 = true := by kernel_rfl
theorem call_35 : callable Try.prog 35 = true := by kernel_rfl
theorem call_37 : callable Try.prog 37 = true := by kernel_rfl
theorem call_40 : callable Try.prog 40 = true := by kernel_rfl
theorem call_42 : callable Try.prog 42 = true := by kernel_rfl
theorem call_43 : callable Try.prog 43 = true := by kernel_rfl
theorem call_44 : callable Try.prog 44 = true := by kernel_rfl
theorem call_45 : callable Try.prog 45 = true := by kernel_rfl
theorem call_46 : callable Try.prog 46 = true := by kernel_rfl
theorem call_47 : callable Try.prog 47 = true := by kernel_rfl
theorem call_48 : callable Try.prog 48 = true := by kernel_rfl
theorem call_49 : callable Try.prog 49 = true := by kernel_rfl
theorem call_50 : callable Try.prog 50 = true := by kernel_rfl
theorem call_51 : callable Try.prog 51 = true := by kernel_rfl
theorem call_52 : callable Try.prog 52 = true := by kernel_rfl
theorem call_53 : callable Try.prog 53 = true := by kernel_rfl
theorem call_54 : callable Try.prog 54 = true := by kernel_rfl
theorem call_55 : callable Try.prog 55 = true := by kernel_rfl
theorem call_56 : callable Try.prog 56 = true := by kernel_rfl
theorem call_57 : callable Try.prog 57 = true := by kernel_rfl
theorem call_58 : callable Try.prog 58 = true := by kernel_rfl
theorem call_59 : callable Try.prog 59 = true := by kernel_rfl
theorem call_60 : callable Try.prog 60 = true := by kernel_rfl
theorem call_61 : callable Try.prog 61 = true := by kernel_rfl
theorem call_62 : callable Try.prog 62 = true := by kernel_rfl
theorem call_63 : callable Try.prog 63 = true := by kernel_rfl
theorem call_64 : callable Try.prog 64 = true := by kernel_rfl
theorem call_65 : callable Try.prog 65 = true := by kernel_rfl
theorem call_66 : callable Try.prog 66 = true := by kernel_rfl
theorem call_67 : callable Try.prog 67 = true := by kernel_rfl
theorem call_68 : callable Try.prog 68 = true := by kernel_rfl
theorem call_69 : callable Try.prog 69 = true := by kernel_rfl
theorem call_70 : callable Try.prog 70 = true := by kernel_rfl
theorem call_71 : callable Try.prog 71 = true := by kernel_rfl
theorem call_72 : callable Try.prog 72 = true := by kernel_rfl
theorem call_73 : callable Try.prog 73 = true := by kernel_rfl
theorem call_74 : callable Try.prog 74 = true := by kernel_rfl
theorem call_75 : callable Try.prog 75 = true := by kernel_rfl
theorem call_76 : callable Try.prog 76 = true := by kernel_rfl
theorem call_77 : callable Try.prog 77 = true := by kernel_rfl
theorem call_78 : callable Try.prog 78 = true := by kernel_rfl
theorem call_79 : callable Try.prog 79 = true := by kernel_rfl
theorem call_80 : callable Try.prog 80 = true := by kernel_rfl
theorem call_81 : callable Try.prog 81 = true := by kernel_rfl
theorem call_82 : callable Try.prog 82 = true := by kernel_rfl
theorem call_83 : callable Try.prog 83 = true := by kernel_rfl
theorem call_84 : callable Try.prog 84 = true := by kernel_rfl
theorem call_85 : callable Try.prog 85 = true := by kernel_rfl
theorem call_86 : callable Try.prog 86 = true := by kernel_rfl
theorem call_88 : callable Try.prog 88 = true := by kernel_rfl
theorem call_89 : callable Try.prog 89 = true := by kernel_rfl

end Go.Proofs.Ytjceoaomkbabmaa
