/- N5: Va Cd Ce Cf Cb Da Db Ck Cg Ch (merged by merge2.py from the working texts). -/
import Derived.Test.YtoeaaemleaogbaaGreatDoorN3
import Derived.Test.YtoeaaemleaogbaaGreatDoorN4
import Derived.Test.YtoeaaemleaogbaaGreatDoorProg
import Derived.KernelRfl
import Derived.RangeFuncBound
import Derived.Shelf.Abstract
import Derived.OwnWalkIn
import Derived.TacticsInMore
import Derived.LoopNIn
import Derived.LoopIn
set_option maxRecDepth 4000
set_option maxHeartbeats 2000000
set_option linter.unusedSimpArgs false
set_option linter.unnecessarySimpa false
set_option linter.unusedVariables false
set_option linter.unusedSectionVars false
set_option maxRecDepth 100000
namespace Uw.Tryz
open Go Uw
abbrev SBs:List Nat:=[22,45,46,77,44,72,73,74,75,76,78,85,86,90,91,92,98,99,100,101,102,107,108,112,113,25,28,29,30,31,32,48,50,52,51,79,54,53]
abbrev t_parse_wrong:TypeId:=101
abbrev n_strings_HasPrefix:FuncId:=70
abbrev n_strings_IndexByte:FuncId:=71
abbrev n_strconv_Atoi:FuncId:=82
abbrev n_law06_CheckCalls:FuncId:=4
def m_law06_CheckCalls:MFun:=⟨102,⟨false,SBs⟩,[(.tmp 2)],
 (.seq (.ops [⟨none,(some 1),(.box (.t 0))⟩,⟨none,(some 2),(.mov (.c (.bool false)))⟩]) (.seq (.ops [⟨none,(some 10),(.call 8 [])⟩,⟨none,(some 3),(.mov (.t 10))⟩]) (.seq (.seq (.ops [⟨none,(some 11),(.load true 3 (.t 1))⟩,⟨none,(some 12),(.call 10 [(.t 11)])⟩,⟨none,(some 13),(.not (.t 12))⟩,⟨none,(some 14),(.mov (.t 13))⟩,⟨(some (14,false)),(some 15),(.load true 3 (.t 1))⟩,⟨(some (14,false)),(some 16),(.call 12 [(.t 15)])⟩,⟨(some (14,false)),(some 17),(.bin .neq (.t 16) (.c (.int .i64 0)))⟩,⟨none,(some 18),(.pick (.t 14) (.c (.bool true)) (.t 17))⟩]) (.cond (.t 18) (.seq (.ops [⟨none,(some 19),(.mov (.t 3))⟩,⟨none,(some 2),(.mov (.t 19))⟩]) .ret) .skip)) (.seq (.ops [⟨none,(some 20),(.load true 3 (.t 1))⟩,⟨none,(some 21),(.call 14 [(.t 20),(.c (.str [109,97,105,110]))])⟩,⟨none,(some 4),(.mov (.t 21))⟩]) (.seq (.seq (.ops [⟨none,(some 22),(.mov (.t 4))⟩,⟨none,(some 23),(.bin .lss (.t 22) (.c (.int .i64 0)))⟩]) (.cond (.t 23) (.seq (.ops [⟨none,(some 2),(.mov (.c (.bool false)))⟩]) .ret) .skip)) (.seq (.seq (.ops [⟨none,(some 24),(.fld 1 (.t 1))⟩,⟨none,(some 25),(.load false 1 (.t 24))⟩,⟨none,(some 26),(.mov (.t 4))⟩,⟨none,(some 27),(.idx 3 (.t 25) (.t 26))⟩,⟨none,(some 28),(.fld 1 (.t 27))⟩,⟨none,(some 29),(.load false 1 (.t 28))⟩,⟨none,(some 30),(.len false (.t 29))⟩,⟨none,(some 31),(.bin .neq (.t 30) (.c (.int .i64 0)))⟩]) (.cond (.t 31) (.seq (.ops [⟨none,(some 2),(.mov (.c (.bool false)))⟩]) .ret) .skip)) (.seq (.seq (.ops [⟨none,(some 5),(.mov (.c (.int .i64 0)))⟩]) (.block 0 (.loop (.seq (.seq (.ops [⟨none,(some 32),(.mov (.t 5))⟩,⟨none,(some 33),(.fld 1 (.t 1))⟩,⟨none,(some 34),(.load false 1 (.t 33))⟩,⟨none,(some 35),(.len false (.t 34))⟩,⟨none,(some 36),(.bin .lss (.t 32) (.t 35))⟩]) (.cond (.t 36) .skip (.exit 0))) (.seq (.block 1 (.seq (.ops [⟨none,(some 39),(.load true 3 (.t 1))⟩,⟨none,(some 40),(.fld 1 (.t 1))⟩,⟨none,(some 41),(.load false 1 (.t 40))⟩,⟨none,(some 42),(.mov (.t 5))⟩,⟨none,(some 43),(.idx 3 (.t 41) (.t 42))⟩,⟨none,(some 44),(.fld 0 (.t 43))⟩,⟨none,(some 45),(.load false 1 (.t 44))⟩,⟨none,(some 46),(.call 14 [(.t 39),(.t 45)])⟩,⟨none,(some 47),(.mov (.t 5))⟩,⟨none,(some 48),(.bin .neq (.t 46) (.t 47))⟩]) (.cond (.t 48) (.seq (.ops [⟨none,(some 2),(.mov (.c (.bool false)))⟩]) .ret) .skip))) (.ops [⟨none,(some 37),(.mov (.t 5))⟩,⟨none,(some 38),(.bin .add (.t 37) (.c (.int .i64 1)))⟩,⟨none,(some 5),(.mov (.t 38))⟩])))))) (.seq (.seq (.ops [⟨none,(some 6),(.mov (.c (.int .i64 0)))⟩]) (.block 2 (.loop (.seq (.seq (.ops [⟨none,(some 49),(.mov (.t 6))⟩,⟨none,(some 50),(.fld 2 (.t 1))⟩,⟨none,(some 51),(.load false 1 (.t 50))⟩,⟨none,(some 52),(.len false (.t 51))⟩,⟨none,(some 53),(.bin .lss (.t 49) (.t 52))⟩]) (.cond (.t 53) .skip (.exit 2))) (.seq (.block 3 (.seq (.ops [⟨none,(some 56),(.fld 2 (.t 1))⟩,⟨none,(some 57),(.load false 1 (.t 56))⟩,⟨none,(some 58),(.mov (.t 6))⟩,⟨none,(some 59),(.idx 5 (.t 57) (.t 58))⟩,⟨none,(some 60),(.load true 5 (.t 59))⟩,⟨none,(some 7),(.alloc [(.int .i64 0),(.int .i64 0),(.str []),(.str []),.nil])⟩,⟨none,none,(.store 5 (.t 7) (.t 60))⟩]) (.seq (.seq (.ops [⟨none,(some 61),(.fld 0 (.t 7))⟩,⟨none,(some 62),(.load false 1 (.t 61))⟩,⟨none,(some 63),(.bin .neq (.t 62) (.c (.int .i64 10)))⟩,⟨none,(some 64),(.mov (.t 63))⟩,⟨(some (64,true)),(some 65),(.fld 0 (.t 7))⟩,⟨(some (64,true)),(some 66),(.load false 1 (.t 65))⟩,⟨(some (64,true)),(some 67),(.bin .neq (.t 66) (.c (.int .i64 11)))⟩,⟨none,(some 68),(.pick (.t 64) (.t 67) (.c (.bool false)))⟩]) (.cond (.t 68) (.exit 3) .skip)) (.seq (.ops [⟨none,(some 69),(.load true 3 (.t 1))⟩,⟨none,(some 70),(.fld 3 (.t 7))⟩,⟨none,(some 71),(.load false 1 (.t 70))⟩,⟨none,(some 72),(.call 14 [(.t 69),(.t 71)])⟩,⟨none,(some 8),(.mov (.t 72))⟩]) (.seq (.seq (.ops [⟨none,(some 73),(.mov (.t 8))⟩,⟨none,(some 74),(.bin .lss (.t 73) (.c (.int .i64 0)))⟩]) (.cond (.t 74) (.seq (.ops [⟨none,(some 2),(.mov (.c (.bool false)))⟩]) .ret) .skip)) (.seq (.ops [⟨none,(some 75),(.fld 1 (.t 1))⟩,⟨none,(some 76),(.load false 1 (.t 75))⟩,⟨none,(some 77),(.mov (.t 8))⟩,⟨none,(some 78),(.idx 3 (.t 76) (.t 77))⟩,⟨none,(some 79),(.fld 1 (.t 78))⟩,⟨none,(some 80),(.load false 1 (.t 79))⟩,⟨none,(some 81),(.len false (.t 80))⟩,⟨none,(some 9),(.mov (.t 81))⟩]) (.seq (.ops [⟨none,(some 82),(.fld 0 (.t 7))⟩,⟨none,(some 83),(.load false 1 (.t 82))⟩,⟨none,(some 84),(.bin .eql (.t 83) (.c (.int .i64 10)))⟩,⟨none,(some 85),(.mov (.t 84))⟩,⟨(some (85,true)),(some 86),(.mov (.t 9))⟩,⟨(some (85,true)),(some 87),(.fld 4 (.t 7))⟩,⟨(some (85,true)),(some 88),(.load false 1 (.t 87))⟩,⟨(some (85,true)),(some 89),(.len false (.t 88))⟩,⟨(some (85,true)),(some 90),(.bin .neq (.t 86) (.t 89))⟩,⟨none,(some 91),(.pick (.t 85) (.t 90) (.c (.bool false)))⟩,⟨none,(some 92),(.mov (.t 91))⟩,⟨(some (92,false)),(some 93),(.fld 0 (.t 7))⟩,⟨(some (92,false)),(some 94),(.load false 1 (.t 93))⟩,⟨(some (92,false)),(some 95),(.bin .eql (.t 94) (.c (.int .i64 11)))⟩,⟨(some (92,false)),(some 96),(.mov (.t 95))⟩,⟨(some (96,true)),(some 97),(.mov (.t 9))⟩,⟨(some (96,true)),(some 98),(.bin .neq (.t 97) (.c (.int .i64 1)))⟩,⟨(some (92,false)),(some 99),(.pick (.t 96) (.t 98) (.c (.bool false)))⟩,⟨none,(some 100),(.pick (.t 92) (.c (.bool true)) (.t 99))⟩]) (.cond (.t 100) (.seq (.ops [⟨none,(some 2),(.mov (.c (.bool false)))⟩]) .ret) .skip)))))))) (.ops [⟨none,(some 54),(.mov (.t 6))⟩,⟨none,(some 55),(.bin .add (.t 54) (.c (.int .i64 1)))⟩,⟨none,(some 6),(.mov (.t 55))⟩])))))) (.seq (.ops [⟨none,(some 101),(.mov (.t 3))⟩,⟨none,(some 2),(.mov (.t 101))⟩]) .ret)))))))))⟩
theorem is_law06_CheckCalls:IsFun Go.Proofs.Tryz.prog n_law06_CheckCalls m_law06_CheckCalls:=isFun_ok (by kernel_rfl)
abbrev n_law06_CheckNames:FuncId:=5
def m_law06_CheckNames:MFun:=⟨93,⟨false,SBs⟩,[(.tmp 2)],
 (.seq (.ops [⟨none,(some 1),(.box (.t 0))⟩,⟨none,(some 2),(.mov (.c (.bool false)))⟩]) (.seq (.ops [⟨none,(some 11),(.call 8 [])⟩,⟨none,(some 3),(.mov (.t 11))⟩]) (.seq (.seq (.ops [⟨none,(some 12),(.load true 3 (.t 1))⟩,⟨none,(some 13),(.call 10 [(.t 12)])⟩,⟨none,(some 14),(.not (.t 13))⟩,⟨none,(some 15),(.mov (.t 14))⟩,⟨(some (15,false)),(some 16),(.load true 3 (.t 1))⟩,⟨(some (15,false)),(some 17),(.call 12 [(.t 16)])⟩,⟨(some (15,false)),(some 18),(.bin .neq (.t 17) (.c (.int .i64 0)))⟩,⟨none,(some 19),(.pick (.t 15) (.c (.bool true)) (.t 18))⟩]) (.cond (.t 19) (.seq (.ops [⟨none,(some 20),(.mov (.t 3))⟩,⟨none,(some 2),(.mov (.t 20))⟩]) .ret) .skip)) (.seq (.seq (.ops [⟨none,(some 4),(.mov (.c (.int .i64 0)))⟩]) (.block 0 (.loop (.seq (.seq (.ops [⟨none,(some 21),(.mov (.t 4))⟩,⟨none,(some 22),(.fld 2 (.t 1))⟩,⟨none,(some 23),(.load false 1 (.t 22))⟩,⟨none,(some 24),(.len false (.t 23))⟩,⟨none,(some 25),(.bin .lss (.t 21) (.t 24))⟩]) (.cond (.t 25) .skip (.exit 0))) (.seq (.block 1 (.seq (.ops [⟨none,(some 28),(.fld 2 (.t 1))⟩,⟨none,(some 29),(.load false 1 (.t 28))⟩,⟨none,(some 30),(.mov (.t 4))⟩,⟨none,(some 31),(.idx 5 (.t 29) (.t 30))⟩,⟨none,(some 32),(.load true 5 (.t 31))⟩,⟨none,(some 5),(.alloc [(.int .i64 0),(.int .i64 0),(.str []),(.str []),.nil])⟩,⟨none,none,(.store 5 (.t 5) (.t 32))⟩]) (.seq (.ops [⟨none,(some 6),(.mov (.c (.int .i64 (-1))))⟩]) (.seq (.seq (.ops [⟨none,(some 7),(.mov (.c (.int .i64 0)))⟩]) (.block 2 (.loop (.seq (.seq (.ops [⟨none,(some 33),(.mov (.t 7))⟩,⟨none,(some 34),(.fld 0 (.t 1))⟩,⟨none,(some 35),(.load false 1 (.t 34))⟩,⟨none,(some 36),(.len false (.t 35))⟩,⟨none,(some 37),(.bin .lss (.t 33) (.t 36))⟩]) (.cond (.t 37) .skip (.exit 2))) (.seq (.block 3 (.seq (.ops [⟨none,(some 40),(.fld 0 (.t 1))⟩,⟨none,(some 41),(.load false 1 (.t 40))⟩,⟨none,(some 42),(.mov (.t 7))⟩,⟨none,(some 43),(.idx 3 (.t 41) (.t 42))⟩,⟨none,(some 44),(.fld 1 (.t 43))⟩,⟨none,(some 45),(.load false 1 (.t 44))⟩,⟨none,(some 46),(.fld 2 (.t 5))⟩,⟨none,(some 47),(.load false 1 (.t 46))⟩,⟨none,(some 48),(.bin .eql (.t 45) (.t 47))⟩]) (.cond (.t 48) (.ops [⟨none,(some 49),(.fld 0 (.t 1))⟩,⟨none,(some 50),(.load false 1 (.t 49))⟩,⟨none,(some 51),(.mov (.t 7))⟩,⟨none,(some 52),(.idx 3 (.t 50) (.t 51))⟩,⟨none,(some 53),(.fld 0 (.t 52))⟩,⟨none,(some 54),(.load false 1 (.t 53))⟩,⟨none,(some 6),(.mov (.t 54))⟩]) .skip))) (.ops [⟨none,(some 38),(.mov (.t 7))⟩,⟨none,(some 39),(.bin .add (.t 38) (.c (.int .i64 1)))⟩,⟨none,(some 7),(.mov (.t 39))⟩])))))) (.seq (.seq (.ops [⟨none,(some 55),(.fld 0 (.t 5))⟩,⟨none,(some 56),(.load false 1 (.t 55))⟩,⟨none,(some 57),(.bin .eql (.t 56) (.c (.int .i64 8)))⟩,⟨none,(some 58),(.mov (.t 57))⟩,⟨(some (58,true)),(some 59),(.mov (.t 6))⟩,⟨(some (58,true)),(some 60),(.bin .lss (.t 59) (.c (.int .i64 1)))⟩,⟨none,(some 61),(.pick (.t 58) (.t 60) (.c (.bool false)))⟩]) (.cond (.t 61) (.seq (.ops [⟨none,(some 2),(.mov (.c (.bool false)))⟩]) .ret) .skip)) (.seq (.seq (.ops [⟨none,(some 62),(.fld 0 (.t 5))⟩,⟨none,(some 63),(.load false 1 (.t 62))⟩,⟨none,(some 64),(.bin .neq (.t 63) (.c (.int .i64 2)))⟩,⟨none,(some 65),(.mov (.t 64))⟩,⟨(some (65,false)),(some 66),(.mov (.t 6))⟩,⟨(some (65,false)),(some 67),(.bin .eql (.t 66) (.c (.int .i64 0)))⟩,⟨none,(some 68),(.pick (.t 65) (.c (.bool true)) (.t 67))⟩]) (.cond (.t 68) (.exit 1) .skip)) (.seq (.ops [⟨none,(some 8),(.mov (.c (.bool false)))⟩]) (.seq (.seq (.ops [⟨none,(some 9),(.mov (.c (.int .i64 0)))⟩]) (.block 4 (.loop (.seq (.seq (.ops [⟨none,(some 69),(.mov (.t 9))⟩,⟨none,(some 70),(.fld 1 (.t 1))⟩,⟨none,(some 71),(.load false 1 (.t 70))⟩,⟨none,(some 72),(.len false (.t 71))⟩,⟨none,(some 73),(.bin .lss (.t 69) (.t 72))⟩]) (.cond (.t 73) .skip (.exit 4))) (.seq (.block 5 (.seq (.ops [⟨none,(some 76),(.load true 3 (.t 1))⟩,⟨none,(some 77),(.mov (.t 9))⟩,⟨none,(some 78),(.call 16 [(.t 76),(.t 77)])⟩,⟨none,(some 79),(.fld 2 (.t 5))⟩,⟨none,(some 80),(.load false 1 (.t 79))⟩,⟨none,(some 81),(.call 15 [(.t 78),(.t 80)])⟩,⟨none,(some 10),(.mov (.t 81))⟩]) (.ops [⟨none,(some 82),(.mov (.t 8))⟩,⟨none,(some 83),(.mov (.t 82))⟩,⟨(some (83,false)),(some 84),(.mov (.t 10))⟩,⟨none,(some 85),(.pick (.t 83) (.c (.bool true)) (.t 84))⟩,⟨none,(some 8),(.mov (.t 85))⟩]))) (.ops [⟨none,(some 74),(.mov (.t 9))⟩,⟨none,(some 75),(.bin .add (.t 74) (.c (.int .i64 1)))⟩,⟨none,(some 9),(.mov (.t 75))⟩])))))) (.seq (.ops [⟨none,(some 86),(.mov (.t 8))⟩,⟨none,(some 87),(.not (.t 86))⟩,⟨none,(some 88),(.mov (.t 87))⟩,⟨(some (88,false)),(some 89),(.mov (.t 6))⟩,⟨(some (88,false)),(some 90),(.bin .geq (.t 89) (.c (.int .i64 0)))⟩,⟨none,(some 91),(.pick (.t 88) (.c (.bool true)) (.t 90))⟩]) (.cond (.t 91) (.seq (.ops [⟨none,(some 2),(.mov (.c (.bool false)))⟩]) .ret) .skip)))))))))) (.ops [⟨none,(some 26),(.mov (.t 4))⟩,⟨none,(some 27),(.bin .add (.t 26) (.c (.int .i64 1)))⟩,⟨none,(some 4),(.mov (.t 27))⟩])))))) (.seq (.ops [⟨none,(some 92),(.mov (.t 3))⟩,⟨none,(some 2),(.mov (.t 92))⟩]) .ret)))))⟩
theorem is_law06_CheckNames:IsFun Go.Proofs.Tryz.prog n_law06_CheckNames m_law06_CheckNames:=isFun_ok (by kernel_rfl)
abbrev n_law06_CheckLocals:FuncId:=6
def m_law06_CheckLocals:MFun:=⟨109,⟨false,SBs⟩,[(.tmp 4)],
 (.seq (.ops [⟨none,(some 2),(.box (.t 0))⟩,⟨none,(some 4),(.mov (.c (.bool false)))⟩]) (.seq (.ops [⟨none,(some 12),(.call 8 [])⟩,⟨none,(some 5),(.mov (.t 12))⟩]) (.seq (.seq (.ops [⟨none,(some 13),(.load true 3 (.t 2))⟩,⟨none,(some 14),(.call 10 [(.t 13)])⟩,⟨none,(some 15),(.not (.t 14))⟩,⟨none,(some 16),(.mov (.t 15))⟩,⟨(some (16,false)),(some 17),(.fld 1 (.t 2))⟩,⟨(some (16,false)),(some 18),(.load false 1 (.t 17))⟩,⟨(some (16,false)),(some 19),(.len false (.t 18))⟩,⟨(some (16,false)),(some 20),(.bin .eql (.t 19) (.c (.int .i64 0)))⟩,⟨none,(some 21),(.pick (.t 16) (.c (.bool true)) (.t 20))⟩,⟨none,(some 22),(.mov (.t 21))⟩,⟨(some (22,false)),(some 23),(.load true 3 (.t 2))⟩,⟨(some (22,false)),(some 24),(.call 12 [(.t 23)])⟩,⟨(some (22,false)),(some 25),(.bin .neq (.t 24) (.c (.int .i64 0)))⟩,⟨none,(some 26),(.pick (.t 22) (.c (.bool true)) (.t 25))⟩]) (.cond (.t 26) (.seq (.ops [⟨none,(some 27),(.mov (.t 5))⟩,⟨none,(some 4),(.mov (.t 27))⟩]) .ret) .skip)) (.seq (.ops [⟨none,(some 28),(.mov (.t 1))⟩,⟨none,(some 29),(.conv .i64 (.t 28))⟩,⟨none,(some 30),(.fld 1 (.t 2))⟩,⟨none,(some 31),(.load false 1 (.t 30))⟩,⟨none,(some 32),(.len false (.t 31))⟩,⟨none,(some 33),(.bin .rem (.t 29) (.t 32))⟩,⟨none,(some 6),(.mov (.t 33))⟩]) (.seq (.ops [⟨none,(some 34),(.load true 3 (.t 2))⟩,⟨none,(some 35),(.mov (.t 6))⟩,⟨none,(some 36),(.call 16 [(.t 34),(.t 35)])⟩,⟨none,(some 7),(.mov (.t 36))⟩]) (.seq (.ops [⟨none,(some 37),(.fld 1 (.t 2))⟩,⟨none,(some 38),(.load false 1 (.t 37))⟩,⟨none,(some 39),(.mov (.t 6))⟩,⟨none,(some 40),(.idx 3 (.t 38) (.t 39))⟩,⟨none,(some 41),(.fld 1 (.t 40))⟩,⟨none,(some 42),(.load false 1 (.t 41))⟩,⟨none,(some 8),(.mov (.t 42))⟩]) (.seq (.seq (.ops [⟨none,(some 43),(.mov (.t 7))⟩,⟨none,(some 44),(.len false (.t 43))⟩,⟨none,(some 45),(.mov (.t 8))⟩,⟨none,(some 46),(.len false (.t 45))⟩,⟨none,(some 47),(.bin .lss (.t 44) (.t 46))⟩,⟨none,(some 48),(.mov (.t 47))⟩,⟨(some (48,false)),(some 49),(.mov (.t 7))⟩,⟨(some (48,false)),(some 50),(.len false (.t 49))⟩,⟨(some (48,false)),(some 51),(.bin .gtr (.t 50) (.c (.int .i64 16)))⟩,⟨none,(some 52),(.pick (.t 48) (.c (.bool true)) (.t 51))⟩]) (.cond (.t 52) (.seq (.ops [⟨none,(some 4),(.mov (.c (.bool false)))⟩]) .ret) .skip)) (.seq (.seq (.ops [⟨none,(some 9),(.mov (.c (.int .i64 0)))⟩]) (.block 0 (.loop (.seq (.seq (.ops [⟨none,(some 53),(.mov (.t 9))⟩,⟨none,(some 54),(.mov (.t 7))⟩,⟨none,(some 55),(.len false (.t 54))⟩,⟨none,(some 56),(.bin .lss (.t 53) (.t 55))⟩]) (.cond (.t 56) .skip (.exit 0))) (.seq (.block 1 (.seq (.ops [⟨none,(some 59),(.mov (.t 7))⟩,⟨none,(some 60),(.mov (.t 9))⟩,⟨none,(some 61),(.sl 1 (.t 59) none (some (.t 60)))⟩,⟨none,(some 62),(.mov (.t 7))⟩,⟨none,(some 63),(.mov (.t 9))⟩,⟨none,(some 64),(.idx 1 (.t 62) (.t 63))⟩,⟨none,(some 65),(.load false 1 (.t 64))⟩,⟨none,(some 66),(.call 15 [(.t 61),(.t 65)])⟩,⟨none,(some 10),(.mov (.t 66))⟩]) (.seq (.seq (.ops [⟨none,(some 67),(.mov (.t 10))⟩,⟨none,(some 68),(.mov (.t 67))⟩,⟨(some (68,false)),(some 69),(.mov (.t 9))⟩,⟨(some (68,false)),(some 70),(.mov (.t 8))⟩,⟨(some (68,false)),(some 71),(.len false (.t 70))⟩,⟨(some (68,false)),(some 72),(.bin .lss (.t 69) (.t 71))⟩,⟨(some (68,false)),(some 73),(.mov (.t 72))⟩,⟨(some (73,true)),(some 74),(.mov (.t 7))⟩,⟨(some (73,true)),(some 75),(.mov (.t 9))⟩,⟨(some (73,true)),(some 76),(.idx 1 (.t 74) (.t 75))⟩,⟨(some (73,true)),(some 77),(.load false 1 (.t 76))⟩,⟨(some (73,true)),(some 78),(.mov (.t 8))⟩,⟨(some (73,true)),(some 79),(.mov (.t 9))⟩,⟨(some (73,true)),(some 80),(.mov (.t 8))⟩,⟨(some (73,true)),(some 81),(.len false (.t 80))⟩,⟨(some (73,true)),(some 82),(.bin .sub (.t 81) (.c (.int .i64 1)))⟩,⟨(some (73,true)),(some 83),(.mm true (.c (.int .i64 0)) (.t 82))⟩,⟨(some (73,true)),(some 84),(.mm false (.t 79) (.t 83))⟩,⟨(some (73,true)),(some 85),(.idx 1 (.t 78) (.t 84))⟩,⟨(some (73,true)),(some 86),(.load false 1 (.t 85))⟩,⟨(some (73,true)),(some 87),(.bin .neq (.t 77) (.t 86))⟩,⟨(some (68,false)),(some 88),(.pick (.t 73) (.t 87) (.c (.bool false)))⟩,⟨none,(some 89),(.pick (.t 68) (.c (.bool true)) (.t 88))⟩]) (.cond (.t 89) (.seq (.ops [⟨none,(some 4),(.mov (.c (.bool false)))⟩]) .ret) .skip)) (.seq (.ops [⟨none,(some 11),(.mov (.c (.int .i64 0)))⟩]) (.block 2 (.loop (.seq (.seq (.ops [⟨none,(some 90),(.mov (.t 11))⟩,⟨none,(some 91),(.fld 0 (.t 2))⟩,⟨none,(some 92),(.load false 1 (.t 91))⟩,⟨none,(some 93),(.len false (.t 92))⟩,⟨none,(some 94),(.bin .lss (.t 90) (.t 93))⟩]) (.cond (.t 94) .skip (.exit 2))) (.seq (.block 3 (.seq (.ops [⟨none,(some 97),(.fld 0 (.t 2))⟩,⟨none,(some 98),(.load false 1 (.t 97))⟩,⟨none,(some 99),(.mov (.t 11))⟩,⟨none,(some 100),(.idx 3 (.t 98) (.t 99))⟩,⟨none,(some 101),(.fld 1 (.t 100))⟩,⟨none,(some 102),(.load false 1 (.t 101))⟩,⟨none,(some 103),(.mov (.t 7))⟩,⟨none,(some 104),(.mov (.t 9))⟩,⟨none,(some 105),(.idx 1 (.t 103) (.t 104))⟩,⟨none,(some 106),(.load false 1 (.t 105))⟩,⟨none,(some 107),(.bin .eql (.t 102) (.t 106))⟩]) (.cond (.t 107) (.seq (.ops [⟨none,(some 4),(.mov (.c (.bool false)))⟩]) .ret) .skip))) (.ops [⟨none,(some 95),(.mov (.t 11))⟩,⟨none,(some 96),(.bin .add (.t 95) (.c (.int .i64 1)))⟩,⟨none,(some 11),(.mov (.t 96))⟩]))))))))) (.ops [⟨none,(some 57),(.mov (.t 9))⟩,⟨none,(some 58),(.bin .add (.t 57) (.c (.int .i64 1)))⟩,⟨none,(some 9),(.mov (.t 58))⟩])))))) (.seq (.ops [⟨none,(some 108),(.mov (.t 5))⟩,⟨none,(some 4),(.mov (.t 108))⟩]) .ret)))))))))⟩
theorem is_law06_CheckLocals:IsFun Go.Proofs.Tryz.prog n_law06_CheckLocals m_law06_CheckLocals:=isFun_ok (by kernel_rfl)
abbrev n_law06_CheckTree:FuncId:=7
def m_law06_CheckTree:MFun:=⟨72,⟨false,SBs⟩,[(.tmp 4)],
 (.seq (.ops [⟨none,(some 2),(.box (.t 0))⟩,⟨none,(some 4),(.mov (.c (.bool false)))⟩]) (.seq (.ops [⟨none,(some 9),(.call 8 [])⟩,⟨none,(some 5),(.mov (.t 9))⟩]) (.seq (.seq (.ops [⟨none,(some 10),(.load true 3 (.t 2))⟩,⟨none,(some 11),(.call 10 [(.t 10)])⟩,⟨none,(some 12),(.not (.t 11))⟩,⟨none,(some 13),(.mov (.t 12))⟩,⟨(some (13,false)),(some 14),(.fld 2 (.t 2))⟩,⟨(some (13,false)),(some 15),(.load false 1 (.t 14))⟩,⟨(some (13,false)),(some 16),(.len false (.t 15))⟩,⟨(some (13,false)),(some 17),(.bin .eql (.t 16) (.c (.int .i64 0)))⟩,⟨none,(some 18),(.pick (.t 13) (.c (.bool true)) (.t 17))⟩,⟨none,(some 19),(.mov (.t 18))⟩,⟨(some (19,false)),(some 20),(.load true 3 (.t 2))⟩,⟨(some (19,false)),(some 21),(.call 11 [(.t 20)])⟩,⟨(some (19,false)),(some 22),(.not (.t 21))⟩,⟨none,(some 23),(.pick (.t 19) (.c (.bool true)) (.t 22))⟩]) (.cond (.t 23) (.seq (.ops [⟨none,(some 24),(.mov (.t 5))⟩,⟨none,(some 4),(.mov (.t 24))⟩]) .ret) .skip)) (.seq (.ops [⟨none,(some 25),(.load true 3 (.t 2))⟩,⟨none,(some 6),(.alloc [.nil,.nil,.nil])⟩,⟨none,none,(.store 3 (.t 6) (.t 25))⟩]) (.seq (.ops [⟨none,(some 26),(.bslice 5 0 [(.int .i64 0),(.int .i64 0),(.str []),(.str []),.nil] [])⟩,⟨none,(some 27),(.fld 2 (.t 2))⟩,⟨none,(some 28),(.load false 1 (.t 27))⟩,⟨none,(some 29),(.app false 5 72 (.t 26) (.t 28))⟩,⟨none,(some 30),(.build [(.int .i64 0),(.int .i64 0),(.str []),(.str []),.nil] [(0,(1,(.c (.int .i64 12))))])⟩,⟨none,(some 31),(.bslice 5 1 [(.int .i64 0),(.int .i64 0),(.str []),(.str []),.nil] [(0,(.t 30))])⟩,⟨none,(some 32),(.app false 5 72 (.t 29) (.t 31))⟩,⟨none,(some 33),(.fld 2 (.t 6))⟩,⟨none,none,(.store 1 (.t 33) (.t 32))⟩]) (.seq (.ops [⟨none,(some 34),(.mov (.t 1))⟩,⟨none,(some 35),(.conv .i64 (.t 34))⟩,⟨none,(some 36),(.fld 2 (.t 2))⟩,⟨none,(some 37),(.load false 1 (.t 36))⟩,⟨none,(some 38),(.len false (.t 37))⟩,⟨none,(some 39),(.bin .rem (.t 35) (.t 38))⟩,⟨none,(some 7),(.mov (.t 39))⟩]) (.seq (.ops [⟨none,(some 40),(.load true 3 (.t 2))⟩,⟨none,(some 8),(.alloc [.nil,.nil,.nil])⟩,⟨none,none,(.store 3 (.t 8) (.t 40))⟩]) (.seq (.ops [⟨none,(some 41),(.bslice 5 0 [(.int .i64 0),(.int .i64 0),(.str []),(.str []),.nil] [])⟩,⟨none,(some 42),(.fld 2 (.t 2))⟩,⟨none,(some 43),(.load false 1 (.t 42))⟩,⟨none,(some 44),(.app false 5 72 (.t 41) (.t 43))⟩,⟨none,(some 45),(.mov (.t 7))⟩,⟨none,(some 46),(.bslice 1 1 [(.int .i64 0)] [(0,(.t 45))])⟩,⟨none,(some 47),(.build [(.int .i64 0),(.int .i64 0),(.str []),(.str []),.nil] [(0,(1,(.c (.int .i64 18)))),(4,(1,(.t 46)))])⟩,⟨none,(some 48),(.bslice 5 1 [(.int .i64 0),(.int .i64 0),(.str []),(.str []),.nil] [(0,(.t 47))])⟩,⟨none,(some 49),(.app false 5 72 (.t 44) (.t 48))⟩,⟨none,(some 50),(.fld 2 (.t 8))⟩,⟨none,none,(.store 1 (.t 50) (.t 49))⟩]) (.seq (.ops [⟨none,(some 51),(.mov (.t 5))⟩,⟨none,(some 52),(.mov (.t 51))⟩,⟨(some (52,true)),(some 53),(.load true 3 (.t 6))⟩,⟨(some (52,true)),(some 54),(.call 11 [(.t 53)])⟩,⟨(some (52,true)),(some 55),(.not (.t 54))⟩,⟨none,(some 56),(.pick (.t 52) (.t 55) (.c (.bool false)))⟩,⟨none,(some 57),(.mov (.t 56))⟩,⟨(some (57,true)),(some 58),(.load true 3 (.t 8))⟩,⟨(some (57,true)),(some 59),(.call 11 [(.t 58)])⟩,⟨(some (57,true)),(some 60),(.not (.t 59))⟩,⟨none,(some 61),(.pick (.t 57) (.t 60) (.c (.bool false)))⟩,⟨none,(some 62),(.mov (.t 61))⟩,⟨(some (62,true)),(some 63),(.load true 3 (.t 6))⟩,⟨(some (62,true)),(some 64),(.call 12 [(.t 63)])⟩,⟨(some (62,true)),(some 65),(.bin .eql (.t 64) (.c (.int .i64 1)))⟩,⟨none,(some 66),(.pick (.t 62) (.t 65) (.c (.bool false)))⟩,⟨none,(some 67),(.mov (.t 66))⟩,⟨(some (67,true)),(some 68),(.load true 3 (.t 8))⟩,⟨(some (67,true)),(some 69),(.call 12 [(.t 68)])⟩,⟨(some (67,true)),(some 70),(.bin .eql (.t 69) (.c (.int .i64 1)))⟩,⟨none,(some 71),(.pick (.t 67) (.t 70) (.c (.bool false)))⟩,⟨none,(some 4),(.mov (.t 71))⟩]) .ret)))))))))⟩
theorem is_law06_CheckTree:IsFun Go.Proofs.Tryz.prog n_law06_CheckTree m_law06_CheckTree:=isFun_ok (by kernel_rfl)
abbrev n_law06_awake:FuncId:=8
def m_law06_awake:MFun:=⟨45,⟨false,SBs⟩,[(.tmp 0)],
 (.seq (.ops [⟨none,(some 0),(.mov (.c (.bool false)))⟩]) (.seq (.ops [⟨none,(some 4),(.call 9 [(.c (.str [99,101,108,108,32,99,59,32,102,117,110,99,32,102,40,97,44,32,98,41,32,123,32,98,32,61,32,97,59,32,120,32,61,32,115,112,97,119,110,32,102,40,49,44,32,99,41,59,32,114,101,116,117,114,110,32,120,59,32,125,32,102,117,110,99,32,109,97,105,110,40,41,32,123,125]))])⟩,⟨none,(some 3),(.mov (.t 4))⟩,⟨none,(some 5),(.ext (.t 3) 0)⟩,⟨none,(some 6),(.ext (.t 3) 1)⟩,⟨none,(some 1),(.alloc [.nil,.nil,.nil])⟩,⟨none,none,(.store 3 (.t 1) (.t 5))⟩,⟨none,(some 2),(.mov (.t 6))⟩]) (.seq (.ops [⟨none,(some 7),(.mov (.t 2))⟩,⟨none,(some 8),(.bin .eql (.t 7) (.c (.int .i64 0)))⟩,⟨none,(some 9),(.mov (.t 8))⟩,⟨(some (9,true)),(some 10),(.call 17 [(.c (.str [99,101,108,108,32,99,59,32,102,117,110,99,32,109,97,105,110,40,41,32,123,32,99,32,61,32,120,59,32,125]))])⟩,⟨(some (9,true)),(some 11),(.bin .eql (.t 10) (.c (.int .i64 4)))⟩,⟨none,(some 12),(.pick (.t 9) (.t 11) (.c (.bool false)))⟩,⟨none,(some 13),(.mov (.t 12))⟩,⟨(some (13,true)),(some 14),(.call 17 [(.c (.str [99,101,108,108,32,99,59,32,102,117,110,99,32,109,97,105,110,40,41,32,123,32,99,32,61,32,120,59,32,120,32,61,32,49,59,32,125]))])⟩,⟨(some (13,true)),(some 15),(.bin .eql (.t 14) (.c (.int .i64 0)))⟩,⟨none,(some 16),(.pick (.t 13) (.t 15) (.c (.bool false)))⟩,⟨none,(some 17),(.mov (.t 16))⟩,⟨(some (17,true)),(some 18),(.call 17 [(.c (.str [109,97,112,32,109,59,32,102,117,110,99,32,109,97,105,110,40,41,32,123,32,109,46,112,117,115,104,40,49,41,59,32,125]))])⟩,⟨(some (17,true)),(some 19),(.bin .eql (.t 18) (.c (.int .i64 6)))⟩,⟨none,(some 20),(.pick (.t 17) (.t 19) (.c (.bool false)))⟩,⟨none,(some 21),(.mov (.t 20))⟩,⟨(some (21,true)),(some 22),(.call 17 [(.c (.str [102,117,110,99,32,109,97,105,110,40,97,41,32,123,125]))])⟩,⟨(some (21,true)),(some 23),(.bin .eql (.t 22) (.c (.int .i64 7)))⟩,⟨none,(some 24),(.pick (.t 21) (.t 23) (.c (.bool false)))⟩,⟨none,(some 25),(.mov (.t 24))⟩,⟨(some (25,true)),(some 26),(.call 17 [(.c (.str [99,101,108,108,32,99,59,32,99,101,108,108,32,99,59,32,102,117,110,99,32,109,97,105,110,40,41,32,123,125]))])⟩,⟨(some (25,true)),(some 27),(.bin .eql (.t 26) (.c (.int .i64 5)))⟩,⟨none,(some 28),(.pick (.t 25) (.t 27) (.c (.bool false)))⟩,⟨none,(some 29),(.mov (.t 28))⟩,⟨(some (29,true)),(some 30),(.load true 3 (.t 1))⟩,⟨(some (29,true)),(some 31),(.call 11 [(.t 30)])⟩,⟨none,(some 32),(.pick (.t 29) (.t 31) (.c (.bool false)))⟩,⟨none,(some 33),(.mov (.t 32))⟩,⟨(some (33,true)),(some 34),(.load true 3 (.t 1))⟩,⟨(some (33,true)),(some 35),(.call 16 [(.t 34),(.c (.int .i64 0))])⟩,⟨(some (33,true)),(some 36),(.bslice 1 3 [(.str [])] [(0,(.c (.str [97]))),(1,(.c (.str [98]))),(2,(.c (.str [120])))])⟩,⟨(some (33,true)),(some 37),(.call 18 [(.t 35),(.t 36)])⟩,⟨none,(some 38),(.pick (.t 33) (.t 37) (.c (.bool false)))⟩,⟨none,(some 39),(.mov (.t 38))⟩,⟨(some (39,true)),(some 40),(.load true 3 (.t 1))⟩,⟨(some (39,true)),(some 41),(.call 16 [(.t 40),(.c (.int .i64 1))])⟩,⟨(some (39,true)),(some 42),(.len false (.t 41))⟩,⟨(some (39,true)),(some 43),(.bin .eql (.t 42) (.c (.int .i64 0)))⟩,⟨none,(some 44),(.pick (.t 39) (.t 43) (.c (.bool false)))⟩,⟨none,(some 0),(.mov (.t 44))⟩]) .ret)))⟩
theorem is_law06_awake:IsFun Go.Proofs.Tryz.prog n_law06_awake m_law06_awake:=isFun_ok (by kernel_rfl)
abbrev n_parse_Of:FuncId:=9
def m_parse_Of:MFun:=⟨23,⟨false,SBs⟩,[(.cell 2 true 3),(.cell 3 false 1)],
 (.seq (.ops [⟨none,(some 2),(.alloc [.nil,.nil,.nil])⟩,⟨none,(some 3),(.alloc [(.int .i64 0)])⟩]) (.seq (.ops [⟨none,(some 7),(.mov (.t 0))⟩,⟨none,(some 8),(.call 19 [(.t 7)])⟩,⟨none,(some 6),(.mov (.t 8))⟩,⟨none,(some 9),(.ext (.t 6) 0)⟩,⟨none,(some 10),(.ext (.t 6) 1)⟩,⟨none,(some 4),(.mov (.t 9))⟩,⟨none,none,(.store 1 (.t 3) (.t 10))⟩]) (.seq (.seq (.ops [⟨none,(some 11),(.load false 1 (.t 3))⟩,⟨none,(some 12),(.bin .neq (.t 11) (.c (.int .i64 0)))⟩]) (.cond (.t 12) (.seq (.draw 2 [⟨⟨none,(some 13),(.build [.nil,.nil,.nil] [])⟩,[],false⟩,⟨⟨none,(some 14),(.load false 1 (.t 3))⟩,[],false⟩,⟨⟨none,none,(.store 3 (.t 2) (.t 13))⟩,[0,0],true⟩,⟨⟨none,none,(.store 1 (.t 3) (.t 14))⟩,[1,2,0,1,2],true⟩]) .ret) .skip)) (.seq (.seq (.ops [⟨none,(some 15),(.mov (.t 4))⟩,⟨none,(some 16),(.call 20 [(.t 15)])⟩,⟨none,(some 17),(.bin .gtr (.t 16) (.c (.int .i64 40)))⟩]) (.cond (.t 17) (.seq (.ops [⟨none,(some 18),(.build [.nil,.nil,.nil] [])⟩,⟨none,none,(.store 3 (.t 2) (.t 18))⟩,⟨none,none,(.store 1 (.t 3) (.c (.int .i64 2)))⟩]) .ret) .skip)) (.seq (.ops [⟨none,(some 19),(.mkfn 21 [] [(.t 2),(.t 3)])⟩,⟨none,none,(.defer (.t 19) [])⟩]) (.seq (.ops [⟨none,(some 20),(.mov (.t 4))⟩,⟨none,(some 21),(.build [.nil,(.int .i64 0),.nil] [(0,(1,(.t 20)))])⟩,⟨none,(some 5),(.alloc [.nil,(.int .i64 0),.nil])⟩,⟨none,none,(.store 3 (.t 5) (.t 21))⟩]) (.seq (.ops [⟨none,(some 22),(.sub 22 [(.t 5)])⟩,⟨none,none,(.store 3 (.t 2) (.t 22))⟩,⟨none,none,(.store 1 (.t 3) (.c (.int .i64 0)))⟩]) .ret)))))))⟩
theorem is_parse_Of:IsFun Go.Proofs.Tryz.prog n_parse_Of m_parse_Of:=isFun_ok (by kernel_rfl)
abbrev n_law06_few:FuncId:=10
def m_law06_few:MFun:=⟨5,⟨false,SBs⟩,[(.tmp 2)],
 (.seq (.ops [⟨none,(some 1),(.box (.t 0))⟩,⟨none,(some 2),(.mov (.c (.bool false)))⟩]) (.seq (.ops [⟨none,(some 3),(.load true 3 (.t 1))⟩,⟨none,(some 4),(.call 23 [(.t 3)])⟩,⟨none,(some 2),(.mov (.t 4))⟩]) .ret))⟩
theorem is_law06_few:IsFun Go.Proofs.Tryz.prog n_law06_few m_law06_few:=isFun_ok (by kernel_rfl)
abbrev n_check_Formed:FuncId:=11
def m_check_Formed:MFun:=⟨96,⟨true,SBs⟩,[(.tmp 2)],
 (.seq (.ops [⟨none,(some 1),(.box (.t 0))⟩,⟨none,(some 2),(.mov (.c (.bool false)))⟩]) (.seq (.ops [⟨none,(some 12),(.fld 2 (.t 1))⟩,⟨none,(some 13),(.load false 1 (.t 12))⟩,⟨none,(some 14),(.len false (.t 13))⟩,⟨none,(some 15),(.mksl true 1 8 [(.int .i64 0)] (.t 14) (.t 14))⟩,⟨none,(some 3),(.mov (.t 15))⟩]) (.seq (.seq (.ops [⟨none,(some 16),(.fld 2 (.t 1))⟩,⟨none,(some 17),(.load false 1 (.t 16))⟩,⟨none,(some 18),(.len false (.t 17))⟩,⟨none,(some 19),(.mov (.c (.int .i64 0)))⟩]) (.block 0 (.loop (.seq (.ops [⟨none,(some 20),(.bin .lss (.t 19) (.t 18))⟩]) (.seq (.cond (.t 20) .skip (.exit 0)) (.seq (.block 1 (.seq (.ops [⟨none,(some 21),(.mov (.t 19))⟩,⟨none,(some 22),(.idx 5 (.t 17) (.t 19))⟩,⟨none,(some 23),(.load true 5 (.t 22))⟩,⟨none,(some 5),(.alloc [(.int .i64 0),(.int .i64 0),(.str []),(.str []),.nil])⟩,⟨none,(some 4),(.mov (.t 21))⟩,⟨none,none,(.store 5 (.t 5) (.t 23))⟩]) (.seq (.seq (.ops [⟨none,(some 24),(.fld 4 (.t 5))⟩,⟨none,(some 25),(.load false 1 (.t 24))⟩,⟨none,(some 26),(.len false (.t 25))⟩,⟨none,(some 27),(.mov (.c (.int .i64 0)))⟩]) (.block 2 (.loop (.seq (.ops [⟨none,(some 28),(.bin .lss (.t 27) (.t 26))⟩]) (.seq (.cond (.t 28) .skip (.exit 2)) (.seq (.block 3 (.seq (.ops [⟨none,(some 29),(.idx 1 (.t 25) (.t 27))⟩,⟨none,(some 30),(.load false 1 (.t 29))⟩,⟨none,(some 7),(.mov (.t 30))⟩]) (.seq (.seq (.ops [⟨none,(some 31),(.mov (.t 7))⟩,⟨none,(some 32),(.bin .lss (.t 31) (.c (.int .i64 0)))⟩,⟨none,(some 33),(.mov (.t 32))⟩,⟨(some (33,false)),(some 34),(.mov (.t 7))⟩,⟨(some (33,false)),(some 35),(.mov (.t 4))⟩,⟨(some (33,false)),(some 36),(.bin .geq (.t 34) (.t 35))⟩,⟨none,(some 37),(.pick (.t 33) (.c (.bool true)) (.t 36))⟩]) (.cond (.t 37) (.seq (.ops [⟨none,(some 2),(.mov (.c (.bool false)))⟩]) .ret) .skip)) (.ops [⟨none,(some 38),(.mov (.t 3))⟩,⟨none,(some 39),(.mov (.t 7))⟩,⟨none,(some 40),(.idx 1 (.t 38) (.t 39))⟩,⟨none,(some 41),(.load false 1 (.t 40))⟩,⟨none,(some 42),(.bin .add (.t 41) (.c (.int .i64 1)))⟩,⟨none,(some 43),(.idx 1 (.t 38) (.t 39))⟩,⟨none,none,(.store 1 (.t 43) (.t 42))⟩])))) (.ops [⟨none,(some 44),(.bin .add (.t 27) (.c (.int .i64 1)))⟩,⟨none,(some 27),(.mov (.t 44))⟩]))))))) (.seq (.ops [⟨none,(some 45),(.fld 2 (.t 1))⟩,⟨none,(some 46),(.load false 1 (.t 45))⟩,⟨none,(some 47),(.load true 5 (.t 5))⟩,⟨none,(some 48),(.call 24 [(.t 46),(.t 47)])⟩,⟨none,(some 49),(.not (.t 48))⟩]) (.cond (.t 49) (.seq (.ops [⟨none,(some 2),(.mov (.c (.bool false)))⟩]) .ret) .skip))))) (.ops [⟨none,(some 50),(.bin .add (.t 19) (.c (.int .i64 1)))⟩,⟨none,(some 19),(.mov (.t 50))⟩]))))))) (.seq (.seq (.ops [⟨none,(some 51),(.fld 1 (.t 1))⟩,⟨none,(some 52),(.load false 1 (.t 51))⟩,⟨none,(some 53),(.len false (.t 52))⟩,⟨none,(some 54),(.mov (.c (.int .i64 0)))⟩]) (.block 4 (.loop (.seq (.ops [⟨none,(some 55),(.bin .lss (.t 54) (.t 53))⟩]) (.seq (.cond (.t 55) .skip (.exit 4)) (.seq (.block 5 (.seq (.ops [⟨none,(some 56),(.idx 3 (.t 52) (.t 54))⟩,⟨none,(some 57),(.load true 3 (.t 56))⟩,⟨none,(some 9),(.alloc [(.str []),.nil,(.int .i64 0)])⟩,⟨none,none,(.store 3 (.t 9) (.t 57))⟩]) (.seq (.seq (.ops [⟨none,(some 58),(.fld 2 (.t 9))⟩,⟨none,(some 59),(.load false 1 (.t 58))⟩,⟨none,(some 60),(.bin .lss (.t 59) (.c (.int .i64 0)))⟩,⟨none,(some 61),(.mov (.t 60))⟩,⟨(some (61,false)),(some 62),(.fld 2 (.t 9))⟩,⟨(some (61,false)),(some 63),(.load false 1 (.t 62))⟩,⟨(some (61,false)),(some 64),(.fld 2 (.t 1))⟩,⟨(some (61,false)),(some 65),(.load false 1 (.t 64))⟩,⟨(some (61,false)),(some 66),(.len false (.t 65))⟩,⟨(some (61,false)),(some 67),(.bin .geq (.t 63) (.t 66))⟩,⟨none,(some 68),(.pick (.t 61) (.c (.bool true)) (.t 67))⟩,⟨none,(some 69),(.mov (.t 68))⟩,⟨(some (69,false)),(some 70),(.fld 2 (.t 1))⟩,⟨(some (69,false)),(some 71),(.load false 1 (.t 70))⟩,⟨(some (69,false)),(some 72),(.fld 2 (.t 9))⟩,⟨(some (69,false)),(some 73),(.load false 1 (.t 72))⟩,⟨(some (69,false)),(some 74),(.idx 5 (.t 71) (.t 73))⟩,⟨(some (69,false)),(some 75),(.fld 0 (.t 74))⟩,⟨(some (69,false)),(some 76),(.load false 1 (.t 75))⟩,⟨(some (69,false)),(some 77),(.bin .neq (.t 76) (.c (.int .i64 18)))⟩,⟨none,(some 78),(.pick (.t 69) (.c (.bool true)) (.t 77))⟩]) (.cond (.t 78) (.seq (.ops [⟨none,(some 2),(.mov (.c (.bool false)))⟩]) .ret) .skip)) (.ops [⟨none,(some 79),(.mov (.t 3))⟩,⟨none,(some 80),(.fld 2 (.t 9))⟩,⟨none,(some 81),(.load false 1 (.t 80))⟩,⟨none,(some 82),(.idx 1 (.t 79) (.t 81))⟩,⟨none,(some 83),(.load false 1 (.t 82))⟩,⟨none,(some 84),(.bin .add (.t 83) (.c (.int .i64 1)))⟩,⟨none,(some 85),(.idx 1 (.t 79) (.t 81))⟩,⟨none,none,(.store 1 (.t 85) (.t 84))⟩])))) (.ops [⟨none,(some 86),(.bin .add (.t 54) (.c (.int .i64 1)))⟩,⟨none,(some 54),(.mov (.t 86))⟩]))))))) (.seq (.seq (.ops [⟨none,(some 87),(.mov (.t 3))⟩,⟨none,(some 88),(.len false (.t 87))⟩,⟨none,(some 89),(.mov (.c (.int .i64 0)))⟩]) (.block 6 (.loop (.seq (.ops [⟨none,(some 90),(.bin .lss (.t 89) (.t 88))⟩]) (.seq (.cond (.t 90) .skip (.exit 6)) (.seq (.block 7 (.seq (.ops [⟨none,(some 91),(.idx 1 (.t 87) (.t 89))⟩,⟨none,(some 92),(.load false 1 (.t 91))⟩,⟨none,(some 11),(.mov (.t 92))⟩]) (.seq (.ops [⟨none,(some 93),(.mov (.t 11))⟩,⟨none,(some 94),(.bin .neq (.t 93) (.c (.int .i64 1)))⟩]) (.cond (.t 94) (.seq (.ops [⟨none,(some 2),(.mov (.c (.bool false)))⟩]) .ret) .skip)))) (.ops [⟨none,(some 95),(.bin .add (.t 89) (.c (.int .i64 1)))⟩,⟨none,(some 89),(.mov (.t 95))⟩]))))))) (.seq (.ops [⟨none,(some 2),(.mov (.c (.bool true)))⟩]) .ret))))))⟩
theorem is_check_Formed:IsFun Go.Proofs.Tryz.prog n_check_Formed m_check_Formed:=isFun_ok (by kernel_rfl)
abbrev n_check_Why:FuncId:=12
def m_check_Why:MFun:=⟨75,⟨false,[22,45,46,77,44,72,73,74,75,76,78,85,86,90,91,92,98,99,100,101,102,107,108,112,113,25,28,29,30,31,32,48,50,52,51,79,54,53,1000001]⟩,[(.tmp 2)],
 (.seq (.ops [⟨none,(some 1),(.box (.t 0))⟩,⟨none,(some 2),(.mov (.c (.int .i64 0)))⟩]) (.seq (.seq (.ops [⟨none,(some 11),(.load true 3 (.t 1))⟩,⟨none,(some 12),(.call 11 [(.t 11)])⟩,⟨none,(some 13),(.not (.t 12))⟩]) (.cond (.t 13) (.seq (.ops [⟨none,(some 2),(.mov (.c (.int .i64 1)))⟩]) .ret) .skip)) (.seq (.draw 4 [⟨⟨none,(some 14),(.load true 3 (.t 1))⟩,[],false⟩,⟨⟨none,(some 15),(.load true 3 (.t 1))⟩,[],false⟩,⟨⟨none,(some 16),(.sub 25 [(.t 15)])⟩,[1],true⟩,⟨⟨none,(some 17),(.mkmap none)⟩,[],true⟩,⟨⟨none,(some 18),(.load true 3 (.t 1))⟩,[],false⟩,⟨⟨none,(some 19),(.call 26 [(.t 18)])⟩,[4,2],false⟩,⟨⟨none,(some 20),(.load true 3 (.t 1))⟩,[],false⟩,⟨⟨none,(some 21),(.call 27 [(.t 20)])⟩,[6,5],false⟩,⟨⟨none,(some 22),(.build [.nil,.nil,.nil,.nilMap,.nilMap,.nil,.nil] [(0,(3,(.t 14))),(3,(1,(.t 16))),(4,(1,(.t 17))),(5,(1,(.t 19))),(6,(1,(.t 21)))])⟩,[0,2,3,5,7],false⟩,⟨⟨none,(some 3),(.alloc [.nil,.nil,.nil,.nilMap,.nilMap,.nil,.nil])⟩,[],true⟩,⟨⟨none,none,(.store 7 (.t 3) (.t 22))⟩,[9,8,7,0,1,2,3,4,5,6,7,8,9],true⟩]) (.seq (.seq (.ops [⟨none,(some 23),(.fld 1 (.t 1))⟩,⟨none,(some 24),(.load false 1 (.t 23))⟩,⟨none,(some 25),(.len false (.t 24))⟩,⟨none,(some 26),(.mov (.c (.int .i64 0)))⟩]) (.block 0 (.loop (.seq (.ops [⟨none,(some 27),(.bin .lss (.t 26) (.t 25))⟩]) (.seq (.cond (.t 27) .skip (.exit 0)) (.seq (.block 1 (.seq (.ops [⟨none,(some 28),(.mov (.t 26))⟩,⟨none,(some 29),(.idx 3 (.t 24) (.t 26))⟩,⟨none,(some 30),(.load true 3 (.t 29))⟩,⟨none,(some 5),(.alloc [(.str []),.nil,(.int .i64 0)])⟩,⟨none,(some 4),(.mov (.t 28))⟩,⟨none,none,(.store 3 (.t 5) (.t 30))⟩]) (.seq (.ops [⟨none,(some 32),(.fld 4 (.t 3))⟩,⟨none,(some 33),(.load false 1 (.t 32))⟩,⟨none,(some 34),(.fld 0 (.t 5))⟩,⟨none,(some 35),(.load false 1 (.t 34))⟩,⟨none,(some 36),(.lkp true none (.int .i64 0) (.t 33) (.t 35))⟩,⟨none,(some 31),(.mov (.t 36))⟩,⟨none,(some 37),(.ext (.t 31) 0)⟩,⟨none,(some 38),(.ext (.t 31) 1)⟩,⟨none,(some 6),(.mov (.t 37))⟩,⟨none,(some 7),(.mov (.t 38))⟩]) (.seq (.ops [⟨none,(some 39),(.mov (.t 7))⟩,⟨none,(some 40),(.not (.t 39))⟩]) (.cond (.t 40) (.ops [⟨none,(some 41),(.fld 4 (.t 3))⟩,⟨none,(some 42),(.load false 1 (.t 41))⟩,⟨none,(some 43),(.fld 0 (.t 5))⟩,⟨none,(some 44),(.load false 1 (.t 43))⟩,⟨none,(some 45),(.mov (.t 4))⟩,⟨none,none,(.mupd none (.t 42) (.t 44) (.t 45))⟩]) .skip))))) (.ops [⟨none,(some 46),(.bin .add (.t 26) (.c (.int .i64 1)))⟩,⟨none,(some 26),(.mov (.t 46))⟩]))))))) (.seq (.ops [⟨none,(some 47),(.load true 7 (.t 3))⟩,⟨none,(some 48),(.mkfn 28 [(.t 47)] [])⟩,⟨none,(some 49),(.build [.nilFunc,(.int .i64 0)] [(0,(1,(.t 48))),(1,(1,(.c (.int .i64 2))))])⟩,⟨none,(some 50),(.load true 7 (.t 3))⟩,⟨none,(some 51),(.mkfn 29 [(.t 50)] [])⟩,⟨none,(some 52),(.build [.nilFunc,(.int .i64 0)] [(0,(1,(.t 51))),(1,(1,(.c (.int .i64 5))))])⟩,⟨none,(some 53),(.load true 7 (.t 3))⟩,⟨none,(some 54),(.mkfn 30 [(.t 53)] [])⟩,⟨none,(some 55),(.build [.nilFunc,(.int .i64 0)] [(0,(1,(.t 54))),(1,(1,(.c (.int .i64 4))))])⟩,⟨none,(some 56),(.load true 7 (.t 3))⟩,⟨none,(some 57),(.mkfn 31 [(.t 56)] [])⟩,⟨none,(some 58),(.build [.nilFunc,(.int .i64 0)] [(0,(1,(.t 57))),(1,(1,(.c (.int .i64 6))))])⟩,⟨none,(some 59),(.load true 7 (.t 3))⟩,⟨none,(some 60),(.mkfn 32 [(.t 59)] [])⟩,⟨none,(some 61),(.build [.nilFunc,(.int .i64 0)] [(0,(1,(.t 60))),(1,(1,(.c (.int .i64 7))))])⟩,⟨none,(some 62),(.rowlit 5 [.nilFunc,(.int .i64 0),.nilFunc,(.int .i64 0),.nilFunc,(.int .i64 0),.nilFunc,(.int .i64 0),.nilFunc,(.int .i64 0)] [(0,(2,(.t 49))),(2,(2,(.t 52))),(4,(2,(.t 55))),(6,(2,(.t 58))),(8,(2,(.t 61)))])⟩,⟨none,(some 8),(.mov (.t 62))⟩]) (.seq (.seq (.ops [⟨none,(some 63),(.mov (.t 8))⟩,⟨none,(some 64),(.len false (.t 63))⟩,⟨none,(some 65),(.mov (.c (.int .i64 0)))⟩]) (.block 2 (.loop (.seq (.ops [⟨none,(some 66),(.bin .lss (.t 65) (.t 64))⟩]) (.seq (.cond (.t 66) .skip (.exit 2)) (.seq (.block 3 (.seq (.ops [⟨none,(some 67),(.idx 2 (.t 63) (.t 65))⟩,⟨none,(some 68),(.load true 2 (.t 67))⟩,⟨none,(some 10),(.alloc [.nilFunc,(.int .i64 0)])⟩,⟨none,none,(.store 2 (.t 10) (.t 68))⟩]) (.seq (.ops [⟨none,(some 69),(.fld 0 (.t 10))⟩,⟨none,(some 70),(.load false 1 (.t 69))⟩,⟨none,(some 71),(.subv (.t 70) [])⟩]) (.cond (.t 71) (.seq (.ops [⟨none,(some 72),(.fld 1 (.t 10))⟩,⟨none,(some 73),(.load false 1 (.t 72))⟩,⟨none,(some 2),(.mov (.t 73))⟩]) .ret) .skip)))) (.ops [⟨none,(some 74),(.bin .add (.t 65) (.c (.int .i64 1)))⟩,⟨none,(some 65),(.mov (.t 74))⟩]))))))) (.seq (.ops [⟨none,(some 2),(.mov (.c (.int .i64 0)))⟩]) .ret)))))))⟩
theorem is_check_Why:IsFun Go.Proofs.Tryz.prog n_check_Why m_check_Why:=isFun_ok (by kernel_rfl)
abbrev n_law06_fun:FuncId:=14
def m_law06_fun:MFun:=⟨22,⟨false,SBs⟩,[(.tmp 4)],
 (.seq (.ops [⟨none,(some 2),(.box (.t 0))⟩,⟨none,(some 4),(.mov (.c (.int .i64 0)))⟩]) (.seq (.seq (.ops [⟨none,(some 5),(.mov (.c (.int .i64 0)))⟩]) (.block 0 (.loop (.seq (.seq (.ops [⟨none,(some 6),(.mov (.t 5))⟩,⟨none,(some 7),(.fld 1 (.t 2))⟩,⟨none,(some 8),(.load false 1 (.t 7))⟩,⟨none,(some 9),(.len false (.t 8))⟩,⟨none,(some 10),(.bin .lss (.t 6) (.t 9))⟩]) (.cond (.t 10) .skip (.exit 0))) (.seq (.block 1 (.seq (.ops [⟨none,(some 13),(.fld 1 (.t 2))⟩,⟨none,(some 14),(.load false 1 (.t 13))⟩,⟨none,(some 15),(.mov (.t 5))⟩,⟨none,(some 16),(.idx 3 (.t 14) (.t 15))⟩,⟨none,(some 17),(.fld 0 (.t 16))⟩,⟨none,(some 18),(.load false 1 (.t 17))⟩,⟨none,(some 19),(.mov (.t 1))⟩,⟨none,(some 20),(.bin .eql (.t 18) (.t 19))⟩]) (.cond (.t 20) (.seq (.ops [⟨none,(some 21),(.mov (.t 5))⟩,⟨none,(some 4),(.mov (.t 21))⟩]) .ret) .skip))) (.ops [⟨none,(some 11),(.mov (.t 5))⟩,⟨none,(some 12),(.bin .add (.t 11) (.c (.int .i64 1)))⟩,⟨none,(some 5),(.mov (.t 12))⟩])))))) (.seq (.ops [⟨none,(some 4),(.mov (.c (.int .i64 (-1))))⟩]) .ret)))⟩
theorem is_law06_fun:IsFun Go.Proofs.Tryz.prog n_law06_fun m_law06_fun:=isFun_ok (by kernel_rfl)
abbrev n_ref06_In:FuncId:=15
def m_ref06_In:MFun:=⟨18,⟨false,SBs⟩,[(.tmp 4)],
 (.seq (.ops [⟨none,(some 4),(.mov (.c (.bool false)))⟩]) (.seq (.seq (.ops [⟨none,(some 5),(.mov (.c (.int .i64 0)))⟩]) (.block 0 (.loop (.seq (.seq (.ops [⟨none,(some 6),(.mov (.t 5))⟩,⟨none,(some 7),(.mov (.t 0))⟩,⟨none,(some 8),(.len false (.t 7))⟩,⟨none,(some 9),(.bin .lss (.t 6) (.t 8))⟩]) (.cond (.t 9) .skip (.exit 0))) (.seq (.block 1 (.seq (.ops [⟨none,(some 12),(.mov (.t 0))⟩,⟨none,(some 13),(.mov (.t 5))⟩,⟨none,(some 14),(.idx 1 (.t 12) (.t 13))⟩,⟨none,(some 15),(.load false 1 (.t 14))⟩,⟨none,(some 16),(.mov (.t 1))⟩,⟨none,(some 17),(.bin .eql (.t 15) (.t 16))⟩]) (.cond (.t 17) (.seq (.ops [⟨none,(some 4),(.mov (.c (.bool true)))⟩]) .ret) .skip))) (.ops [⟨none,(some 10),(.mov (.t 5))⟩,⟨none,(some 11),(.bin .add (.t 10) (.c (.int .i64 1)))⟩,⟨none,(some 5),(.mov (.t 11))⟩])))))) (.seq (.ops [⟨none,(some 4),(.mov (.c (.bool false)))⟩]) .ret)))⟩
theorem is_ref06_In:IsFun Go.Proofs.Tryz.prog n_ref06_In m_ref06_In:=isFun_ok (by kernel_rfl)
abbrev n_check_Locals:FuncId:=16
def m_check_Locals:MFun:=⟨24,⟨false,SBs⟩,[(.tmp 4)],
 (.seq (.ops [⟨none,(some 2),(.box (.t 0))⟩,⟨none,(some 4),(.mov (.c .nil))⟩]) (.seq (.seq (.ops [⟨none,(some 5),(.mov (.t 1))⟩,⟨none,(some 6),(.bin .lss (.t 5) (.c (.int .i64 0)))⟩,⟨none,(some 7),(.mov (.t 6))⟩,⟨(some (7,false)),(some 8),(.mov (.t 1))⟩,⟨(some (7,false)),(some 9),(.fld 1 (.t 2))⟩,⟨(some (7,false)),(some 10),(.load false 1 (.t 9))⟩,⟨(some (7,false)),(some 11),(.len false (.t 10))⟩,⟨(some (7,false)),(some 12),(.bin .geq (.t 8) (.t 11))⟩,⟨none,(some 13),(.pick (.t 7) (.c (.bool true)) (.t 12))⟩,⟨none,(some 14),(.mov (.t 13))⟩,⟨(some (14,false)),(some 15),(.load true 3 (.t 2))⟩,⟨(some (14,false)),(some 16),(.call 11 [(.t 15)])⟩,⟨(some (14,false)),(some 17),(.not (.t 16))⟩,⟨none,(some 18),(.pick (.t 14) (.c (.bool true)) (.t 17))⟩]) (.cond (.t 18) (.seq (.ops [⟨none,(some 4),(.mov (.c .nil))⟩]) .ret) .skip)) (.seq (.ops [⟨none,(some 19),(.load true 3 (.t 2))⟩,⟨none,(some 20),(.call 27 [(.t 19)])⟩,⟨none,(some 21),(.mov (.t 1))⟩,⟨none,(some 22),(.idx 1 (.t 20) (.t 21))⟩,⟨none,(some 23),(.load false 1 (.t 22))⟩,⟨none,(some 4),(.mov (.t 23))⟩]) .ret)))⟩
theorem is_check_Locals:IsFun Go.Proofs.Tryz.prog n_check_Locals m_check_Locals:=isFun_ok (by kernel_rfl)
abbrev n_law06_why:FuncId:=17
def m_law06_why:MFun:=⟨14,⟨false,SBs⟩,[(.tmp 2)],
 (.seq (.ops [⟨none,(some 2),(.mov (.c (.int .i64 0)))⟩]) (.seq (.ops [⟨none,(some 6),(.mov (.t 0))⟩,⟨none,(some 7),(.call 9 [(.t 6)])⟩,⟨none,(some 5),(.mov (.t 7))⟩,⟨none,(some 8),(.ext (.t 5) 0)⟩,⟨none,(some 9),(.ext (.t 5) 1)⟩,⟨none,(some 3),(.alloc [.nil,.nil,.nil])⟩,⟨none,none,(.store 3 (.t 3) (.t 8))⟩,⟨none,(some 4),(.mov (.t 9))⟩]) (.seq (.seq (.ops [⟨none,(some 10),(.mov (.t 4))⟩,⟨none,(some 11),(.bin .neq (.t 10) (.c (.int .i64 0)))⟩]) (.cond (.t 11) (.seq (.ops [⟨none,(some 2),(.mov (.c (.int .i64 3)))⟩]) .ret) .skip)) (.seq (.ops [⟨none,(some 12),(.load true 3 (.t 3))⟩,⟨none,(some 13),(.call 12 [(.t 12)])⟩,⟨none,(some 2),(.mov (.t 13))⟩]) .ret))))⟩
theorem is_law06_why:IsFun Go.Proofs.Tryz.prog n_law06_why m_law06_why:=isFun_ok (by kernel_rfl)
abbrev n_ref06_Same:FuncId:=18
def m_ref06_Same:MFun:=⟨26,⟨false,SBs⟩,[(.tmp 4)],
 (.seq (.ops [⟨none,(some 4),(.mov (.c (.bool false)))⟩]) (.seq (.seq (.ops [⟨none,(some 6),(.mov (.t 0))⟩,⟨none,(some 7),(.len false (.t 6))⟩,⟨none,(some 8),(.mov (.t 1))⟩,⟨none,(some 9),(.len false (.t 8))⟩,⟨none,(some 10),(.bin .neq (.t 7) (.t 9))⟩]) (.cond (.t 10) (.seq (.ops [⟨none,(some 4),(.mov (.c (.bool false)))⟩]) .ret) .skip)) (.seq (.seq (.ops [⟨none,(some 5),(.mov (.c (.int .i64 0)))⟩]) (.block 0 (.loop (.seq (.seq (.ops [⟨none,(some 11),(.mov (.t 5))⟩,⟨none,(some 12),(.mov (.t 0))⟩,⟨none,(some 13),(.len false (.t 12))⟩,⟨none,(some 14),(.bin .lss (.t 11) (.t 13))⟩]) (.cond (.t 14) .skip (.exit 0))) (.seq (.block 1 (.seq (.ops [⟨none,(some 17),(.mov (.t 0))⟩,⟨none,(some 18),(.mov (.t 5))⟩,⟨none,(some 19),(.idx 1 (.t 17) (.t 18))⟩,⟨none,(some 20),(.load false 1 (.t 19))⟩,⟨none,(some 21),(.mov (.t 1))⟩,⟨none,(some 22),(.mov (.t 5))⟩,⟨none,(some 23),(.idx 1 (.t 21) (.t 22))⟩,⟨none,(some 24),(.load false 1 (.t 23))⟩,⟨none,(some 25),(.bin .neq (.t 20) (.t 24))⟩]) (.cond (.t 25) (.seq (.ops [⟨none,(some 4),(.mov (.c (.bool false)))⟩]) .ret) .skip))) (.ops [⟨none,(some 15),(.mov (.t 5))⟩,⟨none,(some 16),(.bin .add (.t 15) (.c (.int .i64 1)))⟩,⟨none,(some 5),(.mov (.t 16))⟩])))))) (.seq (.ops [⟨none,(some 4),(.mov (.c (.bool true)))⟩]) .ret))))⟩
theorem is_ref06_Same:IsFun Go.Proofs.Tryz.prog n_ref06_Same m_ref06_Same:=isFun_ok (by kernel_rfl)
abbrev n_lex_Words:FuncId:=19
def m_lex_Words:MFun:=⟨53,⟨false,SBs⟩,[(.tmp 2),(.tmp 3)],
 (.seq (.ops [⟨none,(some 2),(.mov (.c .nil))⟩,⟨none,(some 3),(.mov (.c (.int .i64 0)))⟩]) (.seq (.seq (.ops [⟨none,(some 11),(.mov (.t 0))⟩,⟨none,(some 12),(.len true (.t 11))⟩,⟨none,(some 13),(.bin .gtr (.t 12) (.c (.int .i64 4000)))⟩]) (.cond (.t 13) (.seq (.ops [⟨none,(some 2),(.mov (.c .nil))⟩,⟨none,(some 3),(.mov (.c (.int .i64 2)))⟩]) .ret) .skip)) (.seq (.ops [⟨none,(some 14),(.build [(.int .i64 0),.nilFunc] [(0,(1,(.c (.int .i64 1)))),(1,(1,(.c (.func 39))))])⟩,⟨none,(some 15),(.build [(.int .i64 0),.nilFunc] [(0,(1,(.c (.int .i64 2)))),(1,(1,(.c (.func 40))))])⟩,⟨none,(some 16),(.build [(.int .i64 0),.nilFunc] [(0,(1,(.c (.int .i64 3)))),(1,(1,(.c (.func 41))))])⟩,⟨none,(some 17),(.bslice 2 3 [(.int .i64 0),.nilFunc] [(0,(.t 14)),(1,(.t 15)),(2,(.t 16))])⟩,⟨none,(some 4),(.mov (.t 17))⟩]) (.seq (.ops [⟨none,(some 5),(.mov (.c .nil))⟩]) (.seq (.ops [⟨none,(some 6),(.mov (.c (.int .i64 0)))⟩]) (.seq (.seq (.ops [⟨none,(some 18),(.mov (.t 0))⟩,⟨none,(some 19),(.rng (.t 18))⟩]) (.block 0 (.loop (.seq (.ops [⟨none,(some 20),(.nxt (.t 19))⟩,⟨none,(some 21),(.ext (.t 20) 0)⟩]) (.seq (.cond (.t 21) .skip (.exit 0)) (.block 1 (.seq (.ops [⟨none,(some 22),(.ext (.t 20) 1)⟩,⟨none,(some 23),(.ext (.t 20) 2)⟩,⟨none,(some 7),(.mov (.t 22))⟩,⟨none,(some 8),(.mov (.t 23))⟩]) (.seq (.seq (.ops [⟨none,(some 24),(.mov (.t 7))⟩,⟨none,(some 25),(.mov (.t 6))⟩,⟨none,(some 26),(.bin .lss (.t 24) (.t 25))⟩,⟨none,(some 27),(.mov (.t 26))⟩,⟨(some (27,false)),(some 28),(.mov (.t 8))⟩,⟨(some (27,false)),(some 29),(.call 42 [(.t 28)])⟩,⟨none,(some 30),(.pick (.t 27) (.c (.bool true)) (.t 29))⟩]) (.cond (.t 30) (.exit 1) .skip)) (.seq (.ops [⟨none,(some 32),(.mov (.t 4))⟩,⟨none,(some 33),(.mov (.t 0))⟩,⟨none,(some 34),(.mov (.t 7))⟩,⟨none,(some 35),(.slstr (.t 33) (some (.t 34)) none)⟩,⟨none,(some 36),(.call 43 [(.t 32),(.t 35)])⟩,⟨none,(some 31),(.mov (.t 36))⟩,⟨none,(some 37),(.ext (.t 31) 0)⟩,⟨none,(some 38),(.ext (.t 31) 1)⟩,⟨none,(some 9),(.alloc [(.int .i64 0),(.str []),(.int .i64 0),(.int .i64 0)])⟩,⟨none,none,(.store 4 (.t 9) (.t 37))⟩,⟨none,(some 10),(.mov (.t 38))⟩]) (.seq (.seq (.ops [⟨none,(some 39),(.mov (.t 10))⟩,⟨none,(some 40),(.not (.t 39))⟩]) (.cond (.t 40) (.seq (.ops [⟨none,(some 2),(.mov (.c .nil))⟩,⟨none,(some 3),(.mov (.c (.int .i64 3)))⟩]) .ret) .skip)) (.seq (.ops [⟨none,(some 41),(.mov (.t 7))⟩,⟨none,(some 42),(.fld 3 (.t 9))⟩,⟨none,none,(.store 1 (.t 42) (.t 41))⟩]) (.seq (.ops [⟨none,(some 43),(.mov (.t 5))⟩,⟨none,(some 44),(.load true 4 (.t 9))⟩,⟨none,(some 45),(.bslice 4 1 [(.int .i64 0),(.str []),(.int .i64 0),(.int .i64 0)] [(0,(.t 44))])⟩,⟨none,(some 46),(.app false 4 40 (.t 43) (.t 45))⟩,⟨none,(some 5),(.mov (.t 46))⟩]) (.ops [⟨none,(some 47),(.mov (.t 7))⟩,⟨none,(some 48),(.fld 1 (.t 9))⟩,⟨none,(some 49),(.load false 1 (.t 48))⟩,⟨none,(some 50),(.len true (.t 49))⟩,⟨none,(some 51),(.bin .add (.t 47) (.t 50))⟩,⟨none,(some 6),(.mov (.t 51))⟩]))))))))))))) (.seq (.ops [⟨none,(some 52),(.mov (.t 5))⟩,⟨none,(some 2),(.mov (.t 52))⟩,⟨none,(some 3),(.mov (.c (.int .i64 0)))⟩]) .ret)))))))⟩
theorem is_lex_Words:IsFun Go.Proofs.Tryz.prog n_lex_Words m_lex_Words:=isFun_ok (by kernel_rfl)
abbrev n_parse_Depth:FuncId:=20
def m_parse_Depth:MFun:=⟨30,⟨false,SBs⟩,[(.tmp 2)],
 (.seq (.ops [⟨none,(some 2),(.mov (.c (.int .i64 0)))⟩]) (.seq (.ops [⟨none,(some 3),(.mov (.c (.int .i64 0)))⟩,⟨none,(some 4),(.mov (.c (.int .i64 0)))⟩]) (.seq (.seq (.ops [⟨none,(some 7),(.mov (.t 0))⟩,⟨none,(some 8),(.len false (.t 7))⟩,⟨none,(some 9),(.mov (.c (.int .i64 0)))⟩]) (.block 0 (.loop (.seq (.ops [⟨none,(some 10),(.bin .lss (.t 9) (.t 8))⟩]) (.seq (.cond (.t 10) .skip (.exit 0)) (.seq (.block 1 (.seq (.ops [⟨none,(some 11),(.idx 4 (.t 7) (.t 9))⟩,⟨none,(some 12),(.load true 4 (.t 11))⟩,⟨none,(some 6),(.alloc [(.int .i64 0),(.str []),(.int .i64 0),(.int .i64 0)])⟩,⟨none,none,(.store 4 (.t 6) (.t 12))⟩]) (.seq (.seq (.ops [⟨none,(some 13),(.fld 1 (.t 6))⟩,⟨none,(some 14),(.load false 1 (.t 13))⟩]) (.block 2 (.seq (.seq (.ops [⟨none,(some 16),(.bin .eql (.t 14) (.c (.str [40])))⟩,⟨none,(some 15),(.mov (.t 16))⟩]) (.cond (.t 15) .skip (.ops [⟨none,(some 17),(.bin .eql (.t 14) (.c (.str [123])))⟩,⟨none,(some 15),(.mov (.t 17))⟩]))) (.cond (.t 15) (.ops [⟨none,(some 18),(.mov (.t 3))⟩,⟨none,(some 19),(.bin .add (.t 18) (.c (.int .i64 1)))⟩,⟨none,(some 3),(.mov (.t 19))⟩]) (.seq (.seq (.ops [⟨none,(some 21),(.bin .eql (.t 14) (.c (.str [41])))⟩,⟨none,(some 20),(.mov (.t 21))⟩]) (.cond (.t 20) .skip (.ops [⟨none,(some 22),(.bin .eql (.t 14) (.c (.str [125])))⟩,⟨none,(some 20),(.mov (.t 22))⟩]))) (.cond (.t 20) (.ops [⟨none,(some 23),(.mov (.t 3))⟩,⟨none,(some 24),(.bin .sub (.t 23) (.c (.int .i64 1)))⟩,⟨none,(some 3),(.mov (.t 24))⟩]) .skip)))))) (.ops [⟨none,(some 25),(.mov (.t 4))⟩,⟨none,(some 26),(.mov (.t 3))⟩,⟨none,(some 27),(.mm true (.t 25) (.t 26))⟩,⟨none,(some 4),(.mov (.t 27))⟩])))) (.ops [⟨none,(some 28),(.bin .add (.t 9) (.c (.int .i64 1)))⟩,⟨none,(some 9),(.mov (.t 28))⟩]))))))) (.seq (.ops [⟨none,(some 29),(.mov (.t 4))⟩,⟨none,(some 2),(.mov (.t 29))⟩]) .ret))))⟩
theorem is_parse_Depth:IsFun Go.Proofs.Tryz.prog n_parse_Depth m_parse_Depth:=isFun_ok (by kernel_rfl)
abbrev n_parse_Of_1:FuncId:=21
def m_parse_Of_1:DFun:=⟨5,⟨false,SBs⟩,2,[⟨none,(some 3),(.eqi true (.t 2))⟩],
 (.cond (.t 3) (.ops [⟨none,(some 4),(.build [.nil,.nil,.nil] [])⟩,⟨none,none,(.store 3 (.t 0) (.t 4))⟩,⟨none,none,(.store 1 (.t 1) (.c (.int .i64 3)))⟩]) .skip)⟩
theorem is_parse_Of_1:IsDef Go.Proofs.Tryz.prog n_parse_Of_1 m_parse_Of_1:=by unfold IsDef;kernel_rfl
abbrev n_parse_reader_program:FuncId:=22
def m_parse_reader_program:MFun:=⟨49,⟨false,SBs⟩,[(.cell 2 true 3)],
 (.seq (.ops [⟨none,(some 2),(.alloc [.nil,.nil,.nil])⟩]) (.seq (.ops [⟨none,(some 3),(.alloc [.nil,.nil,.nil])⟩]) (.seq (.block 0 (.loop (.seq (.seq (.ops [⟨none,(some 4),(.mov (.t 0))⟩,⟨none,(some 5),(.nilck (.t 4))⟩,⟨none,(some 6),(.fld 1 (.t 5))⟩,⟨none,(some 7),(.load false 1 (.t 6))⟩,⟨none,(some 8),(.mov (.t 0))⟩,⟨none,(some 9),(.nilck (.t 8))⟩,⟨none,(some 10),(.fld 0 (.t 9))⟩,⟨none,(some 11),(.load false 1 (.t 10))⟩,⟨none,(some 12),(.len false (.t 11))⟩,⟨none,(some 13),(.bin .lss (.t 7) (.t 12))⟩,⟨none,(some 14),(.mov (.t 13))⟩,⟨(some (14,true)),(some 15),(.mov (.t 0))⟩,⟨(some (14,true)),(some 16),(.sub 44 [(.t 15)])⟩,⟨(some (14,true)),(some 17),(.bin .neq (.t 16) (.c (.str [102,117,110,99])))⟩,⟨none,(some 18),(.pick (.t 14) (.t 17) (.c (.bool false)))⟩]) (.cond (.t 18) .skip (.exit 0))) (.block 1 (.draw 3 [⟨⟨none,(some 19),(.fld 0 (.t 3))⟩,[],false⟩,⟨⟨none,(some 20),(.load false 1 (.t 19))⟩,[0],false⟩,⟨⟨none,(some 21),(.mov (.t 0))⟩,[],false⟩,⟨⟨none,(some 22),(.sub 45 [(.t 21)])⟩,[2],true⟩,⟨⟨none,(some 23),(.bslice 3 1 [(.int .i64 0),(.str []),(.int .i64 0)] [(0,(.t 22))])⟩,[3],false⟩,⟨⟨none,(some 24),(.app false 3 32 (.t 20) (.t 23))⟩,[1,4,3],true⟩,⟨⟨none,(some 25),(.fld 0 (.t 3))⟩,[0,1,2,3,4,5],false⟩,⟨⟨none,none,(.store 1 (.t 25) (.t 24))⟩,[6,5,5,0,1,2,3,4,5],true⟩]))))) (.seq (.block 2 (.loop (.seq (.seq (.ops [⟨none,(some 26),(.mov (.t 0))⟩,⟨none,(some 27),(.nilck (.t 26))⟩,⟨none,(some 28),(.fld 1 (.t 27))⟩,⟨none,(some 29),(.load false 1 (.t 28))⟩,⟨none,(some 30),(.mov (.t 0))⟩,⟨none,(some 31),(.nilck (.t 30))⟩,⟨none,(some 32),(.fld 0 (.t 31))⟩,⟨none,(some 33),(.load false 1 (.t 32))⟩,⟨none,(some 34),(.len false (.t 33))⟩,⟨none,(some 35),(.bin .lss (.t 29) (.t 34))⟩]) (.cond (.t 35) .skip (.exit 2))) (.block 3 (.draw 3 [⟨⟨none,(some 36),(.fld 1 (.t 3))⟩,[],false⟩,⟨⟨none,(some 37),(.load false 1 (.t 36))⟩,[0],false⟩,⟨⟨none,(some 38),(.mov (.t 0))⟩,[],false⟩,⟨⟨none,(some 39),(.sub 46 [(.t 38)])⟩,[2],true⟩,⟨⟨none,(some 40),(.bslice 3 1 [(.str []),.nil,(.int .i64 0)] [(0,(.t 39))])⟩,[3],false⟩,⟨⟨none,(some 41),(.app false 3 48 (.t 37) (.t 40))⟩,[1,4,3],true⟩,⟨⟨none,(some 42),(.fld 1 (.t 3))⟩,[0,1,2,3,4,5],false⟩,⟨⟨none,none,(.store 1 (.t 42) (.t 41))⟩,[6,5,5,0,1,2,3,4,5],true⟩]))))) (.seq (.ops [⟨none,(some 43),(.mov (.t 0))⟩,⟨none,(some 44),(.nilck (.t 43))⟩,⟨none,(some 45),(.fld 2 (.t 44))⟩,⟨none,(some 46),(.load false 1 (.t 45))⟩,⟨none,(some 47),(.fld 2 (.t 3))⟩,⟨none,none,(.store 1 (.t 47) (.t 46))⟩]) (.seq (.ops [⟨none,(some 48),(.load true 3 (.t 3))⟩,⟨none,none,(.store 3 (.t 2) (.t 48))⟩]) .ret))))))⟩
theorem is_parse_reader_program:IsFun Go.Proofs.Tryz.prog n_parse_reader_program m_parse_reader_program:=isFun_ok (by kernel_rfl)
abbrev n_ref06_Few:FuncId:=23
def m_ref06_Few:MFun:=⟨81,⟨false,SBs⟩,[(.tmp 2)],
 (.seq (.ops [⟨none,(some 1),(.box (.t 0))⟩,⟨none,(some 2),(.mov (.c (.bool false)))⟩]) (.seq (.seq (.ops [⟨none,(some 5),(.fld 2 (.t 1))⟩,⟨none,(some 6),(.load false 1 (.t 5))⟩,⟨none,(some 7),(.len false (.t 6))⟩,⟨none,(some 8),(.bin .gtr (.t 7) (.c (.int .i64 120)))⟩,⟨none,(some 9),(.mov (.t 8))⟩,⟨(some (9,false)),(some 10),(.fld 1 (.t 1))⟩,⟨(some (9,false)),(some 11),(.load false 1 (.t 10))⟩,⟨(some (9,false)),(some 12),(.len false (.t 11))⟩,⟨(some (9,false)),(some 13),(.bin .gtr (.t 12) (.c (.int .i64 30)))⟩,⟨none,(some 14),(.pick (.t 9) (.c (.bool true)) (.t 13))⟩,⟨none,(some 15),(.mov (.t 14))⟩,⟨(some (15,false)),(some 16),(.fld 0 (.t 1))⟩,⟨(some (15,false)),(some 17),(.load false 1 (.t 16))⟩,⟨(some (15,false)),(some 18),(.len false (.t 17))⟩,⟨(some (15,false)),(some 19),(.bin .gtr (.t 18) (.c (.int .i64 60)))⟩,⟨none,(some 20),(.pick (.t 15) (.c (.bool true)) (.t 19))⟩]) (.cond (.t 20) (.seq (.ops [⟨none,(some 2),(.mov (.c (.bool false)))⟩]) .ret) .skip)) (.seq (.seq (.ops [⟨none,(some 3),(.mov (.c (.int .i64 0)))⟩]) (.block 0 (.loop (.seq (.seq (.ops [⟨none,(some 21),(.mov (.t 3))⟩,⟨none,(some 22),(.fld 2 (.t 1))⟩,⟨none,(some 23),(.load false 1 (.t 22))⟩,⟨none,(some 24),(.len false (.t 23))⟩,⟨none,(some 25),(.bin .lss (.t 21) (.t 24))⟩]) (.cond (.t 25) .skip (.exit 0))) (.seq (.block 1 (.seq (.ops [⟨none,(some 28),(.fld 2 (.t 1))⟩,⟨none,(some 29),(.load false 1 (.t 28))⟩,⟨none,(some 30),(.mov (.t 3))⟩,⟨none,(some 31),(.idx 5 (.t 29) (.t 30))⟩,⟨none,(some 32),(.fld 4 (.t 31))⟩,⟨none,(some 33),(.load false 1 (.t 32))⟩,⟨none,(some 34),(.len false (.t 33))⟩,⟨none,(some 35),(.bin .gtr (.t 34) (.c (.int .i64 30)))⟩,⟨none,(some 36),(.mov (.t 35))⟩,⟨(some (36,false)),(some 37),(.fld 2 (.t 1))⟩,⟨(some (36,false)),(some 38),(.load false 1 (.t 37))⟩,⟨(some (36,false)),(some 39),(.mov (.t 3))⟩,⟨(some (36,false)),(some 40),(.idx 5 (.t 38) (.t 39))⟩,⟨(some (36,false)),(some 41),(.fld 2 (.t 40))⟩,⟨(some (36,false)),(some 42),(.load false 1 (.t 41))⟩,⟨(some (36,false)),(some 43),(.len true (.t 42))⟩,⟨(some (36,false)),(some 44),(.bin .gtr (.t 43) (.c (.int .i64 40)))⟩,⟨none,(some 45),(.pick (.t 36) (.c (.bool true)) (.t 44))⟩,⟨none,(some 46),(.mov (.t 45))⟩,⟨(some (46,false)),(some 47),(.fld 2 (.t 1))⟩,⟨(some (46,false)),(some 48),(.load false 1 (.t 47))⟩,⟨(some (46,false)),(some 49),(.mov (.t 3))⟩,⟨(some (46,false)),(some 50),(.idx 5 (.t 48) (.t 49))⟩,⟨(some (46,false)),(some 51),(.fld 3 (.t 50))⟩,⟨(some (46,false)),(some 52),(.load false 1 (.t 51))⟩,⟨(some (46,false)),(some 53),(.len true (.t 52))⟩,⟨(some (46,false)),(some 54),(.bin .gtr (.t 53) (.c (.int .i64 40)))⟩,⟨none,(some 55),(.pick (.t 46) (.c (.bool true)) (.t 54))⟩]) (.cond (.t 55) (.seq (.ops [⟨none,(some 2),(.mov (.c (.bool false)))⟩]) .ret) .skip))) (.ops [⟨none,(some 26),(.mov (.t 3))⟩,⟨none,(some 27),(.bin .add (.t 26) (.c (.int .i64 1)))⟩,⟨none,(some 3),(.mov (.t 27))⟩])))))) (.seq (.seq (.ops [⟨none,(some 4),(.mov (.c (.int .i64 0)))⟩]) (.block 2 (.loop (.seq (.seq (.ops [⟨none,(some 56),(.mov (.t 4))⟩,⟨none,(some 57),(.fld 1 (.t 1))⟩,⟨none,(some 58),(.load false 1 (.t 57))⟩,⟨none,(some 59),(.len false (.t 58))⟩,⟨none,(some 60),(.bin .lss (.t 56) (.t 59))⟩]) (.cond (.t 60) .skip (.exit 2))) (.seq (.block 3 (.seq (.ops [⟨none,(some 63),(.fld 1 (.t 1))⟩,⟨none,(some 64),(.load false 1 (.t 63))⟩,⟨none,(some 65),(.mov (.t 4))⟩,⟨none,(some 66),(.idx 3 (.t 64) (.t 65))⟩,⟨none,(some 67),(.fld 1 (.t 66))⟩,⟨none,(some 68),(.load false 1 (.t 67))⟩,⟨none,(some 69),(.len false (.t 68))⟩,⟨none,(some 70),(.bin .gtr (.t 69) (.c (.int .i64 30)))⟩,⟨none,(some 71),(.mov (.t 70))⟩,⟨(some (71,false)),(some 72),(.fld 1 (.t 1))⟩,⟨(some (71,false)),(some 73),(.load false 1 (.t 72))⟩,⟨(some (71,false)),(some 74),(.mov (.t 4))⟩,⟨(some (71,false)),(some 75),(.idx 3 (.t 73) (.t 74))⟩,⟨(some (71,false)),(some 76),(.fld 0 (.t 75))⟩,⟨(some (71,false)),(some 77),(.load false 1 (.t 76))⟩,⟨(some (71,false)),(some 78),(.len true (.t 77))⟩,⟨(some (71,false)),(some 79),(.bin .gtr (.t 78) (.c (.int .i64 40)))⟩,⟨none,(some 80),(.pick (.t 71) (.c (.bool true)) (.t 79))⟩]) (.cond (.t 80) (.seq (.ops [⟨none,(some 2),(.mov (.c (.bool false)))⟩]) .ret) .skip))) (.ops [⟨none,(some 61),(.mov (.t 4))⟩,⟨none,(some 62),(.bin .add (.t 61) (.c (.int .i64 1)))⟩,⟨none,(some 4),(.mov (.t 62))⟩])))))) (.seq (.ops [⟨none,(some 2),(.mov (.c (.bool true)))⟩]) .ret)))))⟩
theorem is_ref06_Few:IsFun Go.Proofs.Tryz.prog n_ref06_Few m_ref06_Few:=isFun_ok (by kernel_rfl)
abbrev n_check_shaped:FuncId:=24
def m_check_shaped:MFun:=⟨107,⟨false,SBs⟩,[(.tmp 4)],
 (.seq (.ops [⟨none,(some 3),(.box (.t 1))⟩,⟨none,(some 4),(.mov (.c (.bool false)))⟩]) (.seq (.ops [⟨none,(some 5),(.alloc [.nil])⟩]) (.seq (.seq (.ops [⟨none,(some 10),(.fld 4 (.t 3))⟩,⟨none,(some 11),(.load false 1 (.t 10))⟩,⟨none,(some 12),(.len false (.t 11))⟩,⟨none,(some 13),(.mov (.c (.int .i64 0)))⟩]) (.block 0 (.loop (.seq (.ops [⟨none,(some 14),(.bin .lss (.t 13) (.t 12))⟩]) (.seq (.cond (.t 14) .skip (.exit 0)) (.seq (.block 1 (.seq (.ops [⟨none,(some 15),(.idx 1 (.t 11) (.t 13))⟩,⟨none,(some 16),(.load false 1 (.t 15))⟩,⟨none,(some 7),(.mov (.t 16))⟩]) (.ops [⟨none,(some 17),(.load false 1 (.t 5))⟩,⟨none,(some 18),(.mov (.t 0))⟩,⟨none,(some 19),(.mov (.t 7))⟩,⟨none,(some 20),(.idx 5 (.t 18) (.t 19))⟩,⟨none,(some 21),(.fld 0 (.t 20))⟩,⟨none,(some 22),(.load false 1 (.t 21))⟩,⟨none,(some 23),(.call 47 [(.t 22)])⟩,⟨none,(some 24),(.bslice 1 1 [(.int .i64 0)] [(0,(.t 23))])⟩,⟨none,(some 25),(.app false 1 8 (.t 17) (.t 24))⟩,⟨none,none,(.store 1 (.t 5) (.t 25))⟩]))) (.ops [⟨none,(some 26),(.bin .add (.t 13) (.c (.int .i64 1)))⟩,⟨none,(some 13),(.mov (.t 26))⟩]))))))) (.seq (.ops [⟨none,(some 27),(.mkfn 48 [] [(.t 5)])⟩,⟨none,(some 8),(.mov (.t 27))⟩]) (.seq (.ops [⟨none,(some 28),(.mkfn 50 [] [(.t 5)])⟩,⟨none,(some 9),(.mov (.t 28))⟩]) (.seq (.seq (.ops [⟨none,(some 29),(.fld 0 (.t 3))⟩,⟨none,(some 30),(.load false 1 (.t 29))⟩]) (.block 2 (.seq (.ops [⟨none,(some 32),(.bin .eql (.t 30) (.c (.int .i64 1)))⟩,⟨none,(some 31),(.mov (.t 32))⟩]) (.cond (.t 31) (.seq (.ops [⟨none,(some 33),(.mov (.t 8))⟩,⟨none,(some 34),(.subv (.t 33) [(.c .nil)])⟩,⟨none,(some 35),(.mov (.t 34))⟩,⟨(some (35,true)),(some 36),(.fld 1 (.t 3))⟩,⟨(some (35,true)),(some 37),(.load false 1 (.t 36))⟩,⟨(some (35,true)),(some 38),(.bin .geq (.t 37) (.c (.int .i64 0)))⟩,⟨none,(some 39),(.pick (.t 35) (.t 38) (.c (.bool false)))⟩,⟨none,(some 40),(.mov (.t 39))⟩,⟨(some (40,true)),(some 41),(.fld 1 (.t 3))⟩,⟨(some (40,true)),(some 42),(.load false 1 (.t 41))⟩,⟨(some (40,true)),(some 43),(.bin .lss (.t 42) (.c (.int .i64 4294967296)))⟩,⟨none,(some 44),(.pick (.t 40) (.t 43) (.c (.bool false)))⟩,⟨none,(some 4),(.mov (.t 44))⟩]) .ret) (.seq (.seq (.ops [⟨none,(some 46),(.bin .eql (.t 30) (.c (.int .i64 2)))⟩,⟨none,(some 45),(.mov (.t 46))⟩]) (.cond (.t 45) .skip (.ops [⟨none,(some 47),(.bin .eql (.t 30) (.c (.int .i64 12)))⟩,⟨none,(some 45),(.mov (.t 47))⟩]))) (.cond (.t 45) (.seq (.ops [⟨none,(some 48),(.mov (.t 8))⟩,⟨none,(some 49),(.subv (.t 48) [(.c .nil)])⟩,⟨none,(some 4),(.mov (.t 49))⟩]) .ret) (.seq (.seq (.ops [⟨none,(some 51),(.bin .eql (.t 30) (.c (.int .i64 3)))⟩,⟨none,(some 50),(.mov (.t 51))⟩]) (.cond (.t 50) .skip (.seq (.ops [⟨none,(some 52),(.bin .eql (.t 30) (.c (.int .i64 4)))⟩,⟨none,(some 50),(.mov (.t 52))⟩]) (.cond (.t 50) .skip (.seq (.ops [⟨none,(some 53),(.bin .eql (.t 30) (.c (.int .i64 5)))⟩,⟨none,(some 50),(.mov (.t 53))⟩]) (.cond (.t 50) .skip (.seq (.ops [⟨none,(some 54),(.bin .eql (.t 30) (.c (.int .i64 6)))⟩,⟨none,(some 50),(.mov (.t 54))⟩]) (.cond (.t 50) .skip (.seq (.ops [⟨none,(some 55),(.bin .eql (.t 30) (.c (.int .i64 7)))⟩,⟨none,(some 50),(.mov (.t 55))⟩]) (.cond (.t 50) .skip (.ops [⟨none,(some 56),(.bin .eql (.t 30) (.c (.int .i64 11)))⟩,⟨none,(some 50),(.mov (.t 56))⟩]))))))))))) (.cond (.t 50) (.seq (.ops [⟨none,(some 57),(.mov (.t 8))⟩,⟨none,(some 58),(.bslice 1 2 [(.int .i64 0)] [(0,(.c (.int .i64 1))),(1,(.c (.int .i64 1)))])⟩,⟨none,(some 59),(.subv (.t 57) [(.t 58)])⟩,⟨none,(some 4),(.mov (.t 59))⟩]) .ret) (.seq (.seq (.ops [⟨none,(some 61),(.bin .eql (.t 30) (.c (.int .i64 8)))⟩,⟨none,(some 60),(.mov (.t 61))⟩]) (.cond (.t 60) .skip (.ops [⟨none,(some 62),(.bin .eql (.t 30) (.c (.int .i64 10)))⟩,⟨none,(some 60),(.mov (.t 62))⟩]))) (.cond (.t 60) (.seq (.ops [⟨none,(some 63),(.mov (.t 9))⟩,⟨none,(some 64),(.subv (.t 63) [(.c (.int .i64 1))])⟩,⟨none,(some 4),(.mov (.t 64))⟩]) .ret) (.seq (.seq (.ops [⟨none,(some 66),(.bin .eql (.t 30) (.c (.int .i64 9)))⟩,⟨none,(some 65),(.mov (.t 66))⟩]) (.cond (.t 65) .skip (.seq (.ops [⟨none,(some 67),(.bin .eql (.t 30) (.c (.int .i64 15)))⟩,⟨none,(some 65),(.mov (.t 67))⟩]) (.cond (.t 65) .skip (.ops [⟨none,(some 68),(.bin .eql (.t 30) (.c (.int .i64 16)))⟩,⟨none,(some 65),(.mov (.t 68))⟩]))))) (.cond (.t 65) (.seq (.ops [⟨none,(some 69),(.mov (.t 8))⟩,⟨none,(some 70),(.bslice 1 1 [(.int .i64 0)] [(0,(.c (.int .i64 1)))])⟩,⟨none,(some 71),(.subv (.t 69) [(.t 70)])⟩,⟨none,(some 4),(.mov (.t 71))⟩]) .ret) (.seq (.ops [⟨none,(some 73),(.bin .eql (.t 30) (.c (.int .i64 17)))⟩,⟨none,(some 72),(.mov (.t 73))⟩]) (.cond (.t 72) (.seq (.ops [⟨none,(some 74),(.mov (.t 8))⟩,⟨none,(some 75),(.bslice 1 1 [(.int .i64 0)] [(0,(.c (.int .i64 1)))])⟩,⟨none,(some 76),(.subv (.t 74) [(.t 75)])⟩,⟨none,(some 77),(.mov (.t 76))⟩,⟨(some (77,true)),(some 78),(.mov (.t 0))⟩,⟨(some (77,true)),(some 79),(.fld 4 (.t 3))⟩,⟨(some (77,true)),(some 80),(.load false 1 (.t 79))⟩,⟨(some (77,true)),(some 81),(.idx 1 (.t 80) (.c (.int .i64 0)))⟩,⟨(some (77,true)),(some 82),(.load false 1 (.t 81))⟩,⟨(some (77,true)),(some 83),(.idx 5 (.t 78) (.t 82))⟩,⟨(some (77,true)),(some 84),(.fld 0 (.t 83))⟩,⟨(some (77,true)),(some 85),(.load false 1 (.t 84))⟩,⟨(some (77,true)),(some 86),(.bin .eql (.t 85) (.c (.int .i64 8)))⟩,⟨none,(some 87),(.pick (.t 77) (.t 86) (.c (.bool false)))⟩,⟨none,(some 4),(.mov (.t 87))⟩]) .ret) (.seq (.ops [⟨none,(some 89),(.bin .eql (.t 30) (.c (.int .i64 13)))⟩,⟨none,(some 88),(.mov (.t 89))⟩]) (.cond (.t 88) (.seq (.ops [⟨none,(some 90),(.mov (.t 8))⟩,⟨none,(some 91),(.bslice 1 2 [(.int .i64 0)] [(0,(.c (.int .i64 1))),(1,(.c (.int .i64 3)))])⟩,⟨none,(some 92),(.subv (.t 90) [(.t 91)])⟩,⟨none,(some 93),(.mov (.t 92))⟩,⟨(some (93,false)),(some 94),(.mov (.t 8))⟩,⟨(some (93,false)),(some 95),(.bslice 1 3 [(.int .i64 0)] [(0,(.c (.int .i64 1))),(1,(.c (.int .i64 3))),(2,(.c (.int .i64 3)))])⟩,⟨(some (93,false)),(some 96),(.subv (.t 94) [(.t 95)])⟩,⟨none,(some 97),(.pick (.t 93) (.c (.bool true)) (.t 96))⟩,⟨none,(some 4),(.mov (.t 97))⟩]) .ret) (.seq (.ops [⟨none,(some 99),(.bin .eql (.t 30) (.c (.int .i64 14)))⟩,⟨none,(some 98),(.mov (.t 99))⟩]) (.cond (.t 98) (.seq (.ops [⟨none,(some 100),(.mov (.t 8))⟩,⟨none,(some 101),(.bslice 1 2 [(.int .i64 0)] [(0,(.c (.int .i64 1))),(1,(.c (.int .i64 3)))])⟩,⟨none,(some 102),(.subv (.t 100) [(.t 101)])⟩,⟨none,(some 4),(.mov (.t 102))⟩]) .ret) (.seq (.ops [⟨none,(some 104),(.bin .eql (.t 30) (.c (.int .i64 18)))⟩,⟨none,(some 103),(.mov (.t 104))⟩]) (.cond (.t 103) (.seq (.ops [⟨none,(some 105),(.mov (.t 9))⟩,⟨none,(some 106),(.subv (.t 105) [(.c (.int .i64 2))])⟩,⟨none,(some 4),(.mov (.t 106))⟩]) .ret) .skip)))))))))))))))))))) (.seq (.ops [⟨none,(some 4),(.mov (.c (.bool false)))⟩]) .ret)))))))⟩
theorem is_check_shaped:IsFun Go.Proofs.Tryz.prog n_check_shaped m_check_shaped:=isFun_ok (by kernel_rfl)
abbrev n_check_things:FuncId:=25
def m_check_things:MFun:=⟨32,⟨false,SBs⟩,[(.tmp 2)],
 (.seq (.ops [⟨none,(some 1),(.box (.t 0))⟩,⟨none,(some 2),(.mov (.c .nilMap))⟩]) (.seq (.ops [⟨none,(some 8),(.mkmap none)⟩,⟨none,(some 3),(.mov (.t 8))⟩]) (.seq (.seq (.ops [⟨none,(some 9),(.fld 0 (.t 1))⟩,⟨none,(some 10),(.load false 1 (.t 9))⟩,⟨none,(some 11),(.len false (.t 10))⟩,⟨none,(some 12),(.mov (.c (.int .i64 0)))⟩]) (.block 0 (.loop (.seq (.ops [⟨none,(some 13),(.bin .lss (.t 12) (.t 11))⟩]) (.seq (.cond (.t 13) .skip (.exit 0)) (.seq (.block 1 (.seq (.ops [⟨none,(some 14),(.idx 3 (.t 10) (.t 12))⟩,⟨none,(some 15),(.load true 3 (.t 14))⟩,⟨none,(some 5),(.alloc [(.int .i64 0),(.str []),(.int .i64 0)])⟩,⟨none,none,(.store 3 (.t 5) (.t 15))⟩]) (.seq (.ops [⟨none,(some 17),(.mov (.t 3))⟩,⟨none,(some 18),(.fld 1 (.t 5))⟩,⟨none,(some 19),(.load false 1 (.t 18))⟩,⟨none,(some 20),(.lkp true none (.int .i64 0) (.t 17) (.t 19))⟩,⟨none,(some 16),(.mov (.t 20))⟩,⟨none,(some 21),(.ext (.t 16) 0)⟩,⟨none,(some 22),(.ext (.t 16) 1)⟩,⟨none,(some 6),(.mov (.t 21))⟩,⟨none,(some 7),(.mov (.t 22))⟩]) (.seq (.ops [⟨none,(some 23),(.mov (.t 7))⟩,⟨none,(some 24),(.not (.t 23))⟩]) (.cond (.t 24) (.ops [⟨none,(some 25),(.mov (.t 3))⟩,⟨none,(some 26),(.fld 1 (.t 5))⟩,⟨none,(some 27),(.load false 1 (.t 26))⟩,⟨none,(some 28),(.fld 0 (.t 5))⟩,⟨none,(some 29),(.load false 1 (.t 28))⟩,⟨none,none,(.mupd none (.t 25) (.t 27) (.t 29))⟩]) .skip))))) (.ops [⟨none,(some 30),(.bin .add (.t 12) (.c (.int .i64 1)))⟩,⟨none,(some 12),(.mov (.t 30))⟩]))))))) (.seq (.ops [⟨none,(some 31),(.mov (.t 3))⟩,⟨none,(some 2),(.mov (.t 31))⟩]) .ret))))⟩
theorem is_check_things:IsFun Go.Proofs.Tryz.prog n_check_things m_check_things:=isFun_ok (by kernel_rfl)
abbrev n_check_owners:FuncId:=26
def pc_check_owners_1:MCode:=(.ops [⟨none,(some 1),(.box (.t 0))⟩,⟨none,(some 2),(.mov (.c .nil))⟩])
theorem cp_check_owners_1:comp Go.Proofs.Tryz.prog 49 ⟨true,SBs⟩ (cL (fnCode Go.Proofs.Tryz.prog n_check_owners))=some pc_check_owners_1:=by kernel_rfl
def pc_check_owners_2:MCode:=(.ops [⟨none,(some 10),(.fld 2 (.t 1))⟩,⟨none,(some 11),(.load false 1 (.t 10))⟩,⟨none,(some 12),(.len false (.t 11))⟩,⟨none,(some 13),(.mksl true 1 8 [(.int .i64 0)] (.t 12) (.t 12))⟩,⟨none,(some 3),(.alloc [.nil])⟩,⟨none,none,(.store 1 (.t 3) (.t 13))⟩])
theorem cp_check_owners_2:comp Go.Proofs.Tryz.prog 49 ⟨true,SBs⟩ (cL (cR (fnCode Go.Proofs.Tryz.prog n_check_owners)))=some pc_check_owners_2:=by kernel_rfl
def pc_check_owners_3:MCode:=(.seq (.ops [⟨none,(some 14),(.fld 1 (.t 1))⟩,⟨none,(some 15),(.load false 1 (.t 14))⟩,⟨none,(some 16),(.len false (.t 15))⟩,⟨none,(some 17),(.mov (.c (.int .i64 0)))⟩]) (.block 0 (.loop (.seq (.ops [⟨none,(some 18),(.bin .lss (.t 17) (.t 16))⟩]) (.seq (.cond (.t 18) .skip (.exit 0)) (.seq (.block 1 (.seq (.ops [⟨none,(some 19),(.mov (.t 17))⟩,⟨none,(some 20),(.idx 3 (.t 15) (.t 17))⟩,⟨none,(some 21),(.load true 3 (.t 20))⟩,⟨none,(some 5),(.alloc [(.str []),.nil,(.int .i64 0)])⟩,⟨none,(some 4),(.mov (.t 19))⟩,⟨none,none,(.store 3 (.t 5) (.t 21))⟩]) (.ops [⟨none,(some 22),(.load false 1 (.t 3))⟩,⟨none,(some 23),(.fld 2 (.t 5))⟩,⟨none,(some 24),(.load false 1 (.t 23))⟩,⟨none,(some 25),(.mov (.t 4))⟩,⟨none,(some 26),(.idx 1 (.t 22) (.t 24))⟩,⟨none,none,(.store 1 (.t 26) (.t 25))⟩]))) (.ops [⟨none,(some 27),(.bin .add (.t 17) (.c (.int .i64 1)))⟩,⟨none,(some 17),(.mov (.t 27))⟩])))))))
theorem cp_check_owners_3:comp Go.Proofs.Tryz.prog 49 ⟨true,SBs⟩ (cL (cR (cR (fnCode Go.Proofs.Tryz.prog n_check_owners))))=some pc_check_owners_3:=by kernel_rfl
def pc_check_owners_4:MCode:=(.ops [⟨none,(some 28),(.fld 2 (.t 1))⟩,⟨none,(some 29),(.load false 1 (.t 28))⟩,⟨none,(some 30),(.sub 53 [(.t 29)])⟩])
theorem cp_check_owners_4:comp Go.Proofs.Tryz.prog 49 ⟨true,SBs⟩ (cL (cL (cR (cR (cR (fnCode Go.Proofs.Tryz.prog n_check_owners))))))=some pc_check_owners_4:=by kernel_rfl
def pc_check_owners_5:MCode:=(.seq (.ops [⟨none,(some 6),(.mov (.t 31))⟩]) (.ops [⟨none,(some 7),(.alloc [(.int .i64 0),(.int .i64 0),(.str []),(.str []),.nil])⟩,⟨none,none,(.store 5 (.t 7) (.t 32))⟩]))
theorem cp_check_owners_5:comp Go.Proofs.Tryz.prog 49 ⟨true,SBs⟩ (cL (cL (cR (cL (cR (cR (cR (fnCode Go.Proofs.Tryz.prog n_check_owners))))))))=some pc_check_owners_5:=by kernel_rfl
def pc_check_owners_6:MCode:=(.block 3 (.seq (.ops [⟨none,(some 33),(.fld 4 (.t 7))⟩,⟨none,(some 34),(.load false 1 (.t 33))⟩,⟨none,(some 35),(.len false (.t 34))⟩,⟨none,(some 36),(.mov (.c (.int .i64 0)))⟩]) (.block 4 (.loop (.seq (.ops [⟨none,(some 37),(.bin .lss (.t 36) (.t 35))⟩]) (.seq (.cond (.t 37) .skip (.exit 4)) (.seq (.block 5 (.seq (.ops [⟨none,(some 38),(.idx 1 (.t 34) (.t 36))⟩,⟨none,(some 39),(.load false 1 (.t 38))⟩,⟨none,(some 9),(.mov (.t 39))⟩]) (.ops [⟨none,(some 40),(.load false 1 (.t 3))⟩,⟨none,(some 41),(.mov (.t 9))⟩,⟨none,(some 42),(.load false 1 (.t 3))⟩,⟨none,(some 43),(.mov (.t 6))⟩,⟨none,(some 44),(.idx 1 (.t 42) (.t 43))⟩,⟨none,(some 45),(.load false 1 (.t 44))⟩,⟨none,(some 46),(.idx 1 (.t 40) (.t 41))⟩,⟨none,none,(.store 1 (.t 46) (.t 45))⟩]))) (.ops [⟨none,(some 47),(.bin .add (.t 36) (.c (.int .i64 1)))⟩,⟨none,(some 36),(.mov (.t 47))⟩]))))))))
theorem cp_check_owners_6:comp Go.Proofs.Tryz.prog 49 ⟨true,SBs⟩ (cR (cL (cR (cL (cR (cR (cR (fnCode Go.Proofs.Tryz.prog n_check_owners))))))))=some pc_check_owners_6:=by kernel_rfl
def pc_check_owners_7:MCode:=(.seq (.ops [⟨none,(some 48),(.load false 1 (.t 3))⟩,⟨none,(some 2),(.mov (.t 48))⟩]) .ret)
theorem cp_check_owners_7:comp Go.Proofs.Tryz.prog 49 ⟨true,SBs⟩ (cR (cR (cR (cR (fnCode Go.Proofs.Tryz.prog n_check_owners)))))=some pc_check_owners_7:=by kernel_rfl
noncomputable abbrev code_check_owners:Code:=(.seq (cL (fnCode Go.Proofs.Tryz.prog n_check_owners)) (.seq (cL (cR (fnCode Go.Proofs.Tryz.prog n_check_owners))) (.seq (cL (cR (cR (fnCode Go.Proofs.Tryz.prog n_check_owners)))) (.seq (.seq (cL (cL (cR (cR (cR (fnCode Go.Proofs.Tryz.prog n_check_owners)))))) (.block 2 (.rangeFunc (.tmp 30) #[31,32] (cL (cL (cR (cL (cR (cR (cR (fnCode Go.Proofs.Tryz.prog n_check_owners)))))))) (cR (cL (cR (cL (cR (cR (cR (fnCode Go.Proofs.Tryz.prog n_check_owners))))))))))) (cR (cR (cR (cR (fnCode Go.Proofs.Tryz.prog n_check_owners)))))))))
theorem hc_check_owners:HasCode Go.Proofs.Tryz.prog n_check_owners 49 [(.tmp 2)] code_check_owners:=⟨Go.Proofs.Tryz.f26,by kernel_rfl,by kernel_rfl,by kernel_rfl,by kernel_rfl⟩
abbrev n_check_locals:FuncId:=27
def m_check_locals:MFun:=⟨126,⟨false,[22,45,46,77,44,72,73,74,75,76,78,85,86,90,91,92,98,99,100,101,102,107,108,112,113,25,28,29,30,31,32,48,50,52,51,79,54,53,1000000]⟩,[(.tmp 2)],
 (.seq (.ops [⟨none,(some 1),(.box (.t 0))⟩,⟨none,(some 2),(.mov (.c .nil))⟩]) (.seq (.ops [⟨none,(some 16),(.load true 3 (.t 1))⟩,⟨none,(some 17),(.sub 25 [(.t 16)])⟩,⟨none,(some 3),(.mov (.t 17))⟩]) (.seq (.ops [⟨none,(some 18),(.load true 3 (.t 1))⟩,⟨none,(some 19),(.call 26 [(.t 18)])⟩,⟨none,(some 4),(.mov (.t 19))⟩]) (.seq (.ops [⟨none,(some 20),(.fld 1 (.t 1))⟩,⟨none,(some 21),(.loadF (.t 20))⟩,⟨none,(some 22),(.len false (.t 21))⟩,⟨none,(some 23),(.mkslF 24 .nil (.t 22) (.t 22))⟩,⟨none,(some 5),(.mov (.t 23))⟩]) (.seq (.ops [⟨none,(some 24),(.fld 1 (.t 1))⟩,⟨none,(some 25),(.loadF (.t 24))⟩,⟨none,(some 26),(.len false (.t 25))⟩,⟨none,(some 27),(.mkslF 8 .nilMap (.t 26) (.t 26))⟩,⟨none,(some 6),(.mov (.t 27))⟩]) (.seq (.seq (.ops [⟨none,(some 28),(.fld 1 (.t 1))⟩,⟨none,(some 29),(.loadF (.t 28))⟩,⟨none,(some 30),(.len false (.t 29))⟩,⟨none,(some 31),(.mov (.c (.int .i64 0)))⟩]) (.block 0 (.loop (.seq (.ops [⟨none,(some 32),(.bin .lss (.t 31) (.t 30))⟩]) (.seq (.cond (.t 32) .skip (.exit 0)) (.seq (.block 1 (.seq (.ops [⟨none,(some 33),(.mov (.t 31))⟩,⟨none,(some 34),(.idx 3 (.t 29) (.t 31))⟩,⟨none,(some 35),(.load true 3 (.t 34))⟩,⟨none,(some 8),(.alloc [(.str []),.nil,(.int .i64 0)])⟩,⟨none,(some 7),(.mov (.t 33))⟩,⟨none,none,(.store 3 (.t 8) (.t 35))⟩]) (.seq (.ops [⟨none,(some 36),(.mov (.t 5))⟩,⟨none,(some 37),(.mov (.t 7))⟩,⟨none,(some 38),(.fld 1 (.t 8))⟩,⟨none,(some 39),(.loadF (.t 38))⟩,⟨none,(some 40),(.sub 54 [(.t 39)])⟩,⟨none,(some 41),(.idx 1 (.t 36) (.t 37))⟩,⟨none,none,(.storeF (.t 41) (.t 40))⟩]) (.seq (.ops [⟨none,(some 42),(.mov (.t 6))⟩,⟨none,(some 43),(.mov (.t 7))⟩,⟨none,(some 44),(.mkmap none)⟩,⟨none,(some 45),(.idx 1 (.t 42) (.t 43))⟩,⟨none,none,(.storeF (.t 45) (.t 44))⟩]) (.seq (.ops [⟨none,(some 46),(.fld 1 (.t 8))⟩,⟨none,(some 47),(.loadF (.t 46))⟩,⟨none,(some 48),(.len false (.t 47))⟩,⟨none,(some 49),(.mov (.c (.int .i64 0)))⟩]) (.block 2 (.loop (.seq (.ops [⟨none,(some 50),(.bin .lss (.t 49) (.t 48))⟩]) (.seq (.cond (.t 50) .skip (.exit 2)) (.seq (.block 3 (.seq (.ops [⟨none,(some 51),(.idx 1 (.t 47) (.t 49))⟩,⟨none,(some 52),(.load false 1 (.t 51))⟩,⟨none,(some 10),(.mov (.t 52))⟩]) (.ops [⟨none,(some 53),(.mov (.t 6))⟩,⟨none,(some 54),(.mov (.t 7))⟩,⟨none,(some 55),(.idx 1 (.t 53) (.t 54))⟩,⟨none,(some 56),(.loadF (.t 55))⟩,⟨none,(some 57),(.mov (.t 10))⟩,⟨none,none,(.mupdF none (.t 56) (.t 57) (.c (.bool true)))⟩]))) (.ops [⟨none,(some 58),(.bin .add (.t 49) (.c (.int .i64 1)))⟩,⟨none,(some 49),(.mov (.t 58))⟩]))))))))))) (.ops [⟨none,(some 59),(.bin .add (.t 31) (.c (.int .i64 1)))⟩,⟨none,(some 31),(.mov (.t 59))⟩]))))))) (.seq (.seq (.ops [⟨none,(some 60),(.fld 2 (.t 1))⟩,⟨none,(some 61),(.loadF (.t 60))⟩,⟨none,(some 62),(.len false (.t 61))⟩,⟨none,(some 63),(.mov (.c (.int .i64 0)))⟩]) (.block 4 (.loop (.seq (.ops [⟨none,(some 64),(.bin .lss (.t 63) (.t 62))⟩]) (.seq (.cond (.t 64) .skip (.exit 4)) (.seq (.block 5 (.seq (.ops [⟨none,(some 65),(.mov (.t 63))⟩,⟨none,(some 66),(.idx 5 (.t 61) (.t 63))⟩,⟨none,(some 67),(.load true 5 (.t 66))⟩,⟨none,(some 12),(.alloc [(.int .i64 0),(.int .i64 0),(.str []),(.str []),.nil])⟩,⟨none,(some 11),(.mov (.t 65))⟩,⟨none,none,(.store 5 (.t 12) (.t 67))⟩]) (.seq (.seq (.ops [⟨none,(some 68),(.fld 0 (.t 12))⟩,⟨none,(some 69),(.load false 1 (.t 68))⟩,⟨none,(some 70),(.bin .neq (.t 69) (.c (.int .i64 9)))⟩,⟨none,(some 71),(.mov (.t 70))⟩,⟨(some (71,true)),(some 72),(.fld 0 (.t 12))⟩,⟨(some (71,true)),(some 73),(.load false 1 (.t 72))⟩,⟨(some (71,true)),(some 74),(.bin .neq (.t 73) (.c (.int .i64 10)))⟩,⟨none,(some 75),(.pick (.t 71) (.t 74) (.c (.bool false)))⟩,⟨none,(some 76),(.mov (.t 75))⟩,⟨(some (76,true)),(some 77),(.fld 0 (.t 12))⟩,⟨(some (76,true)),(some 78),(.load false 1 (.t 77))⟩,⟨(some (76,true)),(some 79),(.bin .neq (.t 78) (.c (.int .i64 11)))⟩,⟨none,(some 80),(.pick (.t 76) (.t 79) (.c (.bool false)))⟩]) (.cond (.t 80) (.exit 5) .skip)) (.seq (.ops [⟨none,(some 82),(.mov (.t 3))⟩,⟨none,(some 83),(.fld 2 (.t 12))⟩,⟨none,(some 84),(.load false 1 (.t 83))⟩,⟨none,(some 85),(.lkpF true none (.int .i64 0) (.t 82) (.t 84))⟩,⟨none,(some 81),(.mov (.t 85))⟩,⟨none,(some 86),(.ext (.t 81) 0)⟩,⟨none,(some 87),(.ext (.t 81) 1)⟩,⟨none,(some 13),(.mov (.t 86))⟩,⟨none,(some 14),(.mov (.t 87))⟩]) (.seq (.ops [⟨none,(some 88),(.mov (.t 4))⟩,⟨none,(some 89),(.mov (.t 11))⟩,⟨none,(some 90),(.idx 1 (.t 88) (.t 89))⟩,⟨none,(some 91),(.load false 1 (.t 90))⟩,⟨none,(some 15),(.mov (.t 91))⟩]) (.seq (.seq (.ops [⟨none,(some 92),(.fld 2 (.t 12))⟩,⟨none,(some 93),(.load false 1 (.t 92))⟩,⟨none,(some 94),(.bin .eql (.t 93) (.c (.str [])))⟩,⟨none,(some 95),(.mov (.t 94))⟩,⟨(some (95,false)),(some 96),(.mov (.t 14))⟩,⟨none,(some 97),(.pick (.t 95) (.c (.bool true)) (.t 96))⟩,⟨none,(some 98),(.mov (.t 97))⟩,⟨(some (98,false)),(some 99),(.mov (.t 6))⟩,⟨(some (98,false)),(some 100),(.mov (.t 15))⟩,⟨(some (98,false)),(some 101),(.idx 1 (.t 99) (.t 100))⟩,⟨(some (98,false)),(some 102),(.loadF (.t 101))⟩,⟨(some (98,false)),(some 103),(.fld 2 (.t 12))⟩,⟨(some (98,false)),(some 104),(.load false 1 (.t 103))⟩,⟨(some (98,false)),(some 105),(.lkpF false none (.bool false) (.t 102) (.t 104))⟩,⟨none,(some 106),(.pick (.t 98) (.c (.bool true)) (.t 105))⟩]) (.cond (.t 106) (.exit 5) .skip)) (.seq (.ops [⟨none,(some 107),(.mov (.t 6))⟩,⟨none,(some 108),(.mov (.t 15))⟩,⟨none,(some 109),(.idx 1 (.t 107) (.t 108))⟩,⟨none,(some 110),(.loadF (.t 109))⟩,⟨none,(some 111),(.fld 2 (.t 12))⟩,⟨none,(some 112),(.load false 1 (.t 111))⟩,⟨none,none,(.mupdF none (.t 110) (.t 112) (.c (.bool true)))⟩]) (.draw 2 [⟨⟨none,(some 113),(.mov (.t 5))⟩,[],false⟩,⟨⟨none,(some 114),(.mov (.t 15))⟩,[],false⟩,⟨⟨none,(some 115),(.mov (.t 5))⟩,[],false⟩,⟨⟨none,(some 116),(.mov (.t 15))⟩,[],false⟩,⟨⟨none,(some 117),(.idx 1 (.t 115) (.t 116))⟩,[2,3],false⟩,⟨⟨none,(some 118),(.loadF (.t 117))⟩,[4],false⟩,⟨⟨none,(some 119),(.fld 2 (.t 12))⟩,[],false⟩,⟨⟨none,(some 120),(.load false 1 (.t 119))⟩,[6],false⟩,⟨⟨none,(some 121),(.bslice 1 1 [(.str [])] [(0,(.t 120))])⟩,[7],false⟩,⟨⟨none,(some 122),(.appF 1 16 (.t 118) (.t 121))⟩,[5,8],true⟩,⟨⟨none,(some 123),(.idx 1 (.t 113) (.t 114))⟩,[0,1,0,1,2,3,4,5,6,7,8,9],false⟩,⟨⟨none,none,(.storeF (.t 123) (.t 122))⟩,[10,9,9,0,1,2,3,4,5,6,7,8,9],true⟩])))))))) (.ops [⟨none,(some 124),(.bin .add (.t 63) (.c (.int .i64 1)))⟩,⟨none,(some 63),(.mov (.t 124))⟩]))))))) (.seq (.ops [⟨none,(some 125),(.mov (.t 5))⟩,⟨none,(some 2),(.mov (.t 125))⟩]) .ret))))))))⟩
theorem is_check_locals:IsFun Go.Proofs.Tryz.prog n_check_locals m_check_locals:=isFun_ok (by kernel_rfl)
abbrev n_check_search_bound:FuncId:=28
def m_check_search_bound:MFun:=⟨77,⟨false,SBs⟩,[(.tmp 2)],
 (.seq (.ops [⟨none,(some 1),(.box (.t 0))⟩,⟨none,(some 2),(.mov (.c (.bool false)))⟩]) (.seq (.seq (.ops [⟨none,(some 10),(.fld 0 (.t 1))⟩,⟨none,(some 11),(.fld 1 (.t 10))⟩,⟨none,(some 12),(.load false 1 (.t 11))⟩,⟨none,(some 13),(.len false (.t 12))⟩,⟨none,(some 14),(.bin .gtr (.t 13) (.c (.int .i64 16)))⟩]) (.cond (.t 14) (.seq (.ops [⟨none,(some 2),(.mov (.c (.bool true)))⟩]) .ret) .skip)) (.seq (.ops [⟨none,(some 15),(.mkmap (some .i64))⟩,⟨none,(some 3),(.mov (.t 15))⟩]) (.seq (.seq (.ops [⟨none,(some 16),(.fld 0 (.t 1))⟩,⟨none,(some 17),(.fld 0 (.t 16))⟩,⟨none,(some 18),(.load false 1 (.t 17))⟩,⟨none,(some 19),(.len false (.t 18))⟩,⟨none,(some 20),(.mov (.c (.int .i64 0)))⟩]) (.block 0 (.loop (.seq (.ops [⟨none,(some 21),(.bin .lss (.t 20) (.t 19))⟩]) (.seq (.cond (.t 21) .skip (.exit 0)) (.seq (.block 1 (.seq (.ops [⟨none,(some 22),(.idx 3 (.t 18) (.t 20))⟩,⟨none,(some 23),(.load true 3 (.t 22))⟩,⟨none,(some 5),(.alloc [(.int .i64 0),(.str []),(.int .i64 0)])⟩,⟨none,none,(.store 3 (.t 5) (.t 23))⟩]) (.ops [⟨none,(some 24),(.mov (.t 3))⟩,⟨none,(some 25),(.fld 0 (.t 5))⟩,⟨none,(some 26),(.load false 1 (.t 25))⟩,⟨none,(some 27),(.lkp false (some .i64) (.int .i64 0) (.t 24) (.t 26))⟩,⟨none,(some 28),(.bin .add (.t 27) (.c (.int .i64 1)))⟩,⟨none,none,(.mupd (some .i64) (.t 24) (.t 26) (.t 28))⟩]))) (.ops [⟨none,(some 29),(.bin .add (.t 20) (.c (.int .i64 1)))⟩,⟨none,(some 20),(.mov (.t 29))⟩]))))))) (.seq (.seq (.ops [⟨none,(some 30),(.mov (.t 3))⟩,⟨none,(some 31),(.lkp false (some .i64) (.int .i64 0) (.t 30) (.c (.int .i64 0)))⟩,⟨none,(some 32),(.bin .gtr (.t 31) (.c (.int .i64 16)))⟩,⟨none,(some 33),(.mov (.t 32))⟩,⟨(some (33,false)),(some 34),(.mov (.t 3))⟩,⟨(some (33,false)),(some 35),(.lkp false (some .i64) (.int .i64 0) (.t 34) (.c (.int .i64 1)))⟩,⟨(some (33,false)),(some 36),(.bin .gtr (.t 35) (.c (.int .i64 8)))⟩,⟨none,(some 37),(.pick (.t 33) (.c (.bool true)) (.t 36))⟩,⟨none,(some 38),(.mov (.t 37))⟩,⟨(some (38,false)),(some 39),(.mov (.t 3))⟩,⟨(some (38,false)),(some 40),(.lkp false (some .i64) (.int .i64 0) (.t 39) (.c (.int .i64 2)))⟩,⟨(some (38,false)),(some 41),(.bin .gtr (.t 40) (.c (.int .i64 8)))⟩,⟨none,(some 42),(.pick (.t 38) (.c (.bool true)) (.t 41))⟩,⟨none,(some 43),(.mov (.t 42))⟩,⟨(some (43,false)),(some 44),(.mov (.t 3))⟩,⟨(some (43,false)),(some 45),(.lkp false (some .i64) (.int .i64 0) (.t 44) (.c (.int .i64 3)))⟩,⟨(some (43,false)),(some 46),(.bin .gtr (.t 45) (.c (.int .i64 8)))⟩,⟨none,(some 47),(.pick (.t 43) (.c (.bool true)) (.t 46))⟩]) (.cond (.t 47) (.seq (.ops [⟨none,(some 2),(.mov (.c (.bool true)))⟩]) .ret) .skip)) (.seq (.seq (.ops [⟨none,(some 48),(.fld 6 (.t 1))⟩,⟨none,(some 49),(.load false 1 (.t 48))⟩,⟨none,(some 50),(.len false (.t 49))⟩,⟨none,(some 51),(.mov (.c (.int .i64 0)))⟩]) (.block 2 (.loop (.seq (.ops [⟨none,(some 52),(.bin .lss (.t 51) (.t 50))⟩]) (.seq (.cond (.t 52) .skip (.exit 2)) (.seq (.block 3 (.seq (.ops [⟨none,(some 53),(.idx 1 (.t 49) (.t 51))⟩,⟨none,(some 54),(.load false 1 (.t 53))⟩,⟨none,(some 7),(.mov (.t 54))⟩]) (.seq (.ops [⟨none,(some 55),(.mov (.t 7))⟩,⟨none,(some 56),(.len false (.t 55))⟩,⟨none,(some 57),(.bin .gtr (.t 56) (.c (.int .i64 16)))⟩]) (.cond (.t 57) (.seq (.ops [⟨none,(some 2),(.mov (.c (.bool true)))⟩]) .ret) .skip)))) (.ops [⟨none,(some 58),(.bin .add (.t 51) (.c (.int .i64 1)))⟩,⟨none,(some 51),(.mov (.t 58))⟩]))))))) (.seq (.seq (.ops [⟨none,(some 59),(.fld 0 (.t 1))⟩,⟨none,(some 60),(.fld 2 (.t 59))⟩,⟨none,(some 61),(.load false 1 (.t 60))⟩,⟨none,(some 62),(.len false (.t 61))⟩,⟨none,(some 63),(.mov (.c (.int .i64 0)))⟩]) (.block 4 (.loop (.seq (.ops [⟨none,(some 64),(.bin .lss (.t 63) (.t 62))⟩]) (.seq (.cond (.t 64) .skip (.exit 4)) (.seq (.block 5 (.seq (.ops [⟨none,(some 65),(.idx 5 (.t 61) (.t 63))⟩,⟨none,(some 66),(.load true 5 (.t 65))⟩,⟨none,(some 9),(.alloc [(.int .i64 0),(.int .i64 0),(.str []),(.str []),.nil])⟩,⟨none,none,(.store 5 (.t 9) (.t 66))⟩]) (.seq (.ops [⟨none,(some 67),(.fld 0 (.t 9))⟩,⟨none,(some 68),(.load false 1 (.t 67))⟩,⟨none,(some 69),(.bin .eql (.t 68) (.c (.int .i64 10)))⟩,⟨none,(some 70),(.mov (.t 69))⟩,⟨(some (70,true)),(some 71),(.fld 4 (.t 9))⟩,⟨(some (70,true)),(some 72),(.load false 1 (.t 71))⟩,⟨(some (70,true)),(some 73),(.len false (.t 72))⟩,⟨(some (70,true)),(some 74),(.bin .gtr (.t 73) (.c (.int .i64 16)))⟩,⟨none,(some 75),(.pick (.t 70) (.t 74) (.c (.bool false)))⟩]) (.cond (.t 75) (.seq (.ops [⟨none,(some 2),(.mov (.c (.bool true)))⟩]) .ret) .skip)))) (.ops [⟨none,(some 76),(.bin .add (.t 63) (.c (.int .i64 1)))⟩,⟨none,(some 63),(.mov (.t 76))⟩]))))))) (.seq (.ops [⟨none,(some 2),(.mov (.c (.bool false)))⟩]) .ret))))))))⟩
theorem is_check_search_bound:IsFun Go.Proofs.Tryz.prog n_check_search_bound m_check_search_bound:=isFun_ok (by kernel_rfl)
abbrev n_check_search_twice:FuncId:=29
def m_check_search_twice:MFun:=⟨61,⟨false,SBs⟩,[(.tmp 2)],
 (.seq (.ops [⟨none,(some 1),(.box (.t 0))⟩,⟨none,(some 2),(.mov (.c (.bool false)))⟩]) (.seq (.seq (.ops [⟨none,(some 10),(.fld 3 (.t 1))⟩,⟨none,(some 11),(.load false 1 (.t 10))⟩,⟨none,(some 12),(.lenm (.t 11))⟩,⟨none,(some 13),(.fld 0 (.t 1))⟩,⟨none,(some 14),(.fld 0 (.t 13))⟩,⟨none,(some 15),(.load false 1 (.t 14))⟩,⟨none,(some 16),(.len false (.t 15))⟩,⟨none,(some 17),(.bin .lss (.t 12) (.t 16))⟩,⟨none,(some 18),(.mov (.t 17))⟩,⟨(some (18,false)),(some 19),(.fld 4 (.t 1))⟩,⟨(some (18,false)),(some 20),(.load false 1 (.t 19))⟩,⟨(some (18,false)),(some 21),(.lenm (.t 20))⟩,⟨(some (18,false)),(some 22),(.fld 0 (.t 1))⟩,⟨(some (18,false)),(some 23),(.fld 1 (.t 22))⟩,⟨(some (18,false)),(some 24),(.load false 1 (.t 23))⟩,⟨(some (18,false)),(some 25),(.len false (.t 24))⟩,⟨(some (18,false)),(some 26),(.bin .lss (.t 21) (.t 25))⟩,⟨none,(some 27),(.pick (.t 18) (.c (.bool true)) (.t 26))⟩]) (.cond (.t 27) (.seq (.ops [⟨none,(some 2),(.mov (.c (.bool true)))⟩]) .ret) .skip)) (.seq (.seq (.ops [⟨none,(some 28),(.fld 0 (.t 1))⟩,⟨none,(some 29),(.fld 1 (.t 28))⟩,⟨none,(some 30),(.load false 1 (.t 29))⟩,⟨none,(some 31),(.len false (.t 30))⟩,⟨none,(some 32),(.mov (.c (.int .i64 0)))⟩]) (.block 0 (.loop (.seq (.ops [⟨none,(some 33),(.bin .lss (.t 32) (.t 31))⟩]) (.seq (.cond (.t 33) .skip (.exit 0)) (.seq (.block 1 (.seq (.ops [⟨none,(some 34),(.idx 3 (.t 30) (.t 32))⟩,⟨none,(some 35),(.load true 3 (.t 34))⟩,⟨none,(some 4),(.alloc [(.str []),.nil,(.int .i64 0)])⟩,⟨none,none,(.store 3 (.t 4) (.t 35))⟩]) (.seq (.ops [⟨none,(some 36),(.mkmap none)⟩,⟨none,(some 5),(.mov (.t 36))⟩]) (.seq (.ops [⟨none,(some 37),(.fld 1 (.t 4))⟩,⟨none,(some 38),(.load false 1 (.t 37))⟩,⟨none,(some 39),(.len false (.t 38))⟩,⟨none,(some 40),(.mov (.c (.int .i64 0)))⟩]) (.block 2 (.loop (.seq (.ops [⟨none,(some 41),(.bin .lss (.t 40) (.t 39))⟩]) (.seq (.cond (.t 41) .skip (.exit 2)) (.seq (.block 3 (.seq (.ops [⟨none,(some 42),(.idx 1 (.t 38) (.t 40))⟩,⟨none,(some 43),(.load false 1 (.t 42))⟩,⟨none,(some 7),(.mov (.t 43))⟩]) (.seq (.ops [⟨none,(some 45),(.fld 3 (.t 1))⟩,⟨none,(some 46),(.load false 1 (.t 45))⟩,⟨none,(some 47),(.mov (.t 7))⟩,⟨none,(some 48),(.lkp true none (.int .i64 0) (.t 46) (.t 47))⟩,⟨none,(some 44),(.mov (.t 48))⟩,⟨none,(some 49),(.ext (.t 44) 0)⟩,⟨none,(some 50),(.ext (.t 44) 1)⟩,⟨none,(some 8),(.mov (.t 49))⟩,⟨none,(some 9),(.mov (.t 50))⟩]) (.seq (.seq (.ops [⟨none,(some 51),(.mov (.t 9))⟩,⟨none,(some 52),(.mov (.t 51))⟩,⟨(some (52,false)),(some 53),(.mov (.t 5))⟩,⟨(some (52,false)),(some 54),(.mov (.t 7))⟩,⟨(some (52,false)),(some 55),(.lkp false none (.bool false) (.t 53) (.t 54))⟩,⟨none,(some 56),(.pick (.t 52) (.c (.bool true)) (.t 55))⟩]) (.cond (.t 56) (.seq (.ops [⟨none,(some 2),(.mov (.c (.bool true)))⟩]) .ret) .skip)) (.ops [⟨none,(some 57),(.mov (.t 5))⟩,⟨none,(some 58),(.mov (.t 7))⟩,⟨none,none,(.mupd none (.t 57) (.t 58) (.c (.bool true)))⟩]))))) (.ops [⟨none,(some 59),(.bin .add (.t 40) (.c (.int .i64 1)))⟩,⟨none,(some 40),(.mov (.t 59))⟩])))))))))) (.ops [⟨none,(some 60),(.bin .add (.t 32) (.c (.int .i64 1)))⟩,⟨none,(some 32),(.mov (.t 60))⟩]))))))) (.seq (.ops [⟨none,(some 2),(.mov (.c (.bool false)))⟩]) .ret))))⟩
theorem is_check_search_twice:IsFun Go.Proofs.Tryz.prog n_check_search_twice m_check_search_twice:=isFun_ok (by kernel_rfl)
abbrev n_check_search_name:FuncId:=30
def m_check_search_name:MFun:=⟨127,⟨false,[22,45,46,77,44,72,73,74,75,76,78,85,86,90,91,92,98,99,100,101,102,107,108,112,113,25,28,29,30,31,32,48,50,52,51,79,54,53,1000000]⟩,[(.tmp 2)],
 (.seq (.ops [⟨none,(some 1),(.box (.t 0))⟩,⟨none,(some 2),(.mov (.c (.bool false)))⟩]) (.seq (.seq (.ops [⟨none,(some 19),(.fld 4 (.t 1))⟩,⟨none,(some 20),(.loadF (.t 19))⟩,⟨none,(some 21),(.lkpF true none (.int .i64 0) (.t 20) (.c (.str [109,97,105,110])))⟩,⟨none,(some 18),(.mov (.t 21))⟩,⟨none,(some 22),(.ext (.t 18) 0)⟩,⟨none,(some 23),(.ext (.t 18) 1)⟩,⟨none,(some 3),(.mov (.t 22))⟩,⟨none,(some 4),(.mov (.t 23))⟩]) (.seq (.ops [⟨none,(some 24),(.mov (.t 4))⟩,⟨none,(some 25),(.not (.t 24))⟩]) (.cond (.t 25) (.seq (.ops [⟨none,(some 2),(.mov (.c (.bool true)))⟩]) .ret) .skip))) (.seq (.ops [⟨none,(some 26),(.fld 6 (.t 1))⟩,⟨none,(some 27),(.loadF (.t 26))⟩,⟨none,(some 28),(.len false (.t 27))⟩,⟨none,(some 29),(.mkslF 8 .nilMap (.t 28) (.t 28))⟩,⟨none,(some 5),(.mov (.t 29))⟩]) (.seq (.seq (.ops [⟨none,(some 30),(.fld 6 (.t 1))⟩,⟨none,(some 31),(.loadF (.t 30))⟩,⟨none,(some 32),(.len false (.t 31))⟩,⟨none,(some 33),(.mov (.c (.int .i64 0)))⟩]) (.block 0 (.loop (.seq (.ops [⟨none,(some 34),(.bin .lss (.t 33) (.t 32))⟩]) (.seq (.cond (.t 34) .skip (.exit 0)) (.seq (.block 1 (.seq (.ops [⟨none,(some 35),(.mov (.t 33))⟩,⟨none,(some 36),(.idx 1 (.t 31) (.t 33))⟩,⟨none,(some 37),(.loadF (.t 36))⟩,⟨none,(some 6),(.mov (.t 35))⟩,⟨none,(some 7),(.mov (.t 37))⟩]) (.seq (.ops [⟨none,(some 38),(.mov (.t 5))⟩,⟨none,(some 39),(.mov (.t 6))⟩,⟨none,(some 40),(.mkmap none)⟩,⟨none,(some 41),(.idx 1 (.t 38) (.t 39))⟩,⟨none,none,(.storeF (.t 41) (.t 40))⟩]) (.seq (.ops [⟨none,(some 42),(.mov (.t 7))⟩,⟨none,(some 43),(.len false (.t 42))⟩,⟨none,(some 44),(.mov (.c (.int .i64 0)))⟩]) (.block 2 (.loop (.seq (.ops [⟨none,(some 45),(.bin .lss (.t 44) (.t 43))⟩]) (.seq (.cond (.t 45) .skip (.exit 2)) (.seq (.block 3 (.seq (.ops [⟨none,(some 46),(.idx 1 (.t 42) (.t 44))⟩,⟨none,(some 47),(.load false 1 (.t 46))⟩,⟨none,(some 9),(.mov (.t 47))⟩]) (.ops [⟨none,(some 48),(.mov (.t 5))⟩,⟨none,(some 49),(.mov (.t 6))⟩,⟨none,(some 50),(.idx 1 (.t 48) (.t 49))⟩,⟨none,(some 51),(.loadF (.t 50))⟩,⟨none,(some 52),(.mov (.t 9))⟩,⟨none,none,(.mupdF none (.t 51) (.t 52) (.c (.bool true)))⟩]))) (.ops [⟨none,(some 53),(.bin .add (.t 44) (.c (.int .i64 1)))⟩,⟨none,(some 44),(.mov (.t 53))⟩])))))))))) (.ops [⟨none,(some 54),(.bin .add (.t 33) (.c (.int .i64 1)))⟩,⟨none,(some 33),(.mov (.t 54))⟩]))))))) (.seq (.seq (.ops [⟨none,(some 55),(.fld 0 (.t 1))⟩,⟨none,(some 56),(.fld 2 (.t 55))⟩,⟨none,(some 57),(.loadF (.t 56))⟩,⟨none,(some 58),(.len false (.t 57))⟩,⟨none,(some 59),(.mov (.c (.int .i64 0)))⟩]) (.block 4 (.loop (.seq (.ops [⟨none,(some 60),(.bin .lss (.t 59) (.t 58))⟩]) (.seq (.cond (.t 60) .skip (.exit 4)) (.seq (.block 5 (.seq (.ops [⟨none,(some 61),(.mov (.t 59))⟩,⟨none,(some 62),(.idx 5 (.t 57) (.t 59))⟩,⟨none,(some 63),(.load true 5 (.t 62))⟩,⟨none,(some 11),(.alloc [(.int .i64 0),(.int .i64 0),(.str []),(.str []),.nil])⟩,⟨none,(some 10),(.mov (.t 61))⟩,⟨none,none,(.store 5 (.t 11) (.t 63))⟩]) (.seq (.ops [⟨none,(some 65),(.fld 3 (.t 1))⟩,⟨none,(some 66),(.loadF (.t 65))⟩,⟨none,(some 67),(.fld 2 (.t 11))⟩,⟨none,(some 68),(.load false 1 (.t 67))⟩,⟨none,(some 69),(.lkpF true none (.int .i64 0) (.t 66) (.t 68))⟩,⟨none,(some 64),(.mov (.t 69))⟩,⟨none,(some 70),(.ext (.t 64) 0)⟩,⟨none,(some 71),(.ext (.t 64) 1)⟩,⟨none,(some 12),(.mov (.t 70))⟩,⟨none,(some 13),(.mov (.t 71))⟩]) (.seq (.ops [⟨none,(some 73),(.fld 4 (.t 1))⟩,⟨none,(some 74),(.loadF (.t 73))⟩,⟨none,(some 75),(.fld 3 (.t 11))⟩,⟨none,(some 76),(.load false 1 (.t 75))⟩,⟨none,(some 77),(.lkpF true none (.int .i64 0) (.t 74) (.t 76))⟩,⟨none,(some 72),(.mov (.t 77))⟩,⟨none,(some 78),(.ext (.t 72) 0)⟩,⟨none,(some 79),(.ext (.t 72) 1)⟩,⟨none,(some 14),(.mov (.t 78))⟩,⟨none,(some 15),(.mov (.t 79))⟩]) (.seq (.ops [⟨none,(some 80),(.fld 0 (.t 11))⟩,⟨none,(some 81),(.load false 1 (.t 80))⟩]) (.block 6 (.seq (.seq (.ops [⟨none,(some 83),(.bin .eql (.t 81) (.c (.int .i64 10)))⟩,⟨none,(some 82),(.mov (.t 83))⟩]) (.cond (.t 82) .skip (.ops [⟨none,(some 84),(.bin .eql (.t 81) (.c (.int .i64 11)))⟩,⟨none,(some 82),(.mov (.t 84))⟩]))) (.cond (.t 82) (.seq (.ops [⟨none,(some 85),(.mov (.t 15))⟩,⟨none,(some 86),(.not (.t 85))⟩]) (.cond (.t 86) (.seq (.ops [⟨none,(some 2),(.mov (.c (.bool true)))⟩]) .ret) .skip)) (.seq (.ops [⟨none,(some 88),(.bin .eql (.t 81) (.c (.int .i64 8)))⟩,⟨none,(some 87),(.mov (.t 88))⟩]) (.cond (.t 87) (.seq (.ops [⟨none,(some 89),(.mov (.t 13))⟩,⟨none,(some 90),(.not (.t 89))⟩]) (.cond (.t 90) (.seq (.ops [⟨none,(some 2),(.mov (.c (.bool true)))⟩]) .ret) .skip)) (.seq (.ops [⟨none,(some 92),(.bin .eql (.t 81) (.c (.int .i64 2)))⟩,⟨none,(some 91),(.mov (.t 92))⟩]) (.cond (.t 91) (.seq (.ops [⟨none,(some 93),(.mov (.t 13))⟩,⟨none,(some 94),(.not (.t 93))⟩,⟨none,(some 95),(.mov (.t 94))⟩,⟨(some (95,true)),(some 96),(.mov (.t 5))⟩,⟨(some (95,true)),(some 97),(.fld 5 (.t 1))⟩,⟨(some (95,true)),(some 98),(.loadF (.t 97))⟩,⟨(some (95,true)),(some 99),(.mov (.t 10))⟩,⟨(some (95,true)),(some 100),(.idx 1 (.t 98) (.t 99))⟩,⟨(some (95,true)),(some 101),(.load false 1 (.t 100))⟩,⟨(some (95,true)),(some 102),(.idx 1 (.t 96) (.t 101))⟩,⟨(some (95,true)),(some 103),(.loadF (.t 102))⟩,⟨(some (95,true)),(some 104),(.fld 2 (.t 11))⟩,⟨(some (95,true)),(some 105),(.load false 1 (.t 104))⟩,⟨(some (95,true)),(some 106),(.lkpF false none (.bool false) (.t 103) (.t 105))⟩,⟨(some (95,true)),(some 107),(.not (.t 106))⟩,⟨none,(some 108),(.pick (.t 95) (.t 107) (.c (.bool false)))⟩]) (.cond (.t 108) (.seq (.ops [⟨none,(some 2),(.mov (.c (.bool true)))⟩]) .ret) .skip)) .skip)))))))))))) (.ops [⟨none,(some 109),(.bin .add (.t 59) (.c (.int .i64 1)))⟩,⟨none,(some 59),(.mov (.t 109))⟩]))))))) (.seq (.seq (.ops [⟨none,(some 110),(.fld 0 (.t 1))⟩,⟨none,(some 111),(.fld 0 (.t 110))⟩,⟨none,(some 112),(.loadF (.t 111))⟩,⟨none,(some 113),(.len false (.t 112))⟩,⟨none,(some 114),(.mov (.c (.int .i64 0)))⟩]) (.block 7 (.loop (.seq (.ops [⟨none,(some 115),(.bin .lss (.t 114) (.t 113))⟩]) (.seq (.cond (.t 115) .skip (.exit 7)) (.seq (.block 8 (.seq (.ops [⟨none,(some 116),(.idx 3 (.t 112) (.t 114))⟩,⟨none,(some 117),(.load true 3 (.t 116))⟩,⟨none,(some 17),(.alloc [(.int .i64 0),(.str []),(.int .i64 0)])⟩,⟨none,none,(.store 3 (.t 17) (.t 117))⟩]) (.seq (.ops [⟨none,(some 118),(.fld 0 (.t 17))⟩,⟨none,(some 119),(.load false 1 (.t 118))⟩,⟨none,(some 120),(.bin .lss (.t 119) (.c (.int .i64 0)))⟩,⟨none,(some 121),(.mov (.t 120))⟩,⟨(some (121,false)),(some 122),(.fld 0 (.t 17))⟩,⟨(some (121,false)),(some 123),(.load false 1 (.t 122))⟩,⟨(some (121,false)),(some 124),(.bin .gtr (.t 123) (.c (.int .i64 3)))⟩,⟨none,(some 125),(.pick (.t 121) (.c (.bool true)) (.t 124))⟩]) (.cond (.t 125) (.seq (.ops [⟨none,(some 2),(.mov (.c (.bool true)))⟩]) .ret) .skip)))) (.ops [⟨none,(some 126),(.bin .add (.t 114) (.c (.int .i64 1)))⟩,⟨none,(some 114),(.mov (.t 126))⟩]))))))) (.seq (.ops [⟨none,(some 2),(.mov (.c (.bool false)))⟩]) .ret)))))))⟩
theorem is_check_search_name:IsFun Go.Proofs.Tryz.prog n_check_search_name m_check_search_name:=isFun_ok (by kernel_rfl)
abbrev n_check_search_sort:FuncId:=31
def m_check_search_sort:MFun:=⟨51,⟨false,SBs⟩,[(.tmp 2)],
 (.seq (.ops [⟨none,(some 1),(.box (.t 0))⟩,⟨none,(some 2),(.mov (.c (.bool false)))⟩]) (.seq (.seq (.ops [⟨none,(some 9),(.fld 0 (.t 1))⟩,⟨none,(some 10),(.fld 2 (.t 9))⟩,⟨none,(some 11),(.load false 1 (.t 10))⟩,⟨none,(some 12),(.len false (.t 11))⟩,⟨none,(some 13),(.mov (.c (.int .i64 0)))⟩]) (.block 0 (.loop (.seq (.ops [⟨none,(some 14),(.bin .lss (.t 13) (.t 12))⟩]) (.seq (.cond (.t 14) .skip (.exit 0)) (.seq (.block 1 (.seq (.ops [⟨none,(some 15),(.idx 5 (.t 11) (.t 13))⟩,⟨none,(some 16),(.load true 5 (.t 15))⟩,⟨none,(some 4),(.alloc [(.int .i64 0),(.int .i64 0),(.str []),(.str []),.nil])⟩,⟨none,none,(.store 5 (.t 4) (.t 16))⟩]) (.seq (.ops [⟨none,(some 18),(.fld 3 (.t 1))⟩,⟨none,(some 19),(.load false 1 (.t 18))⟩,⟨none,(some 20),(.fld 2 (.t 4))⟩,⟨none,(some 21),(.load false 1 (.t 20))⟩,⟨none,(some 22),(.lkp true none (.int .i64 0) (.t 19) (.t 21))⟩,⟨none,(some 17),(.mov (.t 22))⟩,⟨none,(some 23),(.ext (.t 17) 0)⟩,⟨none,(some 24),(.ext (.t 17) 1)⟩,⟨none,(some 5),(.mov (.t 23))⟩,⟨none,(some 6),(.mov (.t 24))⟩]) (.seq (.ops [⟨none,(some 25),(.fld 0 (.t 4))⟩,⟨none,(some 26),(.load false 1 (.t 25))⟩]) (.block 2 (.seq (.seq (.ops [⟨none,(some 28),(.bin .eql (.t 26) (.c (.int .i64 2)))⟩,⟨none,(some 27),(.mov (.t 28))⟩]) (.cond (.t 27) .skip (.ops [⟨none,(some 29),(.bin .eql (.t 26) (.c (.int .i64 9)))⟩,⟨none,(some 27),(.mov (.t 29))⟩]))) (.cond (.t 27) (.seq (.ops [⟨none,(some 30),(.mov (.t 6))⟩,⟨none,(some 31),(.mov (.t 30))⟩,⟨(some (31,true)),(some 32),(.mov (.t 5))⟩,⟨(some (31,true)),(some 33),(.bin .neq (.t 32) (.c (.int .i64 0)))⟩,⟨none,(some 34),(.pick (.t 31) (.t 33) (.c (.bool false)))⟩]) (.cond (.t 34) (.seq (.ops [⟨none,(some 2),(.mov (.c (.bool true)))⟩]) .ret) .skip)) (.seq (.seq (.ops [⟨none,(some 36),(.bin .eql (.t 26) (.c (.int .i64 10)))⟩,⟨none,(some 35),(.mov (.t 36))⟩]) (.cond (.t 35) .skip (.ops [⟨none,(some 37),(.bin .eql (.t 26) (.c (.int .i64 11)))⟩,⟨none,(some 35),(.mov (.t 37))⟩]))) (.cond (.t 35) (.seq (.ops [⟨none,(some 38),(.mov (.t 6))⟩]) (.cond (.t 38) (.seq (.ops [⟨none,(some 2),(.mov (.c (.bool true)))⟩]) .ret) .skip)) (.seq (.ops [⟨none,(some 40),(.bin .eql (.t 26) (.c (.int .i64 8)))⟩,⟨none,(some 39),(.mov (.t 40))⟩]) (.cond (.t 39) (.seq (.ops [⟨none,(some 42),(.mov (.t 5))⟩,⟨none,(some 43),(.fld 3 (.t 4))⟩,⟨none,(some 44),(.load false 1 (.t 43))⟩,⟨none,(some 45),(.call 55 [(.t 42),(.t 44)])⟩,⟨none,(some 41),(.mov (.t 45))⟩,⟨none,(some 46),(.ext (.t 41) 0)⟩,⟨none,(some 47),(.ext (.t 41) 1)⟩,⟨none,(some 7),(.mov (.t 46))⟩,⟨none,(some 8),(.mov (.t 47))⟩]) (.seq (.ops [⟨none,(some 48),(.mov (.t 8))⟩,⟨none,(some 49),(.not (.t 48))⟩]) (.cond (.t 49) (.seq (.ops [⟨none,(some 2),(.mov (.c (.bool true)))⟩]) .ret) .skip))) .skip))))))))))) (.ops [⟨none,(some 50),(.bin .add (.t 13) (.c (.int .i64 1)))⟩,⟨none,(some 13),(.mov (.t 50))⟩]))))))) (.seq (.ops [⟨none,(some 2),(.mov (.c (.bool false)))⟩]) .ret)))⟩
theorem is_check_search_sort:IsFun Go.Proofs.Tryz.prog n_check_search_sort m_check_search_sort:=isFun_ok (by kernel_rfl)
abbrev n_check_search_many:FuncId:=32
def m_check_search_many:MFun:=⟨78,⟨false,SBs⟩,[(.tmp 2)],
 (.seq (.ops [⟨none,(some 1),(.box (.t 0))⟩,⟨none,(some 2),(.mov (.c (.bool false)))⟩]) (.seq (.seq (.ops [⟨none,(some 6),(.fld 0 (.t 1))⟩,⟨none,(some 7),(.fld 1 (.t 6))⟩,⟨none,(some 8),(.load false 1 (.t 7))⟩,⟨none,(some 9),(.fld 4 (.t 1))⟩,⟨none,(some 10),(.load false 1 (.t 9))⟩,⟨none,(some 11),(.lkp false none (.int .i64 0) (.t 10) (.c (.str [109,97,105,110])))⟩,⟨none,(some 12),(.idx 3 (.t 8) (.t 11))⟩,⟨none,(some 13),(.fld 1 (.t 12))⟩,⟨none,(some 14),(.load false 1 (.t 13))⟩,⟨none,(some 15),(.len false (.t 14))⟩,⟨none,(some 16),(.bin .gtr (.t 15) (.c (.int .i64 0)))⟩]) (.cond (.t 16) (.seq (.ops [⟨none,(some 2),(.mov (.c (.bool true)))⟩]) .ret) .skip)) (.seq (.seq (.ops [⟨none,(some 17),(.fld 0 (.t 1))⟩,⟨none,(some 18),(.fld 2 (.t 17))⟩,⟨none,(some 19),(.load false 1 (.t 18))⟩,⟨none,(some 20),(.len false (.t 19))⟩,⟨none,(some 21),(.mov (.c (.int .i64 0)))⟩]) (.block 0 (.loop (.seq (.ops [⟨none,(some 22),(.bin .lss (.t 21) (.t 20))⟩]) (.seq (.cond (.t 22) .skip (.exit 0)) (.seq (.block 1 (.seq (.ops [⟨none,(some 23),(.idx 5 (.t 19) (.t 21))⟩,⟨none,(some 24),(.load true 5 (.t 23))⟩,⟨none,(some 4),(.alloc [(.int .i64 0),(.int .i64 0),(.str []),(.str []),.nil])⟩,⟨none,none,(.store 5 (.t 4) (.t 24))⟩]) (.seq (.ops [⟨none,(some 25),(.fld 4 (.t 4))⟩,⟨none,(some 26),(.load false 1 (.t 25))⟩,⟨none,(some 27),(.len false (.t 26))⟩,⟨none,(some 5),(.mov (.t 27))⟩]) (.seq (.seq (.ops [⟨none,(some 28),(.fld 0 (.t 4))⟩,⟨none,(some 29),(.load false 1 (.t 28))⟩]) (.block 2 (.seq (.ops [⟨none,(some 31),(.bin .eql (.t 29) (.c (.int .i64 10)))⟩,⟨none,(some 30),(.mov (.t 31))⟩]) (.cond (.t 30) (.ops [⟨none,(some 32),(.fld 0 (.t 1))⟩,⟨none,(some 33),(.fld 1 (.t 32))⟩,⟨none,(some 34),(.load false 1 (.t 33))⟩,⟨none,(some 35),(.fld 4 (.t 1))⟩,⟨none,(some 36),(.load false 1 (.t 35))⟩,⟨none,(some 37),(.fld 3 (.t 4))⟩,⟨none,(some 38),(.load false 1 (.t 37))⟩,⟨none,(some 39),(.lkp false none (.int .i64 0) (.t 36) (.t 38))⟩,⟨none,(some 40),(.idx 3 (.t 34) (.t 39))⟩,⟨none,(some 41),(.fld 1 (.t 40))⟩,⟨none,(some 42),(.load false 1 (.t 41))⟩,⟨none,(some 43),(.len false (.t 42))⟩,⟨none,(some 5),(.mov (.t 43))⟩]) (.seq (.ops [⟨none,(some 45),(.bin .eql (.t 29) (.c (.int .i64 11)))⟩,⟨none,(some 44),(.mov (.t 45))⟩]) (.cond (.t 44) (.seq (.ops [⟨none,(some 46),(.fld 0 (.t 1))⟩,⟨none,(some 47),(.fld 1 (.t 46))⟩,⟨none,(some 48),(.load false 1 (.t 47))⟩,⟨none,(some 49),(.fld 4 (.t 1))⟩,⟨none,(some 50),(.load false 1 (.t 49))⟩,⟨none,(some 51),(.fld 3 (.t 4))⟩,⟨none,(some 52),(.load false 1 (.t 51))⟩,⟨none,(some 53),(.lkp false none (.int .i64 0) (.t 50) (.t 52))⟩,⟨none,(some 54),(.idx 3 (.t 48) (.t 53))⟩,⟨none,(some 55),(.fld 1 (.t 54))⟩,⟨none,(some 56),(.load false 1 (.t 55))⟩,⟨none,(some 57),(.len false (.t 56))⟩,⟨none,(some 58),(.bin .neq (.t 57) (.c (.int .i64 1)))⟩]) (.cond (.t 58) (.seq (.ops [⟨none,(some 2),(.mov (.c (.bool true)))⟩]) .ret) .skip)) (.seq (.ops [⟨none,(some 60),(.bin .eql (.t 29) (.c (.int .i64 8)))⟩,⟨none,(some 59),(.mov (.t 60))⟩]) (.cond (.t 59) (.ops [⟨none,(some 62),(.fld 3 (.t 1))⟩,⟨none,(some 63),(.load false 1 (.t 62))⟩,⟨none,(some 64),(.fld 2 (.t 4))⟩,⟨none,(some 65),(.load false 1 (.t 64))⟩,⟨none,(some 66),(.lkp false none (.int .i64 0) (.t 63) (.t 65))⟩,⟨none,(some 67),(.fld 3 (.t 4))⟩,⟨none,(some 68),(.load false 1 (.t 67))⟩,⟨none,(some 69),(.call 55 [(.t 66),(.t 68)])⟩,⟨none,(some 61),(.mov (.t 69))⟩,⟨none,(some 70),(.ext (.t 61) 0)⟩,⟨none,(some 71),(.ext (.t 61) 1)⟩,⟨none,(some 5),(.mov (.t 70))⟩]) .skip)))))))) (.seq (.ops [⟨none,(some 72),(.fld 4 (.t 4))⟩,⟨none,(some 73),(.load false 1 (.t 72))⟩,⟨none,(some 74),(.len false (.t 73))⟩,⟨none,(some 75),(.mov (.t 5))⟩,⟨none,(some 76),(.bin .neq (.t 74) (.t 75))⟩]) (.cond (.t 76) (.seq (.ops [⟨none,(some 2),(.mov (.c (.bool true)))⟩]) .ret) .skip)))))) (.ops [⟨none,(some 77),(.bin .add (.t 21) (.c (.int .i64 1)))⟩,⟨none,(some 21),(.mov (.t 77))⟩]))))))) (.seq (.ops [⟨none,(some 2),(.mov (.c (.bool false)))⟩]) .ret))))⟩
theorem is_check_search_many:IsFun Go.Proofs.Tryz.prog n_check_search_many m_check_search_many:=isFun_ok (by kernel_rfl)
abbrev n_lex_name:FuncId:=39
def m_lex_name:MFun:=⟨12,⟨false,SBs⟩,[(.tmp 2)],
 (.seq (.ops [⟨none,(some 2),(.mov (.c (.int .i64 0)))⟩]) (.seq (.seq (.ops [⟨none,(some 4),(.mov (.t 0))⟩,⟨none,(some 5),(.call 64 [(.t 4),(.c (.func 65))])⟩,⟨none,(some 6),(.bin .eql (.t 5) (.c (.int .i64 0)))⟩]) (.cond (.t 6) (.seq (.ops [⟨none,(some 2),(.mov (.c (.int .i64 0)))⟩]) .ret) .skip)) (.seq (.ops [⟨none,(some 7),(.mov (.t 0))⟩,⟨none,(some 8),(.call 64 [(.t 7),(.c (.func 66))])⟩,⟨none,(some 3),(.mov (.t 8))⟩]) (.seq (.seq (.ops [⟨none,(some 9),(.mov (.t 3))⟩,⟨none,(some 10),(.bin .gtr (.t 9) (.c (.int .i64 12)))⟩]) (.cond (.t 10) (.seq (.ops [⟨none,(some 2),(.mov (.c (.int .i64 0)))⟩]) .ret) .skip)) (.seq (.ops [⟨none,(some 11),(.mov (.t 3))⟩,⟨none,(some 2),(.mov (.t 11))⟩]) .ret)))))⟩
theorem is_lex_name:IsFun Go.Proofs.Tryz.prog n_lex_name m_lex_name:=isFun_ok (by kernel_rfl)
abbrev n_lex_number:FuncId:=40
def m_lex_number:MFun:=⟨32,⟨false,SBs⟩,[(.tmp 2)],
 (.seq (.ops [⟨none,(some 2),(.mov (.c (.int .i64 0)))⟩]) (.seq (.ops [⟨none,(some 4),(.mov (.t 0))⟩,⟨none,(some 5),(.call 64 [(.t 4),(.c (.func 67))])⟩,⟨none,(some 3),(.mov (.t 5))⟩]) (.seq (.seq (.ops [⟨none,(some 6),(.mov (.t 3))⟩,⟨none,(some 7),(.bin .eql (.t 6) (.c (.int .i64 0)))⟩,⟨none,(some 8),(.mov (.t 7))⟩,⟨(some (8,false)),(some 9),(.mov (.t 3))⟩,⟨(some (8,false)),(some 10),(.bin .gtr (.t 9) (.c (.int .i64 10)))⟩,⟨none,(some 11),(.pick (.t 8) (.c (.bool true)) (.t 10))⟩,⟨none,(some 12),(.mov (.t 11))⟩,⟨(some (12,false)),(some 13),(.mov (.t 3))⟩,⟨(some (12,false)),(some 14),(.bin .gtr (.t 13) (.c (.int .i64 1)))⟩,⟨(some (12,false)),(some 15),(.mov (.t 14))⟩,⟨(some (15,true)),(some 16),(.mov (.t 0))⟩,⟨(some (15,true)),(some 17),(.idxs (.t 16) (.c (.int .i64 0)))⟩,⟨(some (15,true)),(some 18),(.bin .eql (.t 17) (.c (.int .u8 48)))⟩,⟨(some (12,false)),(some 19),(.pick (.t 15) (.t 18) (.c (.bool false)))⟩,⟨none,(some 20),(.pick (.t 12) (.c (.bool true)) (.t 19))⟩]) (.cond (.t 20) (.seq (.ops [⟨none,(some 2),(.mov (.c (.int .i64 0)))⟩]) .ret) .skip)) (.seq (.seq (.ops [⟨none,(some 21),(.mov (.t 0))⟩,⟨none,(some 22),(.mov (.t 3))⟩,⟨none,(some 23),(.slstr (.t 21) (some (.t 22)) none)⟩,⟨none,(some 24),(.call 64 [(.t 23),(.c (.func 68))])⟩,⟨none,(some 25),(.bin .gtr (.t 24) (.c (.int .i64 0)))⟩]) (.cond (.t 25) (.seq (.ops [⟨none,(some 2),(.mov (.c (.int .i64 0)))⟩]) .ret) .skip)) (.seq (.seq (.ops [⟨none,(some 26),(.mov (.t 0))⟩,⟨none,(some 27),(.mov (.t 3))⟩,⟨none,(some 28),(.slstr (.t 26) none (some (.t 27)))⟩,⟨none,(some 29),(.call 69 [(.t 28)])⟩,⟨none,(some 30),(.bin .geq (.t 29) (.c (.int .i64 4294967296)))⟩]) (.cond (.t 30) (.seq (.ops [⟨none,(some 2),(.mov (.c (.int .i64 0)))⟩]) .ret) .skip)) (.seq (.ops [⟨none,(some 31),(.mov (.t 3))⟩,⟨none,(some 2),(.mov (.t 31))⟩]) .ret))))))⟩
theorem is_lex_number:IsFun Go.Proofs.Tryz.prog n_lex_number m_lex_number:=isFun_ok (by kernel_rfl)
abbrev n_lex_sign:FuncId:=41
def m_lex_sign:MFun:=⟨9,⟨false,SBs⟩,[(.tmp 2)],
 (.seq (.ops [⟨none,(some 2),(.mov (.c (.int .i64 0)))⟩]) (.seq (.seq (.ops [⟨none,(some 3),(.mov (.t 0))⟩,⟨none,(some 4),(.call 70 [(.t 3),(.c (.str [61,61]))])⟩]) (.cond (.t 4) (.seq (.ops [⟨none,(some 2),(.mov (.c (.int .i64 2)))⟩]) .ret) .skip)) (.seq (.seq (.ops [⟨none,(some 5),(.mov (.t 0))⟩,⟨none,(some 6),(.idxs (.t 5) (.c (.int .i64 0)))⟩,⟨none,(some 7),(.call 71 [(.c (.str [40,41,123,125,44,59,46,61,43,45,42,60])),(.t 6)])⟩,⟨none,(some 8),(.bin .geq (.t 7) (.c (.int .i64 0)))⟩]) (.cond (.t 8) (.seq (.ops [⟨none,(some 2),(.mov (.c (.int .i64 1)))⟩]) .ret) .skip)) (.seq (.ops [⟨none,(some 2),(.mov (.c (.int .i64 0)))⟩]) .ret))))⟩
theorem is_lex_sign:IsFun Go.Proofs.Tryz.prog n_lex_sign m_lex_sign:=isFun_ok (by kernel_rfl)
abbrev n_lex_blank:FuncId:=42
def m_lex_blank:MFun:=⟨13,⟨false,SBs⟩,[(.tmp 2)],
 (.seq (.ops [⟨none,(some 2),(.mov (.c (.bool false)))⟩]) (.seq (.ops [⟨none,(some 3),(.mov (.t 0))⟩,⟨none,(some 4),(.bin .eql (.t 3) (.c (.int .i32 9)))⟩,⟨none,(some 5),(.mov (.t 4))⟩,⟨(some (5,false)),(some 6),(.mov (.t 0))⟩,⟨(some (5,false)),(some 7),(.bin .eql (.t 6) (.c (.int .i32 10)))⟩,⟨none,(some 8),(.pick (.t 5) (.c (.bool true)) (.t 7))⟩,⟨none,(some 9),(.mov (.t 8))⟩,⟨(some (9,false)),(some 10),(.mov (.t 0))⟩,⟨(some (9,false)),(some 11),(.bin .eql (.t 10) (.c (.int .i32 32)))⟩,⟨none,(some 12),(.pick (.t 9) (.c (.bool true)) (.t 11))⟩,⟨none,(some 2),(.mov (.t 12))⟩]) .ret))⟩
theorem is_lex_blank:IsFun Go.Proofs.Tryz.prog n_lex_blank m_lex_blank:=isFun_ok (by kernel_rfl)
abbrev n_lex_first:FuncId:=43
def m_lex_first:MFun:=⟨38,⟨false,SBs⟩,[(.cell 4 true 4),(.tmp 5)],
 (.seq (.ops [⟨none,(some 4),(.alloc [(.int .i64 0),(.str []),(.int .i64 0),(.int .i64 0)])⟩,⟨none,(some 5),(.mov (.c (.bool false)))⟩]) (.seq (.seq (.ops [⟨none,(some 10),(.mov (.t 0))⟩,⟨none,(some 11),(.len false (.t 10))⟩,⟨none,(some 12),(.mov (.c (.int .i64 0)))⟩]) (.block 0 (.loop (.seq (.ops [⟨none,(some 13),(.bin .lss (.t 12) (.t 11))⟩]) (.seq (.cond (.t 13) .skip (.exit 0)) (.seq (.block 1 (.seq (.ops [⟨none,(some 14),(.idx 2 (.t 10) (.t 12))⟩,⟨none,(some 15),(.load true 2 (.t 14))⟩,⟨none,(some 7),(.alloc [(.int .i64 0),.nilFunc])⟩,⟨none,none,(.store 2 (.t 7) (.t 15))⟩]) (.seq (.ops [⟨none,(some 16),(.fld 1 (.t 7))⟩,⟨none,(some 17),(.load false 1 (.t 16))⟩,⟨none,(some 18),(.mov (.t 1))⟩,⟨none,(some 19),(.subv (.t 17) [(.t 18)])⟩,⟨none,(some 8),(.mov (.t 19))⟩]) (.seq (.seq (.ops [⟨none,(some 20),(.mov (.t 8))⟩,⟨none,(some 21),(.bin .eql (.t 20) (.c (.int .i64 0)))⟩]) (.cond (.t 21) (.exit 1) .skip)) (.seq (.draw 2 [⟨⟨none,(some 22),(.fld 0 (.t 7))⟩,[],false⟩,⟨⟨none,(some 23),(.load false 1 (.t 22))⟩,[0],false⟩,⟨⟨none,(some 24),(.mov (.t 1))⟩,[],false⟩,⟨⟨none,(some 25),(.mov (.t 8))⟩,[],false⟩,⟨⟨none,(some 26),(.slstr (.t 24) none (some (.t 25)))⟩,[2,3],false⟩,⟨⟨none,(some 27),(.build [(.int .i64 0),(.str []),(.int .i64 0),(.int .i64 0)] [(0,(1,(.t 23))),(1,(1,(.t 26)))])⟩,[1,4],false⟩,⟨⟨none,(some 9),(.alloc [(.int .i64 0),(.str []),(.int .i64 0),(.int .i64 0)])⟩,[],true⟩,⟨⟨none,none,(.store 4 (.t 9) (.t 27))⟩,[6,5,0,1,2,3,4,5,6],true⟩]) (.seq (.seq (.ops [⟨none,(some 28),(.fld 0 (.t 7))⟩,⟨none,(some 29),(.load false 1 (.t 28))⟩,⟨none,(some 30),(.bin .eql (.t 29) (.c (.int .i64 2)))⟩]) (.cond (.t 30) (.ops [⟨none,(some 31),(.fld 1 (.t 9))⟩,⟨none,(some 32),(.load false 1 (.t 31))⟩,⟨none,(some 33),(.call 69 [(.t 32)])⟩,⟨none,(some 34),(.fld 2 (.t 9))⟩,⟨none,none,(.store 1 (.t 34) (.t 33))⟩]) .skip)) (.seq (.ops [⟨none,(some 35),(.load true 4 (.t 9))⟩,⟨none,none,(.store 4 (.t 4) (.t 35))⟩,⟨none,(some 5),(.mov (.c (.bool true)))⟩]) .ret))))))) (.ops [⟨none,(some 36),(.bin .add (.t 12) (.c (.int .i64 1)))⟩,⟨none,(some 12),(.mov (.t 36))⟩]))))))) (.seq (.ops [⟨none,(some 37),(.build [(.int .i64 0),(.str []),(.int .i64 0),(.int .i64 0)] [])⟩,⟨none,none,(.store 4 (.t 4) (.t 37))⟩,⟨none,(some 5),(.mov (.c (.bool false)))⟩]) .ret)))⟩
theorem is_lex_first:IsFun Go.Proofs.Tryz.prog n_lex_first m_lex_first:=isFun_ok (by kernel_rfl)
abbrev n_parse_reader_peek:FuncId:=44
def m_parse_reader_peek:MFun:=⟨24,⟨false,SBs⟩,[(.tmp 2)],
 (.seq (.ops [⟨none,(some 2),(.mov (.c (.str [])))⟩]) (.seq (.seq (.ops [⟨none,(some 3),(.mov (.t 0))⟩,⟨none,(some 4),(.nilck (.t 3))⟩,⟨none,(some 5),(.fld 1 (.t 4))⟩,⟨none,(some 6),(.load false 1 (.t 5))⟩,⟨none,(some 7),(.mov (.t 0))⟩,⟨none,(some 8),(.nilck (.t 7))⟩,⟨none,(some 9),(.fld 0 (.t 8))⟩,⟨none,(some 10),(.load false 1 (.t 9))⟩,⟨none,(some 11),(.len false (.t 10))⟩,⟨none,(some 12),(.bin .eql (.t 6) (.t 11))⟩]) (.cond (.t 12) (.seq (.ops [⟨none,(some 2),(.mov (.c (.str [])))⟩]) .ret) .skip)) (.seq (.ops [⟨none,(some 13),(.mov (.t 0))⟩,⟨none,(some 14),(.nilck (.t 13))⟩,⟨none,(some 15),(.fld 0 (.t 14))⟩,⟨none,(some 16),(.load false 1 (.t 15))⟩,⟨none,(some 17),(.mov (.t 0))⟩,⟨none,(some 18),(.nilck (.t 17))⟩,⟨none,(some 19),(.fld 1 (.t 18))⟩,⟨none,(some 20),(.load false 1 (.t 19))⟩,⟨none,(some 21),(.idx 4 (.t 16) (.t 20))⟩,⟨none,(some 22),(.fld 1 (.t 21))⟩,⟨none,(some 23),(.load false 1 (.t 22))⟩,⟨none,(some 2),(.mov (.t 23))⟩]) .ret)))⟩
theorem is_parse_reader_peek:IsFun Go.Proofs.Tryz.prog n_parse_reader_peek m_parse_reader_peek:=isFun_ok (by kernel_rfl)
abbrev n_parse_reader_decl:FuncId:=45
def m_parse_reader_decl:MFun:=⟨38,⟨false,SBs⟩,[(.cell 2 true 3)],
 (.seq (.ops [⟨none,(some 2),(.alloc [(.int .i64 0),(.str []),(.int .i64 0)])⟩]) (.seq (.ops [⟨none,(some 3),(.alloc [(.int .i64 0),(.str []),(.int .i64 0)])⟩]) (.seq (.seq (.ops [⟨none,(some 4),(.mov (.t 0))⟩,⟨none,(some 5),(.sub 72 [(.t 4),(.c (.int .i64 1))])⟩,⟨none,(some 6),(.fldv false 1 1 (.t 5))⟩]) (.block 0 (.seq (.ops [⟨none,(some 10),(.bin .eql (.t 6) (.c (.str [99,101,108,108])))⟩,⟨none,(some 9),(.mov (.t 10))⟩]) (.cond (.t 9) (.ops [⟨none,(some 11),(.fld 0 (.t 3))⟩,⟨none,none,(.store 1 (.t 11) (.c (.int .i64 0)))⟩]) (.seq (.ops [⟨none,(some 13),(.bin .eql (.t 6) (.c (.str [109,97,112])))⟩,⟨none,(some 12),(.mov (.t 13))⟩]) (.cond (.t 12) (.ops [⟨none,(some 14),(.fld 0 (.t 3))⟩,⟨none,none,(.store 1 (.t 14) (.c (.int .i64 1)))⟩]) (.seq (.ops [⟨none,(some 16),(.bin .eql (.t 6) (.c (.str [115,116,97,99,107])))⟩,⟨none,(some 15),(.mov (.t 16))⟩]) (.cond (.t 15) (.ops [⟨none,(some 17),(.fld 0 (.t 3))⟩,⟨none,none,(.store 1 (.t 17) (.c (.int .i64 2)))⟩]) (.seq (.ops [⟨none,(some 19),(.bin .eql (.t 6) (.c (.str [99,104,97,110])))⟩,⟨none,(some 18),(.mov (.t 19))⟩]) (.cond (.t 18) (.ops [⟨none,(some 20),(.fld 0 (.t 3))⟩,⟨none,none,(.store 1 (.t 20) (.c (.int .i64 3)))⟩]) (.ops [⟨none,(some 7),(.build [] [])⟩,⟨none,(some 8),(.mkif 101 (.t 7))⟩,⟨none,none,(.panic (.t 8))⟩]))))))))))) (.seq (.ops [⟨none,(some 21),(.mov (.t 0))⟩,⟨none,(some 22),(.sub 73 [(.t 21)])⟩,⟨none,(some 23),(.fld 1 (.t 3))⟩,⟨none,none,(.store 1 (.t 23) (.t 22))⟩]) (.seq (.seq (.ops [⟨none,(some 24),(.fld 0 (.t 3))⟩,⟨none,(some 25),(.load false 1 (.t 24))⟩,⟨none,(some 26),(.bin .eql (.t 25) (.c (.int .i64 0)))⟩,⟨none,(some 27),(.mov (.t 26))⟩,⟨(some (27,true)),(some 28),(.mov (.t 0))⟩,⟨(some (27,true)),(some 29),(.sub 74 [(.t 28),(.c (.str [61]))])⟩,⟨none,(some 30),(.pick (.t 27) (.t 29) (.c (.bool false)))⟩]) (.cond (.t 30) (.ops [⟨none,(some 31),(.mov (.t 0))⟩,⟨none,(some 32),(.sub 72 [(.t 31),(.c (.int .i64 2))])⟩,⟨none,(some 33),(.fldv false 1 2 (.t 32))⟩,⟨none,(some 34),(.fld 2 (.t 3))⟩,⟨none,none,(.store 1 (.t 34) (.t 33))⟩]) .skip)) (.seq (.ops [⟨none,(some 35),(.mov (.t 0))⟩,⟨none,(some 36),(.sub 75 [(.t 35),(.c (.str [59]))])⟩]) (.seq (.ops [⟨none,(some 37),(.load true 3 (.t 3))⟩,⟨none,none,(.store 3 (.t 2) (.t 37))⟩]) .ret)))))))⟩
theorem is_parse_reader_decl:IsFun Go.Proofs.Tryz.prog n_parse_reader_decl m_parse_reader_decl:=isFun_ok (by kernel_rfl)
abbrev n_parse_reader_function:FuncId:=46
def m_parse_reader_function:MFun:=⟨16,⟨false,SBs⟩,[(.cell 2 true 3)],
 (.seq (.ops [⟨none,(some 1),(.box (.t 0))⟩,⟨none,(some 2),(.alloc [(.str []),.nil,(.int .i64 0)])⟩]) (.seq (.ops [⟨none,(some 4),(.load false 1 (.t 1))⟩,⟨none,(some 5),(.sub 75 [(.t 4),(.c (.str [102,117,110,99]))])⟩]) (.seq (.ops [⟨none,(some 6),(.load false 1 (.t 1))⟩,⟨none,(some 7),(.sub 73 [(.t 6)])⟩,⟨none,(some 8),(.build [(.str []),.nil,(.int .i64 0)] [(0,(1,(.t 7)))])⟩,⟨none,(some 3),(.alloc [(.str []),.nil,(.int .i64 0)])⟩,⟨none,none,(.store 3 (.t 3) (.t 8))⟩]) (.seq (.ops [⟨none,(some 9),(.load false 1 (.t 1))⟩,⟨none,(some 10),(.mkfn 77 [] [(.t 3),(.t 1)])⟩,⟨none,(some 11),(.sub 76 [(.t 9),(.t 10)])⟩]) (.seq (.ops [⟨none,(some 12),(.load false 1 (.t 1))⟩,⟨none,(some 13),(.sub 78 [(.t 12)])⟩,⟨none,(some 14),(.fld 2 (.t 3))⟩,⟨none,none,(.store 1 (.t 14) (.t 13))⟩]) (.seq (.ops [⟨none,(some 15),(.load true 3 (.t 3))⟩,⟨none,none,(.store 3 (.t 2) (.t 15))⟩]) .ret))))))⟩
theorem is_parse_reader_function:IsFun Go.Proofs.Tryz.prog n_parse_reader_function m_parse_reader_function:=isFun_ok (by kernel_rfl)
abbrev n_check_sort:FuncId:=47
def m_check_sort:MFun:=⟨25,⟨false,SBs⟩,[(.tmp 2)],
 (.seq (.ops [⟨none,(some 2),(.mov (.c (.int .i64 0)))⟩]) (.seq (.seq (.ops [⟨none,(some 3),(.mov (.t 0))⟩]) (.block 0 (.seq (.seq (.ops [⟨none,(some 5),(.bin .eql (.t 3) (.c (.int .i64 1)))⟩,⟨none,(some 4),(.mov (.t 5))⟩]) (.cond (.t 4) .skip (.seq (.ops [⟨none,(some 6),(.bin .eql (.t 3) (.c (.int .i64 2)))⟩,⟨none,(some 4),(.mov (.t 6))⟩]) (.cond (.t 4) .skip (.seq (.ops [⟨none,(some 7),(.bin .eql (.t 3) (.c (.int .i64 3)))⟩,⟨none,(some 4),(.mov (.t 7))⟩]) (.cond (.t 4) .skip (.seq (.ops [⟨none,(some 8),(.bin .eql (.t 3) (.c (.int .i64 4)))⟩,⟨none,(some 4),(.mov (.t 8))⟩]) (.cond (.t 4) .skip (.seq (.ops [⟨none,(some 9),(.bin .eql (.t 3) (.c (.int .i64 5)))⟩,⟨none,(some 4),(.mov (.t 9))⟩]) (.cond (.t 4) .skip (.seq (.ops [⟨none,(some 10),(.bin .eql (.t 3) (.c (.int .i64 6)))⟩,⟨none,(some 4),(.mov (.t 10))⟩]) (.cond (.t 4) .skip (.seq (.ops [⟨none,(some 11),(.bin .eql (.t 3) (.c (.int .i64 7)))⟩,⟨none,(some 4),(.mov (.t 11))⟩]) (.cond (.t 4) .skip (.ops [⟨none,(some 12),(.bin .eql (.t 3) (.c (.int .i64 8)))⟩,⟨none,(some 4),(.mov (.t 12))⟩]))))))))))))))) (.cond (.t 4) (.seq (.ops [⟨none,(some 2),(.mov (.c (.int .i64 1)))⟩]) .ret) (.seq (.seq (.ops [⟨none,(some 14),(.bin .eql (.t 3) (.c (.int .i64 9)))⟩,⟨none,(some 13),(.mov (.t 14))⟩]) (.cond (.t 13) .skip (.seq (.ops [⟨none,(some 15),(.bin .eql (.t 3) (.c (.int .i64 10)))⟩,⟨none,(some 13),(.mov (.t 15))⟩]) (.cond (.t 13) .skip (.seq (.ops [⟨none,(some 16),(.bin .eql (.t 3) (.c (.int .i64 11)))⟩,⟨none,(some 13),(.mov (.t 16))⟩]) (.cond (.t 13) .skip (.seq (.ops [⟨none,(some 17),(.bin .eql (.t 3) (.c (.int .i64 12)))⟩,⟨none,(some 13),(.mov (.t 17))⟩]) (.cond (.t 13) .skip (.seq (.ops [⟨none,(some 18),(.bin .eql (.t 3) (.c (.int .i64 13)))⟩,⟨none,(some 13),(.mov (.t 18))⟩]) (.cond (.t 13) .skip (.seq (.ops [⟨none,(some 19),(.bin .eql (.t 3) (.c (.int .i64 14)))⟩,⟨none,(some 13),(.mov (.t 19))⟩]) (.cond (.t 13) .skip (.seq (.ops [⟨none,(some 20),(.bin .eql (.t 3) (.c (.int .i64 15)))⟩,⟨none,(some 13),(.mov (.t 20))⟩]) (.cond (.t 13) .skip (.seq (.ops [⟨none,(some 21),(.bin .eql (.t 3) (.c (.int .i64 16)))⟩,⟨none,(some 13),(.mov (.t 21))⟩]) (.cond (.t 13) .skip (.ops [⟨none,(some 22),(.bin .eql (.t 3) (.c (.int .i64 17)))⟩,⟨none,(some 13),(.mov (.t 22))⟩]))))))))))))))))) (.cond (.t 13) (.seq (.ops [⟨none,(some 2),(.mov (.c (.int .i64 2)))⟩]) .ret) (.seq (.ops [⟨none,(some 24),(.bin .eql (.t 3) (.c (.int .i64 18)))⟩,⟨none,(some 23),(.mov (.t 24))⟩]) (.cond (.t 23) (.seq (.ops [⟨none,(some 2),(.mov (.c (.int .i64 3)))⟩]) .ret) .skip)))))))) (.seq (.ops [⟨none,(some 2),(.mov (.c (.int .i64 0)))⟩]) .ret)))⟩
theorem is_check_sort:IsFun Go.Proofs.Tryz.prog n_check_sort m_check_sort:=isFun_ok (by kernel_rfl)
abbrev n_check_shaped_1:FuncId:=48
def m_check_shaped_1:MFun:=⟨7,⟨false,SBs⟩,[(.tmp 3)],
 (.seq (.ops [⟨none,(some 3),(.mov (.c (.bool false)))⟩]) (.seq (.ops [⟨none,(some 4),(.load false 1 (.t 1))⟩,⟨none,(some 5),(.mov (.t 0))⟩,⟨none,(some 6),(.call 49 [(.t 4),(.t 5)])⟩,⟨none,(some 3),(.mov (.t 6))⟩]) .ret))⟩
theorem is_check_shaped_1:IsFun Go.Proofs.Tryz.prog n_check_shaped_1 m_check_shaped_1:=isFun_ok (by kernel_rfl)
abbrev n_slices_Equal:FuncId:=49
def m_slices_Equal:MFun:=⟨26,⟨false,SBs⟩,[(.tmp 4)],
 (.seq (.ops [⟨none,(some 4),(.mov (.c (.bool false)))⟩]) (.seq (.seq (.ops [⟨none,(some 6),(.mov (.t 0))⟩,⟨none,(some 7),(.len false (.t 6))⟩,⟨none,(some 8),(.mov (.t 1))⟩,⟨none,(some 9),(.len false (.t 8))⟩,⟨none,(some 10),(.bin .neq (.t 7) (.t 9))⟩]) (.cond (.t 10) (.seq (.ops [⟨none,(some 4),(.mov (.c (.bool false)))⟩]) .ret) .skip)) (.seq (.seq (.ops [⟨none,(some 11),(.mov (.t 0))⟩,⟨none,(some 12),(.len false (.t 11))⟩,⟨none,(some 13),(.mov (.c (.int .i64 0)))⟩]) (.block 0 (.loop (.seq (.ops [⟨none,(some 14),(.bin .lss (.t 13) (.t 12))⟩]) (.seq (.cond (.t 14) .skip (.exit 0)) (.seq (.block 1 (.seq (.ops [⟨none,(some 15),(.mov (.t 13))⟩,⟨none,(some 5),(.mov (.t 15))⟩]) (.seq (.ops [⟨none,(some 16),(.mov (.t 0))⟩,⟨none,(some 17),(.mov (.t 5))⟩,⟨none,(some 18),(.idx 1 (.t 16) (.t 17))⟩,⟨none,(some 19),(.load false 1 (.t 18))⟩,⟨none,(some 20),(.mov (.t 1))⟩,⟨none,(some 21),(.mov (.t 5))⟩,⟨none,(some 22),(.idx 1 (.t 20) (.t 21))⟩,⟨none,(some 23),(.load false 1 (.t 22))⟩,⟨none,(some 24),(.bin .neq (.t 19) (.t 23))⟩]) (.cond (.t 24) (.seq (.ops [⟨none,(some 4),(.mov (.c (.bool false)))⟩]) .ret) .skip)))) (.ops [⟨none,(some 25),(.bin .add (.t 13) (.c (.int .i64 1)))⟩,⟨none,(some 13),(.mov (.t 25))⟩]))))))) (.seq (.ops [⟨none,(some 4),(.mov (.c (.bool true)))⟩]) .ret))))⟩
theorem is_slices_Equal:IsFun Go.Proofs.Tryz.prog n_slices_Equal m_slices_Equal:=isFun_ok (by kernel_rfl)
abbrev n_check_shaped_2:FuncId:=50
def m_check_shaped_2:MFun:=⟨8,⟨false,SBs⟩,[(.tmp 3)],
 (.seq (.ops [⟨none,(some 2),(.box (.t 0))⟩,⟨none,(some 3),(.mov (.c (.bool false)))⟩]) (.seq (.ops [⟨none,(some 4),(.load false 1 (.t 1))⟩,⟨none,(some 5),(.mkfn 52 [] [(.t 2)])⟩,⟨none,(some 6),(.sub 51 [(.t 4),(.t 5)])⟩,⟨none,(some 7),(.not (.t 6))⟩,⟨none,(some 3),(.mov (.t 7))⟩]) .ret))⟩
theorem is_check_shaped_2:IsFun Go.Proofs.Tryz.prog n_check_shaped_2 m_check_shaped_2:=isFun_ok (by kernel_rfl)
abbrev n_slices_ContainsFunc:FuncId:=51
def m_slices_ContainsFunc:MFun:=⟨9,⟨false,SBs⟩,[(.tmp 4)],
 (.seq (.ops [⟨none,(some 4),(.mov (.c (.bool false)))⟩]) (.seq (.ops [⟨none,(some 5),(.mov (.t 0))⟩,⟨none,(some 6),(.mov (.t 1))⟩,⟨none,(some 7),(.sub 79 [(.t 5),(.t 6)])⟩,⟨none,(some 8),(.bin .geq (.t 7) (.c (.int .i64 0)))⟩,⟨none,(some 4),(.mov (.t 8))⟩]) .ret))⟩
theorem is_slices_ContainsFunc:IsFun Go.Proofs.Tryz.prog n_slices_ContainsFunc m_slices_ContainsFunc:=isFun_ok (by kernel_rfl)
abbrev n_check_shaped_2_1:FuncId:=52
def m_check_shaped_2_1:MFun:=⟨7,⟨false,SBs⟩,[(.tmp 3)],
 (.seq (.ops [⟨none,(some 3),(.mov (.c (.bool false)))⟩]) (.seq (.ops [⟨none,(some 4),(.mov (.t 0))⟩,⟨none,(some 5),(.load false 1 (.t 1))⟩,⟨none,(some 6),(.bin .neq (.t 4) (.t 5))⟩,⟨none,(some 3),(.mov (.t 6))⟩]) .ret))⟩
theorem is_check_shaped_2_1:IsFun Go.Proofs.Tryz.prog n_check_shaped_2_1 m_check_shaped_2_1:=isFun_ok (by kernel_rfl)
abbrev n_slices_Backward:FuncId:=53
def m_slices_Backward:MFun:=⟨4,⟨false,SBs⟩,[(.tmp 2)],
 (.seq (.ops [⟨none,(some 1),(.box (.t 0))⟩,⟨none,(some 2),(.mov (.c .nilFunc))⟩]) (.seq (.ops [⟨none,(some 3),(.mkfn 80 [] [(.t 1)])⟩,⟨none,(some 2),(.mov (.t 3))⟩]) .ret))⟩
theorem is_slices_Backward:IsFun Go.Proofs.Tryz.prog n_slices_Backward m_slices_Backward:=isFun_ok (by kernel_rfl)
abbrev n_slices_Clone:FuncId:=54
def m_slices_Clone:MFun:=⟨8,⟨false,SBs⟩,[(.tmp 2)],
 (.seq (.ops [⟨none,(some 2),(.mov (.c .nil))⟩]) (.seq (.seq (.ops [⟨none,(some 3),(.mov (.t 0))⟩,⟨none,(some 4),(.eqn false (.t 3))⟩]) (.cond (.t 4) (.seq (.ops [⟨none,(some 2),(.mov (.c .nil))⟩]) .ret) .skip)) (.seq (.ops [⟨none,(some 5),(.bslice 1 0 [(.str [])] [])⟩,⟨none,(some 6),(.mov (.t 0))⟩,⟨none,(some 7),(.app false 1 16 (.t 5) (.t 6))⟩,⟨none,(some 2),(.mov (.t 7))⟩]) .ret)))⟩
theorem is_slices_Clone:IsFun Go.Proofs.Tryz.prog n_slices_Clone m_slices_Clone:=isFun_ok (by kernel_rfl)
abbrev n_check_needs:FuncId:=55
def m_check_needs:MFun:=⟨29,⟨false,SBs⟩,[(.tmp 4),(.tmp 5)],
 (.seq (.ops [⟨none,(some 4),(.mov (.c (.int .i64 0)))⟩,⟨none,(some 5),(.mov (.c (.bool false)))⟩]) (.seq (.seq (.ops [⟨none,(some 6),(.mov (.t 0))⟩]) (.block 0 (.seq (.ops [⟨none,(some 8),(.bin .eql (.t 6) (.c (.int .i64 1)))⟩,⟨none,(some 7),(.mov (.t 8))⟩]) (.cond (.t 7) (.seq (.ops [⟨none,(some 9),(.mov (.t 1))⟩]) (.block 1 (.seq (.seq (.ops [⟨none,(some 11),(.bin .eql (.t 9) (.c (.str [103,101,116])))⟩,⟨none,(some 10),(.mov (.t 11))⟩]) (.cond (.t 10) .skip (.ops [⟨none,(some 12),(.bin .eql (.t 9) (.c (.str [100,101,108])))⟩,⟨none,(some 10),(.mov (.t 12))⟩]))) (.cond (.t 10) (.seq (.ops [⟨none,(some 4),(.mov (.c (.int .i64 1)))⟩,⟨none,(some 5),(.mov (.c (.bool true)))⟩]) .ret) (.seq (.ops [⟨none,(some 14),(.bin .eql (.t 9) (.c (.str [112,117,116])))⟩,⟨none,(some 13),(.mov (.t 14))⟩]) (.cond (.t 13) (.seq (.ops [⟨none,(some 4),(.mov (.c (.int .i64 2)))⟩,⟨none,(some 5),(.mov (.c (.bool true)))⟩]) .ret) .skip)))))) (.seq (.ops [⟨none,(some 16),(.bin .eql (.t 6) (.c (.int .i64 2)))⟩,⟨none,(some 15),(.mov (.t 16))⟩]) (.cond (.t 15) (.seq (.ops [⟨none,(some 17),(.mov (.t 1))⟩]) (.block 2 (.seq (.ops [⟨none,(some 19),(.bin .eql (.t 17) (.c (.str [112,117,115,104])))⟩,⟨none,(some 18),(.mov (.t 19))⟩]) (.cond (.t 18) (.seq (.ops [⟨none,(some 4),(.mov (.c (.int .i64 1)))⟩,⟨none,(some 5),(.mov (.c (.bool true)))⟩]) .ret) (.seq (.ops [⟨none,(some 21),(.bin .eql (.t 17) (.c (.str [112,111,112])))⟩,⟨none,(some 20),(.mov (.t 21))⟩]) (.cond (.t 20) (.seq (.ops [⟨none,(some 4),(.mov (.c (.int .i64 0)))⟩,⟨none,(some 5),(.mov (.c (.bool true)))⟩]) .ret) .skip)))))) (.seq (.ops [⟨none,(some 23),(.bin .eql (.t 6) (.c (.int .i64 3)))⟩,⟨none,(some 22),(.mov (.t 23))⟩]) (.cond (.t 22) (.seq (.ops [⟨none,(some 24),(.mov (.t 1))⟩]) (.block 3 (.seq (.ops [⟨none,(some 26),(.bin .eql (.t 24) (.c (.str [115,101,110,100])))⟩,⟨none,(some 25),(.mov (.t 26))⟩]) (.cond (.t 25) (.seq (.ops [⟨none,(some 4),(.mov (.c (.int .i64 1)))⟩,⟨none,(some 5),(.mov (.c (.bool true)))⟩]) .ret) (.seq (.ops [⟨none,(some 28),(.bin .eql (.t 24) (.c (.str [114,101,99,118])))⟩,⟨none,(some 27),(.mov (.t 28))⟩]) (.cond (.t 27) (.seq (.ops [⟨none,(some 4),(.mov (.c (.int .i64 0)))⟩,⟨none,(some 5),(.mov (.c (.bool true)))⟩]) .ret) .skip)))))) .skip)))))))) (.seq (.ops [⟨none,(some 4),(.mov (.c (.int .i64 0)))⟩,⟨none,(some 5),(.mov (.c (.bool false)))⟩]) .ret)))⟩
theorem is_check_needs:IsFun Go.Proofs.Tryz.prog n_check_needs m_check_needs:=isFun_ok (by kernel_rfl)
abbrev n_lex_span:FuncId:=64
def m_lex_span:MFun:=⟨20,⟨false,SBs⟩,[(.tmp 4)],
 (.seq (.ops [⟨none,(some 4),(.mov (.c (.int .i64 0)))⟩]) (.seq (.seq (.ops [⟨none,(some 7),(.mov (.t 0))⟩,⟨none,(some 8),(.rng (.t 7))⟩]) (.block 0 (.loop (.seq (.ops [⟨none,(some 9),(.nxt (.t 8))⟩,⟨none,(some 10),(.ext (.t 9) 0)⟩]) (.seq (.cond (.t 10) .skip (.exit 0)) (.block 1 (.seq (.ops [⟨none,(some 11),(.ext (.t 9) 1)⟩,⟨none,(some 12),(.ext (.t 9) 2)⟩,⟨none,(some 5),(.mov (.t 11))⟩,⟨none,(some 6),(.mov (.t 12))⟩]) (.seq (.ops [⟨none,(some 13),(.mov (.t 1))⟩,⟨none,(some 14),(.mov (.t 6))⟩,⟨none,(some 15),(.subv (.t 13) [(.t 14)])⟩,⟨none,(some 16),(.not (.t 15))⟩]) (.cond (.t 16) (.seq (.ops [⟨none,(some 17),(.mov (.t 5))⟩,⟨none,(some 4),(.mov (.t 17))⟩]) .ret) .skip))))))))) (.seq (.ops [⟨none,(some 18),(.mov (.t 0))⟩,⟨none,(some 19),(.len true (.t 18))⟩,⟨none,(some 4),(.mov (.t 19))⟩]) .ret)))⟩
theorem is_lex_span:IsFun Go.Proofs.Tryz.prog n_lex_span m_lex_span:=isFun_ok (by kernel_rfl)
abbrev n_lex_letter:FuncId:=65
def m_lex_letter:MFun:=⟨17,⟨false,SBs⟩,[(.tmp 2)],
 (.seq (.ops [⟨none,(some 2),(.mov (.c (.bool false)))⟩]) (.seq (.ops [⟨none,(some 3),(.mov (.t 0))⟩,⟨none,(some 4),(.bin .geq (.t 3) (.c (.int .i32 97)))⟩,⟨none,(some 5),(.mov (.t 4))⟩,⟨(some (5,true)),(some 6),(.mov (.t 0))⟩,⟨(some (5,true)),(some 7),(.bin .leq (.t 6) (.c (.int .i32 122)))⟩,⟨none,(some 8),(.pick (.t 5) (.t 7) (.c (.bool false)))⟩,⟨none,(some 9),(.mov (.t 8))⟩,⟨(some (9,false)),(some 10),(.mov (.t 0))⟩,⟨(some (9,false)),(some 11),(.bin .geq (.t 10) (.c (.int .i32 65)))⟩,⟨(some (9,false)),(some 12),(.mov (.t 11))⟩,⟨(some (12,true)),(some 13),(.mov (.t 0))⟩,⟨(some (12,true)),(some 14),(.bin .leq (.t 13) (.c (.int .i32 90)))⟩,⟨(some (9,false)),(some 15),(.pick (.t 12) (.t 14) (.c (.bool false)))⟩,⟨none,(some 16),(.pick (.t 9) (.c (.bool true)) (.t 15))⟩,⟨none,(some 2),(.mov (.t 16))⟩]) .ret))⟩
theorem is_lex_letter:IsFun Go.Proofs.Tryz.prog n_lex_letter m_lex_letter:=isFun_ok (by kernel_rfl)
abbrev n_lex_name_1:FuncId:=66
def m_lex_name_1:MFun:=⟨13,⟨false,SBs⟩,[(.tmp 2)],
 (.seq (.ops [⟨none,(some 2),(.mov (.c (.bool false)))⟩]) (.seq (.ops [⟨none,(some 3),(.mov (.t 0))⟩,⟨none,(some 4),(.call 65 [(.t 3)])⟩,⟨none,(some 5),(.mov (.t 4))⟩,⟨(some (5,false)),(some 6),(.mov (.t 0))⟩,⟨(some (5,false)),(some 7),(.call 67 [(.t 6)])⟩,⟨none,(some 8),(.pick (.t 5) (.c (.bool true)) (.t 7))⟩,⟨none,(some 9),(.mov (.t 8))⟩,⟨(some (9,false)),(some 10),(.mov (.t 0))⟩,⟨(some (9,false)),(some 11),(.bin .eql (.t 10) (.c (.int .i32 95)))⟩,⟨none,(some 12),(.pick (.t 9) (.c (.bool true)) (.t 11))⟩,⟨none,(some 2),(.mov (.t 12))⟩]) .ret))⟩
theorem is_lex_name_1:IsFun Go.Proofs.Tryz.prog n_lex_name_1 m_lex_name_1:=isFun_ok (by kernel_rfl)
abbrev n_lex_digit:FuncId:=67
def m_lex_digit:MFun:=⟨9,⟨false,SBs⟩,[(.tmp 2)],
 (.seq (.ops [⟨none,(some 2),(.mov (.c (.bool false)))⟩]) (.seq (.ops [⟨none,(some 3),(.mov (.t 0))⟩,⟨none,(some 4),(.bin .geq (.t 3) (.c (.int .i32 48)))⟩,⟨none,(some 5),(.mov (.t 4))⟩,⟨(some (5,true)),(some 6),(.mov (.t 0))⟩,⟨(some (5,true)),(some 7),(.bin .leq (.t 6) (.c (.int .i32 57)))⟩,⟨none,(some 8),(.pick (.t 5) (.t 7) (.c (.bool false)))⟩,⟨none,(some 2),(.mov (.t 8))⟩]) .ret))⟩
theorem is_lex_digit:IsFun Go.Proofs.Tryz.prog n_lex_digit m_lex_digit:=isFun_ok (by kernel_rfl)
abbrev n_lex_number_1:FuncId:=68
def m_lex_number_1:MFun:=⟨9,⟨false,SBs⟩,[(.tmp 2)],
 (.seq (.ops [⟨none,(some 2),(.mov (.c (.bool false)))⟩]) (.seq (.ops [⟨none,(some 3),(.mov (.t 0))⟩,⟨none,(some 4),(.call 65 [(.t 3)])⟩,⟨none,(some 5),(.mov (.t 4))⟩,⟨(some (5,false)),(some 6),(.mov (.t 0))⟩,⟨(some (5,false)),(some 7),(.bin .eql (.t 6) (.c (.int .i32 95)))⟩,⟨none,(some 8),(.pick (.t 5) (.c (.bool true)) (.t 7))⟩,⟨none,(some 2),(.mov (.t 8))⟩]) .ret))⟩
theorem is_lex_number_1:IsFun Go.Proofs.Tryz.prog n_lex_number_1 m_lex_number_1:=isFun_ok (by kernel_rfl)
abbrev n_lex_value:FuncId:=69
def m_lex_value:MFun:=⟨13,⟨false,SBs⟩,[(.tmp 2)],
 (.seq (.ops [⟨none,(some 2),(.mov (.c (.int .i64 0)))⟩]) (.seq (.ops [⟨none,(some 6),(.mov (.t 0))⟩,⟨none,(some 7),(.call 82 [(.t 6)])⟩,⟨none,(some 5),(.mov (.t 7))⟩,⟨none,(some 8),(.ext (.t 5) 0)⟩,⟨none,(some 9),(.ext (.t 5) 1)⟩,⟨none,(some 3),(.mov (.t 8))⟩,⟨none,(some 4),(.mov (.t 9))⟩]) (.seq (.seq (.ops [⟨none,(some 10),(.mov (.t 4))⟩,⟨none,(some 11),(.eqi true (.t 10))⟩]) (.cond (.t 11) (.seq (.ops [⟨none,(some 2),(.mov (.c (.int .i64 0)))⟩]) .ret) .skip)) (.seq (.ops [⟨none,(some 12),(.mov (.t 3))⟩,⟨none,(some 2),(.mov (.t 12))⟩]) .ret))))⟩
theorem is_lex_value:IsFun Go.Proofs.Tryz.prog n_lex_value m_lex_value:=isFun_ok (by kernel_rfl)
abbrev n_parse_reader_word:FuncId:=72
def m_parse_reader_word:MFun:=⟨50,⟨false,SBs⟩,[(.cell 4 true 4)],
 (.seq (.ops [⟨none,(some 4),(.alloc [(.int .i64 0),(.str []),(.int .i64 0),(.int .i64 0)])⟩]) (.seq (.seq (.ops [⟨none,(some 5),(.mov (.t 0))⟩,⟨none,(some 6),(.nilck (.t 5))⟩,⟨none,(some 7),(.fld 1 (.t 6))⟩,⟨none,(some 8),(.load false 1 (.t 7))⟩,⟨none,(some 9),(.mov (.t 0))⟩,⟨none,(some 10),(.nilck (.t 9))⟩,⟨none,(some 11),(.fld 0 (.t 10))⟩,⟨none,(some 12),(.load false 1 (.t 11))⟩,⟨none,(some 13),(.len false (.t 12))⟩,⟨none,(some 14),(.bin .eql (.t 8) (.t 13))⟩,⟨none,(some 15),(.mov (.t 14))⟩,⟨(some (15,false)),(some 16),(.mov (.t 0))⟩,⟨(some (15,false)),(some 17),(.nilck (.t 16))⟩,⟨(some (15,false)),(some 18),(.fld 0 (.t 17))⟩,⟨(some (15,false)),(some 19),(.load false 1 (.t 18))⟩,⟨(some (15,false)),(some 20),(.mov (.t 0))⟩,⟨(some (15,false)),(some 21),(.nilck (.t 20))⟩,⟨(some (15,false)),(some 22),(.fld 1 (.t 21))⟩,⟨(some (15,false)),(some 23),(.load false 1 (.t 22))⟩,⟨(some (15,false)),(some 24),(.idx 4 (.t 19) (.t 23))⟩,⟨(some (15,false)),(some 25),(.fld 0 (.t 24))⟩,⟨(some (15,false)),(some 26),(.load false 1 (.t 25))⟩,⟨(some (15,false)),(some 27),(.mov (.t 1))⟩,⟨(some (15,false)),(some 28),(.bin .neq (.t 26) (.t 27))⟩,⟨none,(some 29),(.pick (.t 15) (.c (.bool true)) (.t 28))⟩]) (.cond (.t 29) (.ops [⟨none,(some 30),(.build [] [])⟩,⟨none,(some 31),(.mkif 101 (.t 30))⟩,⟨none,none,(.panic (.t 31))⟩]) .skip)) (.seq (.ops [⟨none,(some 32),(.mov (.t 0))⟩,⟨none,(some 33),(.nilck (.t 32))⟩,⟨none,(some 34),(.fld 1 (.t 33))⟩,⟨none,(some 35),(.load false 1 (.t 34))⟩,⟨none,(some 36),(.bin .add (.t 35) (.c (.int .i64 1)))⟩,⟨none,(some 37),(.nilck (.t 32))⟩,⟨none,(some 38),(.fld 1 (.t 37))⟩,⟨none,none,(.store 1 (.t 38) (.t 36))⟩]) (.seq (.ops [⟨none,(some 39),(.mov (.t 0))⟩,⟨none,(some 40),(.nilck (.t 39))⟩,⟨none,(some 41),(.fld 0 (.t 40))⟩,⟨none,(some 42),(.load false 1 (.t 41))⟩,⟨none,(some 43),(.mov (.t 0))⟩,⟨none,(some 44),(.nilck (.t 43))⟩,⟨none,(some 45),(.fld 1 (.t 44))⟩,⟨none,(some 46),(.load false 1 (.t 45))⟩,⟨none,(some 47),(.bin .sub (.t 46) (.c (.int .i64 1)))⟩,⟨none,(some 48),(.idx 4 (.t 42) (.t 47))⟩,⟨none,(some 49),(.load true 4 (.t 48))⟩,⟨none,none,(.store 4 (.t 4) (.t 49))⟩]) .ret))))⟩
theorem is_parse_reader_word:IsFun Go.Proofs.Tryz.prog n_parse_reader_word m_parse_reader_word:=isFun_ok (by kernel_rfl)
abbrev n_parse_reader_name:FuncId:=73
def m_parse_reader_name:MFun:=⟨25,⟨false,SBs⟩,[(.tmp 2)],
 (.seq (.ops [⟨none,(some 2),(.mov (.c (.str [])))⟩]) (.seq (.ops [⟨none,(some 4),(.mov (.t 0))⟩,⟨none,(some 5),(.sub 72 [(.t 4),(.c (.int .i64 1))])⟩,⟨none,(some 6),(.fldv false 1 1 (.t 5))⟩,⟨none,(some 3),(.mov (.t 6))⟩]) (.seq (.seq (.ops [⟨none,(some 7),(.mov (.t 3))⟩]) (.block 0 (.seq (.seq (.ops [⟨none,(some 9),(.bin .eql (.t 7) (.c (.str [99,101,108,108])))⟩,⟨none,(some 8),(.mov (.t 9))⟩]) (.cond (.t 8) .skip (.seq (.ops [⟨none,(some 10),(.bin .eql (.t 7) (.c (.str [109,97,112])))⟩,⟨none,(some 8),(.mov (.t 10))⟩]) (.cond (.t 8) .skip (.seq (.ops [⟨none,(some 11),(.bin .eql (.t 7) (.c (.str [115,116,97,99,107])))⟩,⟨none,(some 8),(.mov (.t 11))⟩]) (.cond (.t 8) .skip (.seq (.ops [⟨none,(some 12),(.bin .eql (.t 7) (.c (.str [99,104,97,110])))⟩,⟨none,(some 8),(.mov (.t 12))⟩]) (.cond (.t 8) .skip (.seq (.ops [⟨none,(some 13),(.bin .eql (.t 7) (.c (.str [102,117,110,99])))⟩,⟨none,(some 8),(.mov (.t 13))⟩]) (.cond (.t 8) .skip (.seq (.ops [⟨none,(some 14),(.bin .eql (.t 7) (.c (.str [115,112,97,119,110])))⟩,⟨none,(some 8),(.mov (.t 14))⟩]) (.cond (.t 8) .skip (.seq (.ops [⟨none,(some 15),(.bin .eql (.t 7) (.c (.str [112,97,114])))⟩,⟨none,(some 8),(.mov (.t 15))⟩]) (.cond (.t 8) .skip (.seq (.ops [⟨none,(some 16),(.bin .eql (.t 7) (.c (.str [115,121,110,99])))⟩,⟨none,(some 8),(.mov (.t 16))⟩]) (.cond (.t 8) .skip (.seq (.ops [⟨none,(some 17),(.bin .eql (.t 7) (.c (.str [105,102])))⟩,⟨none,(some 8),(.mov (.t 17))⟩]) (.cond (.t 8) .skip (.seq (.ops [⟨none,(some 18),(.bin .eql (.t 7) (.c (.str [101,108,115,101])))⟩,⟨none,(some 8),(.mov (.t 18))⟩]) (.cond (.t 8) .skip (.seq (.ops [⟨none,(some 19),(.bin .eql (.t 7) (.c (.str [119,104,105,108,101])))⟩,⟨none,(some 8),(.mov (.t 19))⟩]) (.cond (.t 8) .skip (.seq (.ops [⟨none,(some 20),(.bin .eql (.t 7) (.c (.str [114,101,116,117,114,110])))⟩,⟨none,(some 8),(.mov (.t 20))⟩]) (.cond (.t 8) .skip (.ops [⟨none,(some 21),(.bin .eql (.t 7) (.c (.str [97,115,115,101,114,116])))⟩,⟨none,(some 8),(.mov (.t 21))⟩]))))))))))))))))))))))))) (.cond (.t 8) (.ops [⟨none,(some 22),(.build [] [])⟩,⟨none,(some 23),(.mkif 101 (.t 22))⟩,⟨none,none,(.panic (.t 23))⟩]) .skip)))) (.seq (.ops [⟨none,(some 24),(.mov (.t 3))⟩,⟨none,(some 2),(.mov (.t 24))⟩]) .ret))))⟩
theorem is_parse_reader_name:IsFun Go.Proofs.Tryz.prog n_parse_reader_name m_parse_reader_name:=isFun_ok (by kernel_rfl)
abbrev n_parse_reader_have:FuncId:=74
def m_parse_reader_have:MFun:=⟨16,⟨false,SBs⟩,[(.tmp 4)],
 (.seq (.ops [⟨none,(some 4),(.mov (.c (.bool false)))⟩]) (.seq (.seq (.ops [⟨none,(some 5),(.mov (.t 0))⟩,⟨none,(some 6),(.sub 44 [(.t 5)])⟩,⟨none,(some 7),(.mov (.t 1))⟩,⟨none,(some 8),(.bin .neq (.t 6) (.t 7))⟩]) (.cond (.t 8) (.seq (.ops [⟨none,(some 4),(.mov (.c (.bool false)))⟩]) .ret) .skip)) (.seq (.ops [⟨none,(some 9),(.mov (.t 0))⟩,⟨none,(some 10),(.nilck (.t 9))⟩,⟨none,(some 11),(.fld 1 (.t 10))⟩,⟨none,(some 12),(.load false 1 (.t 11))⟩,⟨none,(some 13),(.bin .add (.t 12) (.c (.int .i64 1)))⟩,⟨none,(some 14),(.nilck (.t 9))⟩,⟨none,(some 15),(.fld 1 (.t 14))⟩,⟨none,none,(.store 1 (.t 15) (.t 13))⟩]) (.seq (.ops [⟨none,(some 4),(.mov (.c (.bool true)))⟩]) .ret))))⟩
theorem is_parse_reader_have:IsFun Go.Proofs.Tryz.prog n_parse_reader_have m_parse_reader_have:=isFun_ok (by kernel_rfl)
abbrev n_parse_reader_want:FuncId:=75
def m_parse_reader_want:MFun:=⟨10,⟨false,SBs⟩,[],
 (.seq (.ops [⟨none,(some 4),(.mov (.t 0))⟩,⟨none,(some 5),(.mov (.t 1))⟩,⟨none,(some 6),(.sub 74 [(.t 4),(.t 5)])⟩,⟨none,(some 7),(.not (.t 6))⟩]) (.cond (.t 7) (.ops [⟨none,(some 8),(.build [] [])⟩,⟨none,(some 9),(.mkif 101 (.t 8))⟩,⟨none,none,(.panic (.t 9))⟩]) .skip))⟩
theorem is_parse_reader_want:IsFun Go.Proofs.Tryz.prog n_parse_reader_want m_parse_reader_want:=isFun_ok (by kernel_rfl)
abbrev n_parse_reader_row:FuncId:=76
def m_parse_reader_row:MFun:=⟨16,⟨false,SBs⟩,[],
 (.seq (.ops [⟨none,(some 4),(.mov (.t 0))⟩,⟨none,(some 5),(.sub 75 [(.t 4),(.c (.str [40]))])⟩]) (.seq (.seq (.ops [⟨none,(some 6),(.mov (.t 0))⟩,⟨none,(some 7),(.sub 74 [(.t 6),(.c (.str [41]))])⟩]) (.cond (.t 7) .ret .skip)) (.seq (.ops [⟨none,(some 8),(.mov (.t 1))⟩,⟨none,(some 9),(.subv (.t 8) [])⟩]) (.seq (.block 0 (.loop (.seq (.seq (.ops [⟨none,(some 10),(.mov (.t 0))⟩,⟨none,(some 11),(.sub 74 [(.t 10),(.c (.str [44]))])⟩]) (.cond (.t 11) .skip (.exit 0))) (.block 1 (.ops [⟨none,(some 12),(.mov (.t 1))⟩,⟨none,(some 13),(.subv (.t 12) [])⟩]))))) (.ops [⟨none,(some 14),(.mov (.t 0))⟩,⟨none,(some 15),(.sub 75 [(.t 14),(.c (.str [41]))])⟩])))))⟩
theorem is_parse_reader_row:IsFun Go.Proofs.Tryz.prog n_parse_reader_row m_parse_reader_row:=isFun_ok (by kernel_rfl)
abbrev n_parse_reader_function_1:FuncId:=77
def m_parse_reader_function_1:MFun:=⟨9,⟨false,SBs⟩,[],
 (.draw 3 [⟨⟨none,(some 2),(.fld 1 (.t 0))⟩,[],false⟩,⟨⟨none,(some 3),(.load false 1 (.t 2))⟩,[0],false⟩,⟨⟨none,(some 4),(.load false 1 (.t 1))⟩,[],false⟩,⟨⟨none,(some 5),(.sub 73 [(.t 4)])⟩,[2],true⟩,⟨⟨none,(some 6),(.bslice 1 1 [(.str [])] [(0,(.t 5))])⟩,[3],false⟩,⟨⟨none,(some 7),(.app false 1 16 (.t 3) (.t 6))⟩,[1,4,3],true⟩,⟨⟨none,(some 8),(.fld 1 (.t 0))⟩,[0,1,2,3,4,5],false⟩,⟨⟨none,none,(.store 1 (.t 8) (.t 7))⟩,[6,5,5,0,1,2,3,4,5],true⟩])⟩
theorem is_parse_reader_function_1:IsFun Go.Proofs.Tryz.prog n_parse_reader_function_1 m_parse_reader_function_1:=isFun_ok (by kernel_rfl)
abbrev n_parse_reader_block:FuncId:=78
def m_parse_reader_block:MFun:=⟨18,⟨false,SBs⟩,[(.tmp 2)],
 (.seq (.ops [⟨none,(some 2),(.mov (.c (.int .i64 0)))⟩]) (.seq (.ops [⟨none,(some 4),(.mov (.t 0))⟩,⟨none,(some 5),(.sub 75 [(.t 4),(.c (.str [123]))])⟩]) (.seq (.ops [⟨none,(some 3),(.mov (.c .nil))⟩]) (.seq (.block 0 (.loop (.seq (.seq (.ops [⟨none,(some 6),(.mov (.t 0))⟩,⟨none,(some 7),(.sub 74 [(.t 6),(.c (.str [125]))])⟩,⟨none,(some 8),(.not (.t 7))⟩]) (.cond (.t 8) .skip (.exit 0))) (.block 1 (.ops [⟨none,(some 9),(.mov (.t 3))⟩,⟨none,(some 10),(.mov (.t 0))⟩,⟨none,(some 11),(.sub 85 [(.t 10)])⟩,⟨none,(some 12),(.bslice 1 1 [(.int .i64 0)] [(0,(.t 11))])⟩,⟨none,(some 13),(.app false 1 8 (.t 9) (.t 12))⟩,⟨none,(some 3),(.mov (.t 13))⟩]))))) (.seq (.ops [⟨none,(some 14),(.mov (.t 0))⟩,⟨none,(some 15),(.mov (.t 3))⟩,⟨none,(some 16),(.build [(.int .i64 0),(.int .i64 0),(.str []),(.str []),.nil] [(0,(1,(.c (.int .i64 18)))),(4,(1,(.t 15)))])⟩,⟨none,(some 17),(.sub 86 [(.t 14),(.t 16)])⟩,⟨none,(some 2),(.mov (.t 17))⟩]) .ret)))))⟩
theorem is_parse_reader_block:IsFun Go.Proofs.Tryz.prog n_parse_reader_block m_parse_reader_block:=isFun_ok (by kernel_rfl)
abbrev n_slices_IndexFunc:FuncId:=79
def m_slices_IndexFunc:MFun:=⟨19,⟨false,SBs⟩,[(.tmp 4)],
 (.seq (.ops [⟨none,(some 4),(.mov (.c (.int .i64 0)))⟩]) (.seq (.seq (.ops [⟨none,(some 6),(.mov (.t 0))⟩,⟨none,(some 7),(.len false (.t 6))⟩,⟨none,(some 8),(.mov (.c (.int .i64 0)))⟩]) (.block 0 (.loop (.seq (.ops [⟨none,(some 9),(.bin .lss (.t 8) (.t 7))⟩]) (.seq (.cond (.t 9) .skip (.exit 0)) (.seq (.block 1 (.seq (.ops [⟨none,(some 10),(.mov (.t 8))⟩,⟨none,(some 5),(.mov (.t 10))⟩]) (.seq (.ops [⟨none,(some 11),(.mov (.t 1))⟩,⟨none,(some 12),(.mov (.t 0))⟩,⟨none,(some 13),(.mov (.t 5))⟩,⟨none,(some 14),(.idx 1 (.t 12) (.t 13))⟩,⟨none,(some 15),(.load false 1 (.t 14))⟩,⟨none,(some 16),(.subv (.t 11) [(.t 15)])⟩]) (.cond (.t 16) (.seq (.ops [⟨none,(some 17),(.mov (.t 5))⟩,⟨none,(some 4),(.mov (.t 17))⟩]) .ret) .skip)))) (.ops [⟨none,(some 18),(.bin .add (.t 8) (.c (.int .i64 1)))⟩,⟨none,(some 8),(.mov (.t 18))⟩]))))))) (.seq (.ops [⟨none,(some 4),(.mov (.c (.int .i64 (-1))))⟩]) .ret)))⟩
theorem is_slices_IndexFunc:IsFun Go.Proofs.Tryz.prog n_slices_IndexFunc m_slices_IndexFunc:=isFun_ok (by kernel_rfl)
abbrev n_slices_Backward_1:FuncId:=80
abbrev n_parse_reader_statement:FuncId:=85
def m_parse_reader_statement:MFun:=⟨31,⟨false,SBs⟩,[(.tmp 2)],
 (.seq (.ops [⟨none,(some 2),(.mov (.c (.int .i64 0)))⟩]) (.seq (.seq (.ops [⟨none,(some 6),(.mov (.t 0))⟩,⟨none,(some 7),(.sub 44 [(.t 6)])⟩]) (.block 0 (.seq (.ops [⟨none,(some 9),(.bin .eql (.t 7) (.c (.str [105,102])))⟩,⟨none,(some 8),(.mov (.t 9))⟩]) (.cond (.t 8) (.seq (.ops [⟨none,(some 10),(.mov (.t 0))⟩,⟨none,(some 11),(.sub 90 [(.t 10)])⟩,⟨none,(some 2),(.mov (.t 11))⟩]) .ret) (.seq (.ops [⟨none,(some 13),(.bin .eql (.t 7) (.c (.str [119,104,105,108,101])))⟩,⟨none,(some 12),(.mov (.t 13))⟩]) (.cond (.t 12) (.seq (.ops [⟨none,(some 14),(.mov (.t 0))⟩,⟨none,(some 15),(.sub 75 [(.t 14),(.c (.str [119,104,105,108,101]))])⟩]) (.seq (.ops [⟨none,(some 16),(.mov (.t 0))⟩,⟨none,(some 17),(.sub 91 [(.t 16)])⟩,⟨none,(some 3),(.mov (.t 17))⟩]) (.seq (.ops [⟨none,(some 18),(.mov (.t 0))⟩,⟨none,(some 19),(.sub 78 [(.t 18)])⟩,⟨none,(some 4),(.mov (.t 19))⟩]) (.seq (.ops [⟨none,(some 20),(.mov (.t 0))⟩,⟨none,(some 21),(.mov (.t 3))⟩,⟨none,(some 22),(.mov (.t 4))⟩,⟨none,(some 23),(.bslice 1 2 [(.int .i64 0)] [(0,(.t 21)),(1,(.t 22))])⟩,⟨none,(some 24),(.build [(.int .i64 0),(.int .i64 0),(.str []),(.str []),.nil] [(0,(1,(.c (.int .i64 14)))),(4,(1,(.t 23)))])⟩,⟨none,(some 25),(.sub 86 [(.t 20),(.t 24)])⟩,⟨none,(some 2),(.mov (.t 25))⟩]) .ret)))) .skip)))))) (.seq (.ops [⟨none,(some 26),(.mov (.t 0))⟩,⟨none,(some 27),(.sub 92 [(.t 26)])⟩,⟨none,(some 5),(.mov (.t 27))⟩]) (.seq (.ops [⟨none,(some 28),(.mov (.t 0))⟩,⟨none,(some 29),(.sub 75 [(.t 28),(.c (.str [59]))])⟩]) (.seq (.ops [⟨none,(some 30),(.mov (.t 5))⟩,⟨none,(some 2),(.mov (.t 30))⟩]) .ret)))))⟩
theorem is_parse_reader_statement:IsFun Go.Proofs.Tryz.prog n_parse_reader_statement m_parse_reader_statement:=isFun_ok (by kernel_rfl)
abbrev n_parse_reader_put:FuncId:=86
def m_parse_reader_put:MFun:=⟨21,⟨false,SBs⟩,[(.tmp 4)],
 (.seq (.ops [⟨none,(some 3),(.box (.t 1))⟩,⟨none,(some 4),(.mov (.c (.int .i64 0)))⟩]) (.seq (.draw 2 [⟨⟨none,(some 5),(.mov (.t 0))⟩,[],false⟩,⟨⟨none,(some 6),(.mov (.t 0))⟩,[],false⟩,⟨⟨none,(some 7),(.nilck (.t 6))⟩,[1],false⟩,⟨⟨none,(some 8),(.fld 2 (.t 7))⟩,[2],false⟩,⟨⟨none,(some 9),(.load false 1 (.t 8))⟩,[3],false⟩,⟨⟨none,(some 10),(.load true 5 (.t 3))⟩,[],false⟩,⟨⟨none,(some 11),(.bslice 5 1 [(.int .i64 0),(.int .i64 0),(.str []),(.str []),.nil] [(0,(.t 10))])⟩,[5],false⟩,⟨⟨none,(some 12),(.app false 5 72 (.t 9) (.t 11))⟩,[4,6],true⟩,⟨⟨none,(some 13),(.nilck (.t 5))⟩,[0,0,1,2,3,4,5,6,7],false⟩,⟨⟨none,(some 14),(.fld 2 (.t 13))⟩,[8,0,1,2,3,4,5,6,7],false⟩,⟨⟨none,none,(.store 1 (.t 14) (.t 12))⟩,[9,7,7,0,1,2,3,4,5,6,7],true⟩]) (.seq (.ops [⟨none,(some 15),(.mov (.t 0))⟩,⟨none,(some 16),(.nilck (.t 15))⟩,⟨none,(some 17),(.fld 2 (.t 16))⟩,⟨none,(some 18),(.load false 1 (.t 17))⟩,⟨none,(some 19),(.len false (.t 18))⟩,⟨none,(some 20),(.bin .sub (.t 19) (.c (.int .i64 1)))⟩,⟨none,(some 4),(.mov (.t 20))⟩]) .ret)))⟩
theorem is_parse_reader_put:IsFun Go.Proofs.Tryz.prog n_parse_reader_put m_parse_reader_put:=isFun_ok (by kernel_rfl)
abbrev n_parse_reader_choice:FuncId:=90
def m_parse_reader_choice:MFun:=⟨25,⟨false,SBs⟩,[(.tmp 2)],
 (.seq (.ops [⟨none,(some 2),(.mov (.c (.int .i64 0)))⟩]) (.seq (.ops [⟨none,(some 4),(.mov (.t 0))⟩,⟨none,(some 5),(.sub 75 [(.t 4),(.c (.str [105,102]))])⟩]) (.seq (.ops [⟨none,(some 6),(.mov (.t 0))⟩,⟨none,(some 7),(.sub 91 [(.t 6)])⟩,⟨none,(some 8),(.bslice 1 1 [(.int .i64 0)] [(0,(.t 7))])⟩,⟨none,(some 3),(.mov (.t 8))⟩]) (.seq (.ops [⟨none,(some 9),(.mov (.t 3))⟩,⟨none,(some 10),(.mov (.t 0))⟩,⟨none,(some 11),(.sub 78 [(.t 10)])⟩,⟨none,(some 12),(.bslice 1 1 [(.int .i64 0)] [(0,(.t 11))])⟩,⟨none,(some 13),(.app false 1 8 (.t 9) (.t 12))⟩,⟨none,(some 3),(.mov (.t 13))⟩]) (.seq (.seq (.ops [⟨none,(some 14),(.mov (.t 0))⟩,⟨none,(some 15),(.sub 74 [(.t 14),(.c (.str [101,108,115,101]))])⟩]) (.cond (.t 15) (.ops [⟨none,(some 16),(.mov (.t 3))⟩,⟨none,(some 17),(.mov (.t 0))⟩,⟨none,(some 18),(.sub 78 [(.t 17)])⟩,⟨none,(some 19),(.bslice 1 1 [(.int .i64 0)] [(0,(.t 18))])⟩,⟨none,(some 20),(.app false 1 8 (.t 16) (.t 19))⟩,⟨none,(some 3),(.mov (.t 20))⟩]) .skip)) (.seq (.ops [⟨none,(some 21),(.mov (.t 0))⟩,⟨none,(some 22),(.mov (.t 3))⟩,⟨none,(some 23),(.build [(.int .i64 0),(.int .i64 0),(.str []),(.str []),.nil] [(0,(1,(.c (.int .i64 13)))),(4,(1,(.t 22)))])⟩,⟨none,(some 24),(.sub 86 [(.t 21),(.t 23)])⟩,⟨none,(some 2),(.mov (.t 24))⟩]) .ret))))))⟩
theorem is_parse_reader_choice:IsFun Go.Proofs.Tryz.prog n_parse_reader_choice m_parse_reader_choice:=isFun_ok (by kernel_rfl)
abbrev n_parse_reader_expression:FuncId:=91
def m_parse_reader_expression:MFun:=⟨23,⟨false,SBs⟩,[(.tmp 2)],
 (.seq (.ops [⟨none,(some 2),(.mov (.c (.int .i64 0)))⟩]) (.seq (.ops [⟨none,(some 4),(.mov (.t 0))⟩,⟨none,(some 5),(.sub 98 [(.t 4)])⟩,⟨none,(some 3),(.mov (.t 5))⟩]) (.seq (.seq (.ops [⟨none,(some 6),(.mov (.t 0))⟩,⟨none,(some 7),(.sub 44 [(.t 6)])⟩]) (.block 0 (.seq (.ops [⟨none,(some 9),(.bin .eql (.t 7) (.c (.str [60])))⟩,⟨none,(some 8),(.mov (.t 9))⟩]) (.cond (.t 8) (.seq (.ops [⟨none,(some 10),(.mov (.t 0))⟩,⟨none,(some 11),(.mov (.t 3))⟩,⟨none,(some 12),(.mov (.t 0))⟩,⟨none,(some 13),(.mkfn 98 [(.t 12)] [])⟩,⟨none,(some 14),(.sub 99 [(.t 10),(.c (.int .i64 6)),(.t 11),(.t 13)])⟩,⟨none,(some 2),(.mov (.t 14))⟩]) .ret) (.seq (.ops [⟨none,(some 16),(.bin .eql (.t 7) (.c (.str [61,61])))⟩,⟨none,(some 15),(.mov (.t 16))⟩]) (.cond (.t 15) (.seq (.ops [⟨none,(some 17),(.mov (.t 0))⟩,⟨none,(some 18),(.mov (.t 3))⟩,⟨none,(some 19),(.mov (.t 0))⟩,⟨none,(some 20),(.mkfn 98 [(.t 19)] [])⟩,⟨none,(some 21),(.sub 99 [(.t 17),(.c (.int .i64 7)),(.t 18),(.t 20)])⟩,⟨none,(some 2),(.mov (.t 21))⟩]) .ret) .skip)))))) (.seq (.ops [⟨none,(some 22),(.mov (.t 3))⟩,⟨none,(some 2),(.mov (.t 22))⟩]) .ret))))⟩
theorem is_parse_reader_expression:IsFun Go.Proofs.Tryz.prog n_parse_reader_expression m_parse_reader_expression:=isFun_ok (by kernel_rfl)
abbrev n_parse_reader_simple:FuncId:=92
def m_parse_reader_simple:MFun:=⟨62,⟨false,SBs⟩,[(.tmp 2)],
 (.seq (.ops [⟨none,(some 2),(.mov (.c (.int .i64 0)))⟩]) (.seq (.seq (.ops [⟨none,(some 6),(.mov (.t 0))⟩,⟨none,(some 7),(.sub 44 [(.t 6)])⟩]) (.block 0 (.seq (.seq (.ops [⟨none,(some 9),(.bin .eql (.t 7) (.c (.str [115,112,97,119,110])))⟩,⟨none,(some 8),(.mov (.t 9))⟩]) (.cond (.t 8) .skip (.ops [⟨none,(some 10),(.bin .eql (.t 7) (.c (.str [112,97,114])))⟩,⟨none,(some 8),(.mov (.t 10))⟩]))) (.cond (.t 8) (.seq (.ops [⟨none,(some 11),(.mov (.t 0))⟩,⟨none,(some 12),(.sub 100 [(.t 11),(.c (.str []))])⟩,⟨none,(some 2),(.mov (.t 12))⟩]) .ret) (.seq (.ops [⟨none,(some 14),(.bin .eql (.t 7) (.c (.str [115,121,110,99])))⟩,⟨none,(some 13),(.mov (.t 14))⟩]) (.cond (.t 13) (.seq (.ops [⟨none,(some 15),(.mov (.t 0))⟩,⟨none,(some 16),(.sub 75 [(.t 15),(.c (.str [115,121,110,99]))])⟩]) (.seq (.ops [⟨none,(some 17),(.mov (.t 0))⟩,⟨none,(some 18),(.build [(.int .i64 0),(.int .i64 0),(.str []),(.str []),.nil] [(0,(1,(.c (.int .i64 12))))])⟩,⟨none,(some 19),(.sub 86 [(.t 17),(.t 18)])⟩,⟨none,(some 2),(.mov (.t 19))⟩]) .ret)) (.seq (.ops [⟨none,(some 21),(.bin .eql (.t 7) (.c (.str [114,101,116,117,114,110])))⟩,⟨none,(some 20),(.mov (.t 21))⟩]) (.cond (.t 20) (.seq (.ops [⟨none,(some 22),(.mov (.t 0))⟩,⟨none,(some 23),(.sub 101 [(.t 22),(.c (.int .i64 15))])⟩,⟨none,(some 2),(.mov (.t 23))⟩]) .ret) (.seq (.ops [⟨none,(some 25),(.bin .eql (.t 7) (.c (.str [97,115,115,101,114,116])))⟩,⟨none,(some 24),(.mov (.t 25))⟩]) (.cond (.t 24) (.seq (.ops [⟨none,(some 26),(.mov (.t 0))⟩,⟨none,(some 27),(.sub 101 [(.t 26),(.c (.int .i64 16))])⟩,⟨none,(some 2),(.mov (.t 27))⟩]) .ret) .skip)))))))))) (.seq (.ops [⟨none,(some 28),(.mov (.t 0))⟩,⟨none,(some 29),(.sub 73 [(.t 28)])⟩,⟨none,(some 3),(.mov (.t 29))⟩]) (.seq (.seq (.ops [⟨none,(some 30),(.mov (.t 0))⟩,⟨none,(some 31),(.sub 44 [(.t 30)])⟩,⟨none,(some 32),(.bin .eql (.t 31) (.c (.str [46])))⟩]) (.cond (.t 32) (.seq (.ops [⟨none,(some 33),(.mov (.t 0))⟩,⟨none,(some 34),(.mov (.t 3))⟩,⟨none,(some 35),(.sub 102 [(.t 33),(.t 34)])⟩,⟨none,(some 4),(.mov (.t 35))⟩]) (.seq (.ops [⟨none,(some 36),(.mov (.t 0))⟩,⟨none,(some 37),(.mov (.t 4))⟩,⟨none,(some 38),(.bslice 1 1 [(.int .i64 0)] [(0,(.t 37))])⟩,⟨none,(some 39),(.build [(.int .i64 0),(.int .i64 0),(.str []),(.str []),.nil] [(0,(1,(.c (.int .i64 17)))),(4,(1,(.t 38)))])⟩,⟨none,(some 40),(.sub 86 [(.t 36),(.t 39)])⟩,⟨none,(some 2),(.mov (.t 40))⟩]) .ret)) .skip)) (.seq (.ops [⟨none,(some 41),(.mov (.t 0))⟩,⟨none,(some 42),(.sub 75 [(.t 41),(.c (.str [61]))])⟩]) (.seq (.seq (.ops [⟨none,(some 43),(.mov (.t 0))⟩,⟨none,(some 44),(.sub 44 [(.t 43)])⟩,⟨none,(some 45),(.bin .eql (.t 44) (.c (.str [115,112,97,119,110])))⟩,⟨none,(some 46),(.mov (.t 45))⟩,⟨(some (46,false)),(some 47),(.mov (.t 0))⟩,⟨(some (46,false)),(some 48),(.sub 44 [(.t 47)])⟩,⟨(some (46,false)),(some 49),(.bin .eql (.t 48) (.c (.str [112,97,114])))⟩,⟨none,(some 50),(.pick (.t 46) (.c (.bool true)) (.t 49))⟩]) (.cond (.t 50) (.seq (.ops [⟨none,(some 51),(.mov (.t 0))⟩,⟨none,(some 52),(.mov (.t 3))⟩,⟨none,(some 53),(.sub 100 [(.t 51),(.t 52)])⟩,⟨none,(some 2),(.mov (.t 53))⟩]) .ret) .skip)) (.seq (.ops [⟨none,(some 54),(.mov (.t 0))⟩,⟨none,(some 55),(.sub 91 [(.t 54)])⟩,⟨none,(some 5),(.mov (.t 55))⟩]) (.seq (.ops [⟨none,(some 56),(.mov (.t 0))⟩,⟨none,(some 57),(.mov (.t 3))⟩,⟨none,(some 58),(.mov (.t 5))⟩,⟨none,(some 59),(.bslice 1 1 [(.int .i64 0)] [(0,(.t 58))])⟩,⟨none,(some 60),(.build [(.int .i64 0),(.int .i64 0),(.str []),(.str []),.nil] [(0,(1,(.c (.int .i64 9)))),(2,(1,(.t 57))),(4,(1,(.t 59)))])⟩,⟨none,(some 61),(.sub 86 [(.t 56),(.t 60)])⟩,⟨none,(some 2),(.mov (.t 61))⟩]) .ret))))))))⟩
theorem is_parse_reader_simple:IsFun Go.Proofs.Tryz.prog n_parse_reader_simple m_parse_reader_simple:=isFun_ok (by kernel_rfl)
abbrev n_parse_reader_sum:FuncId:=98
def m_parse_reader_sum:MFun:=⟨23,⟨false,SBs⟩,[(.tmp 2)],
 (.seq (.ops [⟨none,(some 2),(.mov (.c (.int .i64 0)))⟩]) (.seq (.ops [⟨none,(some 4),(.mov (.t 0))⟩,⟨none,(some 5),(.sub 107 [(.t 4)])⟩,⟨none,(some 3),(.mov (.t 5))⟩]) (.block 0 (.loop (.block 1 (.seq (.ops [⟨none,(some 6),(.mov (.t 0))⟩,⟨none,(some 7),(.sub 44 [(.t 6)])⟩]) (.block 2 (.seq (.ops [⟨none,(some 10),(.bin .eql (.t 7) (.c (.str [43])))⟩,⟨none,(some 9),(.mov (.t 10))⟩]) (.cond (.t 9) (.ops [⟨none,(some 11),(.mov (.t 0))⟩,⟨none,(some 12),(.mov (.t 3))⟩,⟨none,(some 13),(.mov (.t 0))⟩,⟨none,(some 14),(.mkfn 107 [(.t 13)] [])⟩,⟨none,(some 15),(.sub 99 [(.t 11),(.c (.int .i64 3)),(.t 12),(.t 14)])⟩,⟨none,(some 3),(.mov (.t 15))⟩]) (.seq (.ops [⟨none,(some 17),(.bin .eql (.t 7) (.c (.str [45])))⟩,⟨none,(some 16),(.mov (.t 17))⟩]) (.cond (.t 16) (.ops [⟨none,(some 18),(.mov (.t 0))⟩,⟨none,(some 19),(.mov (.t 3))⟩,⟨none,(some 20),(.mov (.t 0))⟩,⟨none,(some 21),(.mkfn 107 [(.t 20)] [])⟩,⟨none,(some 22),(.sub 99 [(.t 18),(.c (.int .i64 4)),(.t 19),(.t 21)])⟩,⟨none,(some 3),(.mov (.t 22))⟩]) (.seq (.ops [⟨none,(some 8),(.mov (.t 3))⟩,⟨none,(some 2),(.mov (.t 8))⟩]) .ret))))))))))))⟩
theorem is_parse_reader_sum:IsFun Go.Proofs.Tryz.prog n_parse_reader_sum m_parse_reader_sum:=isFun_ok (by kernel_rfl)
abbrev n_parse_reader_pair:FuncId:=99
def m_parse_reader_pair:MFun:=⟨26,⟨false,SBs⟩,[(.tmp 8)],
 (.seq (.ops [⟨none,(some 8),(.mov (.c (.int .i64 0)))⟩]) (.seq (.ops [⟨none,(some 10),(.mov (.t 0))⟩,⟨none,(some 11),(.nilck (.t 10))⟩,⟨none,(some 12),(.fld 1 (.t 11))⟩,⟨none,(some 13),(.load false 1 (.t 12))⟩,⟨none,(some 14),(.bin .add (.t 13) (.c (.int .i64 1)))⟩,⟨none,(some 15),(.nilck (.t 10))⟩,⟨none,(some 16),(.fld 1 (.t 15))⟩,⟨none,none,(.store 1 (.t 16) (.t 14))⟩]) (.seq (.ops [⟨none,(some 17),(.mov (.t 3))⟩,⟨none,(some 18),(.subv (.t 17) [])⟩,⟨none,(some 9),(.mov (.t 18))⟩]) (.seq (.ops [⟨none,(some 19),(.mov (.t 0))⟩,⟨none,(some 20),(.mov (.t 1))⟩,⟨none,(some 21),(.mov (.t 2))⟩,⟨none,(some 22),(.mov (.t 9))⟩,⟨none,(some 23),(.bslice 1 2 [(.int .i64 0)] [(0,(.t 21)),(1,(.t 22))])⟩,⟨none,(some 24),(.build [(.int .i64 0),(.int .i64 0),(.str []),(.str []),.nil] [(0,(1,(.t 20))),(4,(1,(.t 23)))])⟩,⟨none,(some 25),(.sub 86 [(.t 19),(.t 24)])⟩,⟨none,(some 8),(.mov (.t 25))⟩]) .ret))))⟩
theorem is_parse_reader_pair:IsFun Go.Proofs.Tryz.prog n_parse_reader_pair m_parse_reader_pair:=isFun_ok (by kernel_rfl)
abbrev n_parse_reader_child:FuncId:=100
def m_parse_reader_child:MFun:=⟨33,⟨false,SBs⟩,[(.tmp 4)],
 (.seq (.ops [⟨none,(some 4),(.mov (.c (.int .i64 0)))⟩]) (.seq (.ops [⟨none,(some 5),(.mov (.c (.int .i64 10)))⟩]) (.seq (.seq (.ops [⟨none,(some 7),(.mov (.t 0))⟩,⟨none,(some 8),(.sub 74 [(.t 7),(.c (.str [115,112,97,119,110]))])⟩,⟨none,(some 9),(.not (.t 8))⟩]) (.cond (.t 9) (.seq (.ops [⟨none,(some 10),(.mov (.t 0))⟩,⟨none,(some 11),(.sub 75 [(.t 10),(.c (.str [112,97,114]))])⟩]) (.ops [⟨none,(some 5),(.mov (.c (.int .i64 11)))⟩])) .skip)) (.seq (.ops [⟨none,(some 12),(.mov (.t 5))⟩,⟨none,(some 13),(.mov (.t 1))⟩,⟨none,(some 14),(.mov (.t 0))⟩,⟨none,(some 15),(.sub 73 [(.t 14)])⟩,⟨none,(some 16),(.build [(.int .i64 0),(.int .i64 0),(.str []),(.str []),.nil] [(0,(1,(.t 12))),(2,(1,(.t 13))),(3,(1,(.t 15)))])⟩,⟨none,(some 6),(.alloc [(.int .i64 0),(.int .i64 0),(.str []),(.str []),.nil])⟩,⟨none,none,(.store 5 (.t 6) (.t 16))⟩]) (.seq (.ops [⟨none,(some 17),(.mov (.t 0))⟩,⟨none,(some 18),(.sub 108 [(.t 17)])⟩,⟨none,(some 19),(.fld 4 (.t 6))⟩,⟨none,none,(.store 1 (.t 19) (.t 18))⟩]) (.seq (.seq (.ops [⟨none,(some 20),(.mov (.t 5))⟩,⟨none,(some 21),(.bin .eql (.t 20) (.c (.int .i64 11)))⟩,⟨none,(some 22),(.mov (.t 21))⟩,⟨(some (22,true)),(some 23),(.fld 4 (.t 6))⟩,⟨(some (22,true)),(some 24),(.load false 1 (.t 23))⟩,⟨(some (22,true)),(some 25),(.len false (.t 24))⟩,⟨(some (22,true)),(some 26),(.bin .neq (.t 25) (.c (.int .i64 2)))⟩,⟨none,(some 27),(.pick (.t 22) (.t 26) (.c (.bool false)))⟩]) (.cond (.t 27) (.ops [⟨none,(some 28),(.build [] [])⟩,⟨none,(some 29),(.mkif 101 (.t 28))⟩,⟨none,none,(.panic (.t 29))⟩]) .skip)) (.seq (.ops [⟨none,(some 30),(.mov (.t 0))⟩,⟨none,(some 31),(.load true 5 (.t 6))⟩,⟨none,(some 32),(.sub 86 [(.t 30),(.t 31)])⟩,⟨none,(some 4),(.mov (.t 32))⟩]) .ret)))))))⟩
theorem is_parse_reader_child:IsFun Go.Proofs.Tryz.prog n_parse_reader_child m_parse_reader_child:=isFun_ok (by kernel_rfl)
abbrev n_parse_reader_one:FuncId:=101
def m_parse_reader_one:MFun:=⟨21,⟨false,SBs⟩,[(.tmp 4)],
 (.seq (.ops [⟨none,(some 4),(.mov (.c (.int .i64 0)))⟩]) (.seq (.ops [⟨none,(some 6),(.mov (.t 0))⟩,⟨none,(some 7),(.nilck (.t 6))⟩,⟨none,(some 8),(.fld 1 (.t 7))⟩,⟨none,(some 9),(.load false 1 (.t 8))⟩,⟨none,(some 10),(.bin .add (.t 9) (.c (.int .i64 1)))⟩,⟨none,(some 11),(.nilck (.t 6))⟩,⟨none,(some 12),(.fld 1 (.t 11))⟩,⟨none,none,(.store 1 (.t 12) (.t 10))⟩]) (.seq (.ops [⟨none,(some 13),(.mov (.t 0))⟩,⟨none,(some 14),(.sub 91 [(.t 13)])⟩,⟨none,(some 5),(.mov (.t 14))⟩]) (.seq (.ops [⟨none,(some 15),(.mov (.t 0))⟩,⟨none,(some 16),(.mov (.t 1))⟩,⟨none,(some 17),(.mov (.t 5))⟩,⟨none,(some 18),(.bslice 1 1 [(.int .i64 0)] [(0,(.t 17))])⟩,⟨none,(some 19),(.build [(.int .i64 0),(.int .i64 0),(.str []),(.str []),.nil] [(0,(1,(.t 16))),(4,(1,(.t 18)))])⟩,⟨none,(some 20),(.sub 86 [(.t 15),(.t 19)])⟩,⟨none,(some 4),(.mov (.t 20))⟩]) .ret))))⟩
theorem is_parse_reader_one:IsFun Go.Proofs.Tryz.prog n_parse_reader_one m_parse_reader_one:=isFun_ok (by kernel_rfl)
abbrev n_parse_reader_call:FuncId:=102
def m_parse_reader_call:MFun:=⟨18,⟨false,SBs⟩,[(.tmp 4)],
 (.seq (.ops [⟨none,(some 4),(.mov (.c (.int .i64 0)))⟩]) (.seq (.ops [⟨none,(some 6),(.mov (.t 0))⟩,⟨none,(some 7),(.sub 75 [(.t 6),(.c (.str [46]))])⟩]) (.seq (.ops [⟨none,(some 8),(.mov (.t 1))⟩,⟨none,(some 9),(.mov (.t 0))⟩,⟨none,(some 10),(.sub 73 [(.t 9)])⟩,⟨none,(some 11),(.build [(.int .i64 0),(.int .i64 0),(.str []),(.str []),.nil] [(0,(1,(.c (.int .i64 8)))),(2,(1,(.t 8))),(3,(1,(.t 10)))])⟩,⟨none,(some 5),(.alloc [(.int .i64 0),(.int .i64 0),(.str []),(.str []),.nil])⟩,⟨none,none,(.store 5 (.t 5) (.t 11))⟩]) (.seq (.ops [⟨none,(some 12),(.mov (.t 0))⟩,⟨none,(some 13),(.sub 108 [(.t 12)])⟩,⟨none,(some 14),(.fld 4 (.t 5))⟩,⟨none,none,(.store 1 (.t 14) (.t 13))⟩]) (.seq (.ops [⟨none,(some 15),(.mov (.t 0))⟩,⟨none,(some 16),(.load true 5 (.t 5))⟩,⟨none,(some 17),(.sub 86 [(.t 15),(.t 16)])⟩,⟨none,(some 4),(.mov (.t 17))⟩]) .ret)))))⟩
theorem is_parse_reader_call:IsFun Go.Proofs.Tryz.prog n_parse_reader_call m_parse_reader_call:=isFun_ok (by kernel_rfl)
abbrev n_parse_reader_product:FuncId:=107
def m_parse_reader_product:MFun:=⟨15,⟨false,SBs⟩,[(.tmp 2)],
 (.seq (.ops [⟨none,(some 2),(.mov (.c (.int .i64 0)))⟩]) (.seq (.ops [⟨none,(some 4),(.mov (.t 0))⟩,⟨none,(some 5),(.sub 112 [(.t 4)])⟩,⟨none,(some 3),(.mov (.t 5))⟩]) (.seq (.block 0 (.loop (.seq (.seq (.ops [⟨none,(some 6),(.mov (.t 0))⟩,⟨none,(some 7),(.sub 44 [(.t 6)])⟩,⟨none,(some 8),(.bin .eql (.t 7) (.c (.str [42])))⟩]) (.cond (.t 8) .skip (.exit 0))) (.block 1 (.ops [⟨none,(some 9),(.mov (.t 0))⟩,⟨none,(some 10),(.mov (.t 3))⟩,⟨none,(some 11),(.mov (.t 0))⟩,⟨none,(some 12),(.mkfn 112 [(.t 11)] [])⟩,⟨none,(some 13),(.sub 99 [(.t 9),(.c (.int .i64 5)),(.t 10),(.t 12)])⟩,⟨none,(some 3),(.mov (.t 13))⟩]))))) (.seq (.ops [⟨none,(some 14),(.mov (.t 3))⟩,⟨none,(some 2),(.mov (.t 14))⟩]) .ret))))⟩
theorem is_parse_reader_product:IsFun Go.Proofs.Tryz.prog n_parse_reader_product m_parse_reader_product:=isFun_ok (by kernel_rfl)
abbrev n_parse_reader_arguments:FuncId:=108
def m_parse_reader_arguments:MFun:=⟨8,⟨false,SBs⟩,[(.tmp 2)],
 (.seq (.ops [⟨none,(some 1),(.box (.t 0))⟩,⟨none,(some 2),(.mov (.c .nil))⟩]) (.seq (.ops [⟨none,(some 3),(.alloc [.nil])⟩]) (.seq (.ops [⟨none,(some 4),(.load false 1 (.t 1))⟩,⟨none,(some 5),(.mkfn 113 [] [(.t 3),(.t 1)])⟩,⟨none,(some 6),(.sub 76 [(.t 4),(.t 5)])⟩]) (.seq (.ops [⟨none,(some 7),(.load false 1 (.t 3))⟩,⟨none,(some 2),(.mov (.t 7))⟩]) .ret))))⟩
theorem is_parse_reader_arguments:IsFun Go.Proofs.Tryz.prog n_parse_reader_arguments m_parse_reader_arguments:=isFun_ok (by kernel_rfl)
abbrev n_parse_reader_primary:FuncId:=112
def m_parse_reader_primary:MFun:=⟨54,⟨false,SBs⟩,[(.tmp 2)],
 (.seq (.ops [⟨none,(some 2),(.mov (.c (.int .i64 0)))⟩]) (.seq (.seq (.ops [⟨none,(some 5),(.mov (.t 0))⟩,⟨none,(some 6),(.sub 74 [(.t 5),(.c (.str [40]))])⟩]) (.cond (.t 6) (.seq (.ops [⟨none,(some 7),(.mov (.t 0))⟩,⟨none,(some 8),(.sub 91 [(.t 7)])⟩,⟨none,(some 3),(.mov (.t 8))⟩]) (.seq (.ops [⟨none,(some 9),(.mov (.t 0))⟩,⟨none,(some 10),(.sub 75 [(.t 9),(.c (.str [41]))])⟩]) (.seq (.ops [⟨none,(some 11),(.mov (.t 3))⟩,⟨none,(some 2),(.mov (.t 11))⟩]) .ret))) .skip)) (.seq (.seq (.ops [⟨none,(some 12),(.mov (.t 0))⟩,⟨none,(some 13),(.nilck (.t 12))⟩,⟨none,(some 14),(.fld 1 (.t 13))⟩,⟨none,(some 15),(.load false 1 (.t 14))⟩,⟨none,(some 16),(.mov (.t 0))⟩,⟨none,(some 17),(.nilck (.t 16))⟩,⟨none,(some 18),(.fld 0 (.t 17))⟩,⟨none,(some 19),(.load false 1 (.t 18))⟩,⟨none,(some 20),(.len false (.t 19))⟩,⟨none,(some 21),(.bin .lss (.t 15) (.t 20))⟩,⟨none,(some 22),(.mov (.t 21))⟩,⟨(some (22,true)),(some 23),(.mov (.t 0))⟩,⟨(some (22,true)),(some 24),(.nilck (.t 23))⟩,⟨(some (22,true)),(some 25),(.fld 0 (.t 24))⟩,⟨(some (22,true)),(some 26),(.load false 1 (.t 25))⟩,⟨(some (22,true)),(some 27),(.mov (.t 0))⟩,⟨(some (22,true)),(some 28),(.nilck (.t 27))⟩,⟨(some (22,true)),(some 29),(.fld 1 (.t 28))⟩,⟨(some (22,true)),(some 30),(.load false 1 (.t 29))⟩,⟨(some (22,true)),(some 31),(.idx 4 (.t 26) (.t 30))⟩,⟨(some (22,true)),(some 32),(.fld 0 (.t 31))⟩,⟨(some (22,true)),(some 33),(.load false 1 (.t 32))⟩,⟨(some (22,true)),(some 34),(.bin .eql (.t 33) (.c (.int .i64 2)))⟩,⟨none,(some 35),(.pick (.t 22) (.t 34) (.c (.bool false)))⟩]) (.cond (.t 35) (.seq (.ops [⟨none,(some 36),(.mov (.t 0))⟩,⟨none,(some 37),(.mov (.t 0))⟩,⟨none,(some 38),(.sub 72 [(.t 37),(.c (.int .i64 2))])⟩,⟨none,(some 39),(.fldv false 1 2 (.t 38))⟩,⟨none,(some 40),(.build [(.int .i64 0),(.int .i64 0),(.str []),(.str []),.nil] [(0,(1,(.c (.int .i64 1)))),(1,(1,(.t 39)))])⟩,⟨none,(some 41),(.sub 86 [(.t 36),(.t 40)])⟩,⟨none,(some 2),(.mov (.t 41))⟩]) .ret) .skip)) (.seq (.ops [⟨none,(some 42),(.mov (.t 0))⟩,⟨none,(some 43),(.sub 73 [(.t 42)])⟩,⟨none,(some 4),(.mov (.t 43))⟩]) (.seq (.seq (.ops [⟨none,(some 44),(.mov (.t 0))⟩,⟨none,(some 45),(.sub 44 [(.t 44)])⟩,⟨none,(some 46),(.bin .eql (.t 45) (.c (.str [46])))⟩]) (.cond (.t 46) (.seq (.ops [⟨none,(some 47),(.mov (.t 0))⟩,⟨none,(some 48),(.mov (.t 4))⟩,⟨none,(some 49),(.sub 102 [(.t 47),(.t 48)])⟩,⟨none,(some 2),(.mov (.t 49))⟩]) .ret) .skip)) (.seq (.ops [⟨none,(some 50),(.mov (.t 0))⟩,⟨none,(some 51),(.mov (.t 4))⟩,⟨none,(some 52),(.build [(.int .i64 0),(.int .i64 0),(.str []),(.str []),.nil] [(0,(1,(.c (.int .i64 2)))),(2,(1,(.t 51)))])⟩,⟨none,(some 53),(.sub 86 [(.t 50),(.t 52)])⟩,⟨none,(some 2),(.mov (.t 53))⟩]) .ret))))))⟩
theorem is_parse_reader_primary:IsFun Go.Proofs.Tryz.prog n_parse_reader_primary m_parse_reader_primary:=isFun_ok (by kernel_rfl)
abbrev n_parse_reader_arguments_1:FuncId:=113
def m_parse_reader_arguments_1:MFun:=⟨7,⟨false,SBs⟩,[],
 (.draw 3 [⟨⟨none,(some 2),(.load false 1 (.t 0))⟩,[],false⟩,⟨⟨none,(some 3),(.load false 1 (.t 1))⟩,[],false⟩,⟨⟨none,(some 4),(.sub 91 [(.t 3)])⟩,[1],true⟩,⟨⟨none,(some 5),(.bslice 1 1 [(.int .i64 0)] [(0,(.t 4))])⟩,[2],false⟩,⟨⟨none,(some 6),(.app false 1 8 (.t 2) (.t 5))⟩,[0,3,2],true⟩,⟨⟨none,none,(.store 1 (.t 0) (.t 6))⟩,[4,4,0,1,2,3,4],true⟩])⟩
theorem is_parse_reader_arguments_1:IsFun Go.Proofs.Tryz.prog n_parse_reader_arguments_1 m_parse_reader_arguments_1:=isFun_ok (by kernel_rfl)
end Uw.Tryz
namespace Uw.Tryz
open Go Uw
theorem s_check_sort (k:Int):Ret P0 n_check_sort [I k] (I (sortI k)):=by
 refine Ret_by is_check_sort rfl ?_
 ((repeat' first|refine aw ?_|refine bw (fun _=>?_) fun _=>?_))
 all_goals refine WT_ret rfl rfl rfl rfl ?_
 all_goals simp only [packD,sortI]
 all_goals first|(rw [if_pos (by omega)];done)|(rw [if_neg (by omega),if_pos (by omega)];done)|(rw [if_neg (by omega),if_neg (by omega),if_pos (by omega)];done)|(rw [if_neg (by omega),if_neg (by omega),if_neg (by omega)];done)
theorem take_eq_succ {a b:List Int} {j:Nat} (ha:j<a.length) (hb:j<b.length) (h:a.take j=b.take j):a.take (j+1)=b.take (j+1)↔a[j]=b[j]:=by
 rw [List.take_succ_eq_append_getElem ha,List.take_succ_eq_append_getElem hb,h]
 constructor
 ·intro e;simpa using List.append_cancel_left e
 ·intro e;rw [e]
theorem s_slices_Equal_ss (a b:List Int) (hs:a.length<1000000) (z z' : Bool):Ret P0 n_slices_Equal [.slice 1 (a.map fun i=>[I i]) z,.slice 1 (b.map fun i=>[I i]) z'] (.bool (decide (a=b))):=by
 have ha:(a.map fun i=>[I i]).length=a.length:=by simp
 have hb:(b.map fun i=>[I i]).length=b.length:=by simp
 by_cases hl:a.length=b.length
 rotate_left
 ·have:a≠b:=fun e=>hl (e ▸ rfl)
  rw [decide_eq_false this]
  refine Ret_by is_slices_Equal rfl ?_
  ((repeat' first|refine aw ?_|refine bw (fun _=>?_) fun _=>?_))
  exact WT_ret rfl rfl rfl rfl rfl
 have hend:a.take a.length=b.take a.length→a=b:=fun e=>by rw [List.take_length,hl,List.take_length] at e;exact e
 have hbad:∀(j:Nat) (h1:j<a.length) (h2:j<b.length),¬a[j]=b[j]→decide (a=b)=false:=fun j h1 h2 h=>decide_eq_false fun e=>h (by subst e;rfl)
 refine Ret_by is_slices_Equal rfl ?_
 ((repeat' first|refine aw ?_|refine bw (fun _=>?_) fun _=>?_))
 refine WT_loop (fun j:Nat=>⟨[(13,.d (I j)),(12,.d (I (↑(List.map (fun i=>[I i]) a).length))),(0,.d (Dat.slice 1 (List.map (fun i=>[I i]) a) z)),(1,.d (Dat.slice 1 (List.map (fun i=>[I i]) b) z'))],[],0,[],0⟩)
  (fun j=>j≤a.length∧a.take j=b.take j) (fun j=>a.length - j) 0 (by exact Uw.wW) ⟨by omega,rfl⟩ ?_
 rintro j ⟨h1,h2⟩
 refine WT_dlen (fun h3=>?_) (fun h3=>?_)
 ·have h4:j<b.length:=by omega
  have h6:=(take_eq_succ h3 h4 h2).2
  have h7:=hbad j h3 h4
  have e1:(a.map fun i=>[I i])[(j:Int).toNat]? = some [I a[j]]:=by simp [h3]
  have e2:(b.map fun i=>[I i])[(j:Int).toNat]? = some [I b[j]]:=by simp [h4]
  generalize a[j]=x at *
  generalize b[j]=y at *
  by_cases h5:x=y
  ·have h6:=h6 h5
   repeat refine aw ?_
   exact WT_again (j+1) ⟨by omega,h6⟩ (by omega) (by exact Uw.wW)
  ·rw [h7 h5]
   repeat refine aw ?_
   exact WT_leave (WT_ret rfl rfl rfl rfl rfl)
 ·rw [decide_eq_true (hend (by rw [← show j=a.length by omega];exact h2))]
  repeat refine aw ?_
  refine WT_break ?_
  repeat refine aw ?_
  exact WT_ret rfl rfl rfl rfl rfl
def Row1 (x:Dat) (a:List Int):Prop:=(x = .nil∧a=[])∨∃z,x = .slice 1 (a.map fun i=>[I i]) z
theorem s_slices_Equal (x y:Dat) (a b:List Int) (hs:a.length<1000000) (hx:Row1 x a) (hy:Row1 y b):Ret P0 n_slices_Equal [x,y] (.bool (decide (a=b))):=by
 rcases hx with ⟨rfl,rfl⟩|⟨z,rfl⟩<;>rcases hy with ⟨rfl,rfl⟩|⟨z',rfl⟩
 ·rw [decide_eq_true rfl]
  refine Ret_by is_slices_Equal rfl ?_
  repeat refine aw ?_
  refine WT_loop (fun j:Nat=>⟨[(13,.d (I 0)),(12,.d (I 0)),(0,.d .nil),(1,.d .nil)],[],0,[],0⟩) (fun j=>j=0) (fun j=>0) 0 (by exact Uw.wW) rfl ?_
  rintro j rfl
  repeat refine aw ?_
  refine WT_break ?_
  repeat refine aw ?_
  exact WT_ret rfl rfl rfl rfl rfl
 ·cases b with
  | nil=>
   rw [decide_eq_true rfl]
   refine Ret_by is_slices_Equal rfl ?_
   repeat refine aw ?_
   refine WT_loop (fun j:Nat=>⟨[(13,.d (I 0)),(12,.d (I 0)),(0,.d .nil),(1,.d (.slice 1 [] z'))],[],0,[],0⟩) (fun j=>j=0) (fun j=>0) 0 (by exact Uw.wW) rfl ?_
   rintro j rfl
   repeat refine aw ?_
   refine WT_break ?_
   repeat refine aw ?_
   exact WT_ret rfl rfl rfl rfl rfl
  | cons c b=>
   rw [decide_eq_false (by simp)]
   have hb:((c::b).map fun i=>[I i]).length=b.length+1:=by simp
   generalize (c::b).map (fun i=>[I i])=B at *
   refine Ret_by is_slices_Equal rfl ?_
   repeat refine aw ?_
   exact WT_ret rfl rfl rfl rfl rfl
 ·cases a with
  | nil=>
   rw [decide_eq_true rfl]
   refine Ret_by is_slices_Equal rfl ?_
   repeat refine aw ?_
   refine WT_loop (fun j:Nat=>⟨[(13,.d (I 0)),(12,.d (I 0)),(0,.d (.slice 1 [] z)),(1,.d .nil)],[],0,[],0⟩) (fun j=>j=0) (fun j=>0) 0 (by exact Uw.wW) rfl ?_
   rintro j rfl
   repeat refine aw ?_
   refine WT_break ?_
   repeat refine aw ?_
   exact WT_ret rfl rfl rfl rfl rfl
  | cons c b=>
   rw [decide_eq_false (by simp)]
   have hb:((c::b).map fun i=>[I i]).length=b.length+1:=by simp
   generalize (c::b).map (fun i=>[I i])=B at *
   refine Ret_by is_slices_Equal rfl ?_
   repeat refine aw ?_
   exact WT_ret rfl rfl rfl rfl rfl
 ·exact s_slices_Equal_ss a b hs z z'
def ofB (a:List Int):List Blk:=[.var [.ref 1 0 0 a.length],.arr 1 (a.map fun i=>[I i])]
theorem s_check_are (x:Dat) (a b:List Int) (hs:a.length<1000000) (hx:Row1 x b):SatE P0 n_check_shaped_1 [.d x,.ptr 0 0] (ofB a) (.d (.bool (decide (a=b)))) (ofB a):=by
 have h1:=s_slices_Equal (.slice 1 (a.map fun i=>[I i]) false) x a b hs (.inr ⟨_,rfl⟩) hx
 have ha:(List.drop 0 (a.map fun i=>[I i])).take a.length=a.map fun i=>[I i]:=by rw [List.drop_zero];exact List.take_of_length_le (by simp)
 rw [← ha] at h1
 refine SatE_by is_check_shaped_1 rfl ?_
 ((repeat' first|refine aw ?_|refine bw (fun _=>?_) fun _=>?_))
 exact WT_eret 2 rfl rfl (by exact Uw.wW)
theorem s_check_all (s:Int) (a:List Int) (hs:a.length<1000000):SatE P0 n_check_shaped_2 [.d (I s),.ptr 0 0] (ofB a) (.d (.bool (a.all fun x=>decide (x=s)))) (ofB a):=by
 have ha:(a.map fun i=>[I i]).length=a.length:=by simp
 have hget:∀(j:Nat) (h:j<a.length),(a.map fun i=>[I i])[0+(j:Int).toNat]? = some [I a[j]]:=by intro j h;simp [h]
 have hall:(∀x∈a.take a.length,x=s)→(a.all fun x=>decide (x=s))=true:=by
  intro h;rw [List.take_length] at h;simpa using h
 have hnot:∀(j:Nat) (h:j<a.length),¬a[j]=s→(a.all fun x=>decide (x=s))=false:=by
  intro j h hn
  rw [Bool.eq_false_iff];intro he
  exact hn (by simpa using List.all_eq_true.1 he a[j] (List.getElem_mem h))
 have hsucc:∀(j:Nat) (h:j<a.length),(∀x∈a.take j,x=s)→a[j]=s→∀x∈a.take (j+1),x=s:=by
  intro j h h1 h2 x hx
  rw [List.take_succ_eq_append_getElem h] at hx
  rcases List.mem_append.1 hx with hx|hx
  ·exact h1 x hx
  ·simp at hx;rw [hx];exact h2
 generalize (a.all fun x=>decide (x=s))=R at *
 refine SatE_by is_check_shaped_2 rfl ?_
 ((repeat' first|refine aw ?_|refine bw (fun _=>?_) fun _=>?_))
 refine WT_inl is_slices_ContainsFunc rfl ?_
 ((repeat' first|refine aw ?_|refine bw (fun _=>?_) fun _=>?_))
 refine WT_inl is_slices_IndexFunc rfl ?_
 ((repeat' first|refine aw ?_|refine bw (fun _=>?_) fun _=>?_))
 refine WT_loop (fun j:Nat=>⟨[(8,.d (I j)),(7,.d (I ↑a.length)),(0,.ref 1 0 0 a.length),(1,V.func 52 [] [V.ptr 2 0])],[(2,.var [.d (I s)]),(1,.arr 1 (List.map (fun i=>[I i]) a)),(0,.var [.ref 1 0 0 a.length])],3,[],3⟩)
  (fun j=>j≤a.length∧∀x∈a.take j,x=s) (fun j=>a.length - j) 0 (by exact Uw.wW) ⟨by omega,by simp⟩ ?_
 rintro j ⟨h1,h2⟩
 by_cases h3:j<a.length
 ·have e1:=hget j h3
  have h4:=hnot j h3
  have h5:=hsucc j h3 h2
  generalize a[j]=x at *
  by_cases h6:x=s
  ·have h7:=h5 h6
   repeat refine aw ?_
   refine WT_inl is_check_shaped_2_1 rfl ?_
   repeat refine aw ?_
   refine WT_iret rfl rfl ?_
   repeat refine aw ?_
   exact WT_again (j+1) ⟨by omega,h7⟩ (by omega) (by exact Uw.wW)
  ·have h8:R=(!decide ((0:Int)≤(j:Int))):=by rw [h4 h6];simp
   rw [h8]
   repeat refine aw ?_
   refine WT_inl is_check_shaped_2_1 rfl ?_
   repeat refine aw ?_
   refine WT_iret rfl rfl ?_
   repeat refine aw ?_
   refine WT_leave (WT_iret rfl rfl ?_)
   repeat refine aw ?_
   refine WT_iret rfl rfl ?_
   repeat refine aw ?_
   exact WT_eret 2 rfl rfl (by exact Uw.wW)
 ·rw [hall (by rw [← show j=a.length by omega];exact h2)]
  repeat refine aw ?_
  refine WT_break ?_
  repeat refine aw ?_
  refine WT_iret rfl rfl ?_
  repeat refine aw ?_
  refine WT_iret rfl rfl ?_
  repeat refine aw ?_
  exact WT_eret 2 rfl rfl (by exact Uw.wW)
end Uw.Tryz
namespace Uw.Tryz
open Go Uw
def nodesD (ns:List Nd):Dat:=.slice 5 (ns.map ndL) false
theorem sortsOf_len (ns:List Nd) (x:Nd):(sortsOf ns x).length=x.of.length:=by simp [sortsOf]
theorem row_grows (ns:List Nd) (x:Nd) (hk:∀k∈x.of,0≤k∧k<ns.length):∃A:Nat→List (List Dat),A 0=[]∧
  (∀(j:Nat) (h:j<x.of.length),∃(k:Int) (y:Nd),(x.of.map fun i=>[I i])[(j:Int).toNat]? = some [I k]∧0≤k∧k<ns.length∧(ns.map ndL)[k.toNat]? = some (ndL y)∧A j++[[I (sortI y.kind)]]=A (j+1)∧(A j).length=j)∧
  A x.of.length=(sortsOf ns x).map fun i=>[I i]:=by
 refine ⟨fun j=>((sortsOf ns x).take j).map fun i=>[I i],rfl,fun j h=>?_,by dsimp only;rw [← sortsOf_len ns x,List.take_length]⟩
 obtain ⟨h1,h2⟩:=hk x.of[j] (List.getElem_mem h)
 have h3:x.of[j].toNat<ns.length:=by omega
 refine ⟨x.of[j],ns[x.of[j].toNat],by simp [h],h1,h2,by simp [h3],?_,by simp [sortsOf_len];omega⟩
 have h4:j<(sortsOf ns x).length:=by rw [sortsOf_len];exact h
 dsimp only
 rw [List.take_succ_eq_append_getElem h4,List.map_append]
 simp [sortsOf,kindAt,List.getD,h3]
set_option maxRecDepth 4000 in
set_option maxHeartbeats 4000000 in
theorem s_check_shaped (ns:List Nd) (x:Nd) (hk:∀k∈x.of,0≤k∧k<ns.length) (hl:x.of.length<1000000):Ret P0 n_check_shaped [nodesD ns,.agg (ndL x)] (.bool (shapedF ns x)):=by
 have hoE:intsD x.of = .slice 1 (x.of.map fun i=>[I i]) false:=rfl
 have ho:(x.of.map fun i=>[I i]).length=x.of.length:=by simp
 have hnl:(ns.map ndL).length=ns.length:=by simp
 obtain ⟨A,hA0,hA1,hA2⟩:=row_grows ns x hk
 have hare:∀(d:Dat) (b:List Int),Row1 d b→SatE P0 n_check_shaped_1 [.d d,.ptr 0 0] [.var [.ref 1 0 0 x.of.length],.arr 1 (A x.of.length)] (.d (.bool (decide (sortsOf ns x=b)))) [.var [.ref 1 0 0 x.of.length],.arr 1 (A x.of.length)]:=by
  intro d b h
  have:=s_check_are d (sortsOf ns x) b (by rw [sortsOf_len];exact hl) h
  rw [ofB,sortsOf_len,← hA2] at this
  exact this
 have hall:∀(s:Int),SatE P0 n_check_shaped_2 [.d (I s),.ptr 0 0] [.var [.ref 1 0 0 x.of.length],.arr 1 (A x.of.length)] (.d (.bool ((sortsOf ns x).all fun x=>decide (x=s)))) [.var [.ref 1 0 0 x.of.length],.arr 1 (A x.of.length)]:=by
  intro s
  have:=s_check_all s (sortsOf ns x) (by rw [sortsOf_len];exact hl)
  rw [ofB,sortsOf_len,← hA2] at this
  exact this
 have hsort:=s_check_sort
 have hR:shapedF ns x=shapedS x.kind x.n (sortsOf ns x) (kindAt ns (x.of.headD 0)):=rfl
 rw [hR]
 have h17:sortsOf ns x=[1]→∃(k:Int) (y:Nd),(x.of.map fun i=>[I i])[(0:Int).toNat]? = some [I k]∧0≤k∧k<ns.length∧0<x.of.length∧(ns.map ndL)[k.toNat]? = some (ndL y)∧kindAt ns (x.of.headD 0)=y.kind:=by
  intro h
  have hlen:=sortsOf_len ns x
  rw [h] at hlen
  cases hof:x.of with
  | nil=>rw [hof] at hlen;cases hlen
  | cons k r=>
   obtain ⟨h1,h2⟩:=hk k (by rw [hof];simp)
   have h3:k.toNat<ns.length:=by omega
   exact ⟨k,ns[k.toNat],rfl,h1,h2,by simp,by simp [h3],by simp [kindAt,List.getD,h3]⟩
 have h17:∃(k:Int) (y:Nd),sortsOf ns x=[1]→((x.of.map fun i=>[I i])[(0:Int).toNat]? = some [I k]∧0≤k∧k<ns.length∧0<x.of.length∧(ns.map ndL)[k.toNat]? = some (ndL y)∧kindAt ns (x.of.headD 0)=y.kind):=by
  by_cases h:sortsOf ns x=[1]
  ·obtain ⟨k,y,h⟩:=h17 h
   exact ⟨k,y,fun _=>h⟩
  ·exact ⟨0,default,fun e=>absurd e h⟩
 obtain ⟨k7,y7,h17⟩:=h17
 generalize sortsOf ns x=so at *
 generalize kindAt ns (x.of.headD 0)=k0 at *
 obtain ⟨kind,n,name,name2,of⟩:=x
 simp only at *
 clear hk hR hA2
 show Ret P0 n_check_shaped [nodesD ns,.agg [I kind,I n,.str name,.str name2,.slice 1 (of.map fun i=>[I i]) false]] _
 clear hoE
 generalize of.length=L at *
 generalize (of.map fun i=>[I i])=O at *
 refine Ret_by is_check_shaped rfl ?_
 repeat refine aw ?_
 refine WT_loop (fun j:Nat=>⟨[(13,.d (I j)),(12,.d (I (O.length))),(11,.d (.slice 1 O false)),(5,.ptr 1 0),(3,.ptr 0 0),(0,.d (nodesD ns))],[(2,.arr 1 (A j)),(1,.var [.ref 2 0 0 j]),(0,.var [.d (I kind),.d (I n),.d (.str name),.d (.str name2),.d (.slice 1 O false)])],3,[],0⟩)
  (fun j=>j≤L) (fun j=>L - j) 0 (by rw [hA0];exact Uw.wW) (by omega) ?_
 intro j hj
 by_cases h1:j<L
 ·obtain ⟨k,y,e1,h2,h3,e2,e3,e4⟩:=hA1 j h1
  have hs:=hsort y.kind
  have h8:(decide (j=(A j).length)&&decide ((j+((List.replicate 1 [Dat.int IntKind.i64 0]).set 0 [I (sortI y.kind)]).length) * 8≤70368744177664))=true:=by simp [e4];omega
  repeat refine aw ?_
  exact WT_again (j+1) (by omega) (by omega) (by exact Uw.wW)
 ·obtain rfl:j=L:=by omega
  repeat refine aw ?_
  refine WT_break ?_
  ((repeat' first|refine aw ?_|refine bw (fun _=>?_) fun _=>?_))
  ·rename_i h
   refine WT_frE 3 [1,2] (hare .nil [] (.inl ⟨rfl,rfl⟩)) ?_
   subst h
   ((repeat' first|refine aw ?_|refine bw (fun _=>?_) fun _=>?_))
   all_goals refine WT_ret rfl rfl rfl rfl ?_
   all_goals first|(simp_all [shapedS,packD];done)|(simp_all [shapedS,packD];omega)
  iterate 2
   ·rename_i h
    refine WT_frE 3 [1,2] (hare .nil [] (.inl ⟨rfl,rfl⟩)) ?_
    repeat refine aw ?_
    refine WT_ret rfl rfl rfl rfl ?_
    subst h;rfl
  iterate 6
   ·rename_i h
    refine WT_frE 3 [1,2] (hare _ [1,1] (.inr ⟨true,rfl⟩)) ?_
    repeat refine aw ?_
    refine WT_ret rfl rfl rfl rfl ?_
    subst h;rfl
  iterate 2
   ·rename_i h
    refine WT_frE 3 [1,2] (hall 1) ?_
    repeat refine aw ?_
    refine WT_ret rfl rfl rfl rfl ?_
    subst h;rfl
  iterate 3
   ·rename_i h
    refine WT_frE 3 [1,2] (hare _ [1] (.inr ⟨true,rfl⟩)) ?_
    repeat refine aw ?_
    refine WT_ret rfl rfl rfl rfl ?_
    subst h;rfl
  ·rename_i h
   refine WT_frE 3 [1,2] (hare _ [1] (.inr ⟨true,rfl⟩)) ?_
   by_cases h5:so=[1]
   ·have e1:=(h17 h5).1
    have e2:=(h17 h5).2.1
    have e3:=(h17 h5).2.2.1
    have e4:=(h17 h5).2.2.2.1
    have e5:=(h17 h5).2.2.2.2.1
    have e6:=(h17 h5).2.2.2.2.2
    repeat refine aw ?_
    refine WT_ret rfl rfl rfl rfl ?_
    rw [h,h5,e6];rfl
   ·repeat refine aw ?_
    refine WT_ret rfl rfl rfl rfl ?_
    rw [h];show Dat.bool false=Dat.bool (decide (so=[1])&&_)
    rw [decide_eq_false h5];rfl
  ·rename_i h
   refine WT_frE 3 [1,2] (hare _ [1,3] (.inr ⟨true,rfl⟩)) ?_
   by_cases h5:so=[1,3]
   ·repeat refine aw ?_
    refine WT_ret rfl rfl rfl rfl ?_
    rw [h];show Dat.bool true=Dat.bool (decide (so=[1,3])||_)
    rw [decide_eq_true h5];rfl
   ·repeat refine aw ?_
    refine WT_frE 3 [1,2] (hare _ [1,3,3] (.inr ⟨true,rfl⟩)) ?_
    repeat refine aw ?_
    refine WT_ret rfl rfl rfl rfl ?_
    rw [h];show Dat.bool (decide (so=[1,3,3]))=Dat.bool (decide (so=[1,3])||_)
    rw [decide_eq_false h5];rfl
  ·rename_i h
   refine WT_frE 3 [1,2] (hare _ [1,3] (.inr ⟨true,rfl⟩)) ?_
   repeat refine aw ?_
   refine WT_ret rfl rfl rfl rfl ?_
   subst h;rfl
  ·rename_i h
   refine WT_frE 3 [1,2] (hall 2) ?_
   repeat refine aw ?_
   refine WT_ret rfl rfl rfl rfl ?_
   subst h;rfl
  ·refine WT_ret rfl rfl rfl rfl ?_
   show Dat.bool false=_
   rw [shapedS,if_neg (by omega),if_neg (by omega),if_neg (by omega),if_neg (by omega),if_neg (by omega),if_neg (by omega),if_neg (by omega),if_neg (by omega),if_neg (by omega)]
end Uw.Tryz
namespace Uw.Tryz
open Go Uw
structure Lim (p:Pg):Prop where
 nodes:p.nodes.length<100000
 funs:p.funs.length<100000
 decls:p.decls.length<100000
 of:∀x∈p.nodes,x.of.length<100000
 args:∀f∈p.funs,f.args.length<100000
def cntL (L:List Int) (n:Nat):List Int:=(List.range n).map fun (k:Nat)=>((L.count (k:Int):Nat):Int)
theorem cnt_len (L:List Int) (n:Nat):(cntL L n).length=n:=by simp [cntL]
theorem cnt_get (L:List Int) (n k:Nat) (h:k<n):(cntL L n)[k]'(by rw [cnt_len];exact h)=(L.count (k:Int):Nat):=by simp [cntL]
theorem cnt_set (L:List Int) (n:Nat) (k:Int) (h0:0≤k) (h:k<n):(cntL L n).set k.toNat (((L.count k:Nat):Int)+1)=cntL (L++[k]) n:=by
 have hk:k.toNat<n:=by omega
 have hkk:((k.toNat:Nat):Int)=k:=by omega
 apply List.ext_getElem
 ·simp [cntL]
 ·intro i h1 h2
  have hi:i<n:=by rw [cnt_len] at h2;exact h2
  rw [cnt_get _ _ _ hi,List.count_append]
  by_cases he:i=k.toNat
  ·subst he
   rw [List.getElem_set_self,hkk];simp
  ·rw [List.getElem_set_ne (Ne.symm he),cnt_get _ _ _ hi]
   have:¬k=(i:Int):=by omega
   simp [List.count_cons,this]
theorem cnt_nil (n:Nat):cntL [] n=List.replicate n 0:=by
 apply List.ext_getElem
 ·simp [cntL]
 ·intro i h1 h2;simp [cntL]
def rowI (l:List Int):List (List Dat):=l.map fun i=>[I i]
theorem row_at {L:List Int} {n:Nat} {k:Int} (h0:0≤k) (h:k<n):(rowI (cntL L n))[k.toNat]? = some [I (L.count k:Nat)]:=by
 have hk:k.toNat<n:=by omega
 have hkk:((k.toNat:Nat):Int)=k:=by omega
 rw [rowI,List.getElem?_map,List.getElem?_eq_getElem (by rw [cnt_len];exact hk),cnt_get _ _ _ hk,hkk];rfl
theorem row_set {L:List Int} {n:Nat} {k:Int} (h0:0≤k) (h:k<n):(rowI (cntL L n)).set k.toNat [I (((L.count k:Nat):Int)+1)]=rowI (cntL (L++[k]) n):=by
 rw [← cnt_set L n k h0 h,rowI,rowI,List.map_set]
theorem row_len (L:List Int) (n:Nat):(rowI (cntL L n)).length=n:=by rw [rowI,List.length_map,cnt_len]
theorem row_sum {l:List Nd} (h:∀x∈l,x.of.length<100000):(l.flatMap (·.of)).length≤l.length * 100000:=by
 induction l with
 | nil=>simp
 | cons x l ih=>
  have h1:=h x (by simp)
  have h2:=ih fun y hy=>h y (by simp [hy])
  rw [List.flatMap_cons,List.length_append,List.length_cons,Nat.add_mul]
  omega
theorem uses_few {p:Pg} (hp:Lim p):(usesL p).length<100000000000:=by
 have h1:=row_sum hp.of
 have h2:=hp.nodes
 have h3:=hp.funs
 rw [usesL,List.length_append,List.length_map]
 omega
def usesTo (ns:List Nd) (i:Nat):List Int:=(ns.take i).flatMap (·.of)
theorem usesTo_succ {ns:List Nd} {i:Nat} (h:i<ns.length):usesTo ns (i+1)=usesTo ns i++ns[i].of:=by
 rw [usesTo,List.take_succ_eq_append_getElem h,List.flatMap_append];simp [usesTo]
theorem nodesOK_at {ns:List Nd}:∀{l:List Nd} {b:Nat},nodesOK ns b l=true↔∀(i:Nat) (h:i<l.length),nodeOK ns (b+i) l[i]=true
 | [],b=>by simp [nodesOK]
 | x::l,b=>by
  simp only [nodesOK,Bool.and_eq_true]
  rw [nodesOK_at]
  constructor
  ·rintro ⟨h1,h2⟩ i hi
   cases i with
   | zero=>exact h1
   | succ i=>have:=h2 i (by simpa using hi);rw [show b+(i+1)=b+1+i by omega];exact this
  ·intro h
   refine ⟨h 0 (by simp),fun i hi=>?_⟩
   have:=h (i+1) (by simpa using hi)
   rw [show b+1+i=b+(i+1) by omega];exact this
theorem inc_row (U:List Int) (n:Nat) (k:Int) (h0:0≤k) (h:k<n):∃c:Int,(rowI (cntL U n))[0+k.toNat]? = some [I c]∧(rowI (cntL U n)).set (0+k.toNat) (setAt [I c] 0 [I (c+1)])=rowI (cntL (U++[k]) n)∧0≤c∧c≤U.length:=by
 refine ⟨(U.count k:Nat),by rw [Nat.zero_add];exact row_at h0 h,by rw [Nat.zero_add];exact row_set h0 h,by omega,?_⟩
 have:=List.count_le_length (a:=k) (l:=U)
 omega
theorem usesTo_few {p:Pg} (hp:Lim p) (i:Nat):(usesTo p.nodes i).length<10000000000:=by
 have h1:=row_sum (l:=p.nodes.take i) fun x hx=>hp.of x (List.mem_of_mem_take hx)
 have h2:=hp.nodes
 have h3:(p.nodes.take i).length≤p.nodes.length:=by simp;omega
 unfold usesTo
 omega
structure FormedFacts (p:Pg) (R:Bool):Prop where
 kid:∀(i:Nat) (h:i<p.nodes.length) (k:Int),k∈p.nodes[i].of→¬(0≤k∧k<i)→R=false
 shape:∀(i:Nat) (h:i<p.nodes.length),shapedF p.nodes p.nodes[i]=false→R=false
 body:∀(i:Nat) (h:i<p.funs.length),bodyOK p.nodes p.funs[i]=false→R=false
 time:∀(k:Nat),k<p.nodes.length→(usesL p).count (k:Int)≠1→R=false
 all:(∀(i:Nat) (h:i<p.nodes.length),(∀k∈p.nodes[i].of,0≤k∧k<i)∧shapedF p.nodes p.nodes[i]=true)→(∀(i:Nat) (h:i<p.funs.length),bodyOK p.nodes p.funs[i]=true)→(∀(k:Nat),k<p.nodes.length→(usesL p).count (k:Int)=1)→R=true
theorem formed_facts (p:Pg):FormedFacts p (formedP p):=by
 have key:formedP p=true↔(∀(i:Nat) (h:i<p.nodes.length),nodeOK p.nodes i p.nodes[i]=true)∧(∀f∈p.funs,bodyOK p.nodes f=true)∧∀(k:Nat),k<p.nodes.length→(usesL p).count (k:Int)=1:=by
  simp only [formedP,Bool.and_eq_true,nodesOK_at,List.all_eq_true,and_assoc,Nat.zero_add,decide_eq_true_eq,List.mem_range]
 have hno:∀(i:Nat) (h:i<p.nodes.length),nodeOK p.nodes i p.nodes[i]=true↔(∀k∈p.nodes[i].of,0≤k∧k<i)∧shapedF p.nodes p.nodes[i]=true:=by
  intro i h
  simp [nodeOK,Bool.and_eq_true,List.all_eq_true]
 have no:∀{P:Prop},(formedP p=true→P)→¬P→formedP p=false:=fun h1 h2=>by
  rw [Bool.eq_false_iff];exact fun e=>h2 (h1 e)
 refine ⟨fun i h k hk hb=>no (fun e=>((hno i h).1 ((key.1 e).1 i h)).1 k hk) hb,fun i h hs=>no (fun e=>((hno i h).1 ((key.1 e).1 i h)).2) (by simp [hs]),fun i h hs=>no (fun e=>(key.1 e).2.1 _ (List.getElem_mem h)) (by simp [hs]),fun k hk hc=>no (fun e=>(key.1 e).2.2 k hk) hc,fun h1 h2 h3=>key.2 ⟨fun i h=>(hno i h).2 (h1 i h),fun f hf=>?_,h3⟩⟩
 obtain ⟨i,hi,rfl⟩:=List.mem_iff_getElem.1 hf
 exact h2 i hi
set_option maxRecDepth 4000 in
set_option maxHeartbeats 4000000 in
theorem s_check_Formed (p:Pg) (hp:Lim p):Ret P0 n_check_Formed [pgD p] (.bool (formedP p)):=by
 have hF:=formed_facts p
 have hfew:=uses_few hp
 have hN:=hp.nodes
 have hFl:=hp.funs
 generalize formedP p=R at *
 have hnl:(p.nodes.map ndL).length=p.nodes.length:=by simp
 have hfl:(p.funs.map fuL).length=p.funs.length:=by simp
 obtain ⟨T,hT⟩:∃T:Nat→List (List Dat),∀i,T i=rowI (cntL (usesTo p.nodes i) p.nodes.length):=⟨_,fun _=>rfl⟩
 have e0:List.replicate (((p.nodes.map ndL).length:Nat):Int).toNat [I 0]=T 0:=by
  rw [hT,show usesTo p.nodes 0=[] from rfl,cnt_nil,rowI,List.map_replicate,hnl];simp
 have hmk:(decide ((0:Int)≤((p.nodes.map ndL).length:Nat))&&decide ((((p.nodes.map ndL).length:Nat):Int)≤((p.nodes.map ndL).length:Nat))&&decide ((((p.nodes.map ndL).length:Nat):Int) * ((8:Nat):Int)≤70368744177664))=true:=by simp;omega
 refine Ret_by is_check_Formed rfl ?_
 repeat refine aw ?_
 refine WT_loop (fun i:Nat=>⟨[(19,.d (I i)),(18,.d (I ((p.nodes.map ndL).length:Nat))),(17,.d (nodesD p.nodes)),(3,.ref 1 0 0 p.nodes.length),(1,.ptr 0 0)],[(1,.mt 1 0 (T i)),(0,.var [.d (.slice 3 (p.decls.map decL) false),.d (.slice 3 (p.funs.map fuL) false),.d (nodesD p.nodes)])],2,[],0⟩)
  (fun i=>i≤p.nodes.length∧∀(j:Nat) (h:j<p.nodes.length),j<i→(∀k∈p.nodes[j].of,0≤k∧k<j)∧shapedF p.nodes p.nodes[j]=true) (fun i=>p.nodes.length - i) 0 (by exact Uw.wM) ⟨by omega,fun j _ h=>by omega⟩ ?_
 rintro i ⟨hi,hok⟩
 by_cases hlt:i<p.nodes.length
 rotate_left
 ·repeat refine aw ?_
  refine WT_break ?_
  repeat refine aw ?_
  have hok2:∀(j:Nat) (h:j<p.nodes.length),(∀k∈p.nodes[j].of,0≤k∧k<j)∧shapedF p.nodes p.nodes[j]=true:=fun j h=>hok j h (by omega)
  obtain rfl:i=p.nodes.length:=by omega
  have hU:usesTo p.nodes p.nodes.length=p.nodes.flatMap (·.of):=by rw [usesTo,List.take_length]
  obtain ⟨T3,hT3⟩:∃T3:Nat→List (List Dat),∀j,T3 j=rowI (cntL (p.nodes.flatMap (·.of)++(p.funs.map (·.body)).take j) p.nodes.length):=⟨_,fun _=>rfl⟩
  have e3:T p.nodes.length=T3 0:=by rw [hT,hT3,hU];simp
  have e4:T3 p.funs.length=rowI (cntL (usesL p) p.nodes.length):=by
   rw [hT3,usesL,List.take_of_length_le (by simp)]
  have hstep:∀(j:Nat) (h:j<p.funs.length),0≤p.funs[j].body→p.funs[j].body<p.nodes.length→∃c:Int,(T3 j)[0+p.funs[j].body.toNat]? = some [I c]∧(T3 j).set (0+p.funs[j].body.toNat) (setAt [I c] 0 [I (c+1)])=T3 (j+1)∧0≤c∧c<100000000000:=by
   intro j h h0 h1
   obtain ⟨c,g1,g2,g3,g4⟩:=inc_row (p.nodes.flatMap (·.of)++(p.funs.map (·.body)).take j) p.nodes.length _ h0 h1
   refine ⟨c,by rw [hT3];exact g1,?_,g3,?_⟩
   ·rw [hT3,hT3,g2,List.take_succ_eq_append_getElem (by simpa using h),List.append_assoc,List.getElem_map]
   ·have:=usesTo_few hp p.nodes.length
    rw [hU] at this
    simp only [List.length_append,List.length_take,List.length_map] at g4
    omega
  have hbody:=hF.body
  have helF:∀(j:Nat) (h:j<p.funs.length),(p.funs.map fuL)[(j:Int).toNat]? = some (fuL p.funs[j]):=by intro j h;simp [h]
  have helN:∀(k:Int),0≤k→k<p.nodes.length→∃y:Nd,(p.nodes.map ndL)[k.toNat]? = some (ndL y)∧kindAt p.nodes k=y.kind:=by
   intro k h0 h1
   have h3:k.toNat<p.nodes.length:=by omega
   exact ⟨p.nodes[k.toNat],by simp [h3],by simp [kindAt,List.getD,h3]⟩
  clear hT e0 hT3 hi
  rw [e3]
  refine WT_for p.funs.length (fun j:Nat=>⟨[(54,.d (I j)),(53,.d (I ((p.funs.map fuL).length:Nat))),(52,.d (.slice 3 (p.funs.map fuL) false)),(3,.ref 1 0 0 p.nodes.length),(1,.ptr 0 0)],[(1,.mt 1 0 (T3 j)),(0,.var [.d (.slice 3 (p.decls.map decL) false),.d (.slice 3 (p.funs.map fuL) false),.d (nodesD p.nodes)])],2,[],0⟩)
   (fun j=>∀h:j<p.funs.length,bodyOK p.nodes p.funs[j]=true) (by exact Uw.wM) (fun hbd=>?_) (fun j hj hbd=>?_)
  ·have hbd:∀(j:Nat) (h:j<p.funs.length),bodyOK p.nodes p.funs[j]=true:=fun j h=>hbd j h h
   have hR:=hF.all hok2 hbd
   have htime:=hF.time
   have helT:∀(k:Nat) (h:k<p.nodes.length),(T3 p.funs.length)[0+(k:Int).toNat]? = some [I ((usesL p).count (k:Int):Nat)]:=by
    intro k h;rw [e4,Nat.zero_add];exact row_at (by omega) (by omega)
   have hTl:(T3 p.funs.length).length=p.nodes.length:=by rw [e4,row_len]
   repeat refine aw ?_
   refine WT_break ?_
   repeat refine aw ?_
   clear hF hok hok2 hbd helF helN hbody hstep
   refine WT_for p.nodes.length (fun k:Nat=>⟨[(89,.d (I k)),(88,.d (I (p.nodes.length:Nat))),(87,.ref 1 0 0 p.nodes.length)],[(1,.mt 1 0 (T3 p.funs.length))],2,[],0⟩)
    (fun k=>(usesL p).count (k:Int)=1) (by exact Uw.wM) (fun hc=>?_) (fun k hk hc=>?_)
   ·rw [hR hc]
    repeat refine aw ?_
    refine WT_break ?_
    repeat refine aw ?_
    exact WT_ret rfl rfl rfl rfl rfl
   have hel:=helT k hk
   have hti:=htime k hk
   by_cases h1:(usesL p).count (k:Int)=1
   ·rw [h1] at hel
    repeat refine aw ?_
    exact WT_next k h1 (by exact Uw.wM)
   ·rw [hti h1]
    have h2:¬(((usesL p).count (k:Int):Nat):Int)=1:=by omega
    clear hti
    generalize (((usesL p).count (k:Int):Nat):Int)=c at *
    repeat refine aw ?_
    refine WT_leave ?_
    exact WT_ret rfl rfl rfl rfl rfl
  have hb:=hbody j hj
  have hs:=hstep j hj
  have he:=helF j hj
  have hN2:=helN p.funs[j].body
  have hbk:bodyOK p.nodes p.funs[j]=(decide (0≤p.funs[j].body)&&decide (p.funs[j].body<p.nodes.length)&&decide (kindAt p.nodes p.funs[j].body=18)):=rfl
  have hnext:bodyOK p.nodes p.funs[j]=true→∀h:j<p.funs.length,bodyOK p.nodes p.funs[j]=true:=fun h _=>h
  rw [hbk] at hb hnext
  clear hbk hbody hstep helF helN
  generalize p.funs[j]=f at *
  obtain ⟨fn,fa,fb⟩:=f
  have he:(p.funs.map fuL)[(j:Int).toNat]? = some [.str fn,strsC fa,I fb]:=he
  simp only at *
  by_cases h0:fb<0
  ·rw [hb (by rw [decide_eq_false (by omega)];rfl)]
   repeat refine aw ?_
   refine WT_leave ?_
   exact WT_ret rfl rfl rfl rfl rfl
  by_cases h1:(p.nodes.length:Int)≤fb
  ·rw [hb (by rw [decide_eq_false (show ¬fb<p.nodes.length by omega),Bool.and_false];rfl)]
   repeat refine aw ?_
   refine WT_leave ?_
   exact WT_ret rfl rfl rfl rfl rfl
  obtain ⟨y,k1,k2⟩:=hN2 (by omega) (by omega)
  rw [k2,decide_eq_true (show 0≤fb by omega),decide_eq_true (show fb<p.nodes.length by omega)] at hb hnext
  by_cases h2:y.kind=18
  rotate_left
  ·rw [hb (by rw [decide_eq_false h2];rfl)]
   repeat refine aw ?_
   refine WT_leave ?_
   exact WT_ret rfl rfl rfl rfl rfl
  have hnext:=hnext (by rw [decide_eq_true h2];rfl)
  obtain ⟨c,g1,g2,g3,g4⟩:=hs (by omega) (by omega)
  repeat refine aw ?_
  exact WT_next j hnext (by exact Uw.wM)
 have hx:=hp.of p.nodes[i] (List.getElem_mem hlt)
 have hkid:=hF.kid i hlt
 have hshp:=hF.shape i hlt
 have hsh:=fun (hh:∀k∈p.nodes[i].of,0≤k∧k<(p.nodes.length:Int))=>s_check_shaped p.nodes p.nodes[i] hh (by omega)
 have hnew:(∀k∈p.nodes[i].of,0≤k∧k<(i:Int))→shapedF p.nodes p.nodes[i]=true→∀(j:Nat) (h:j<p.nodes.length),j<i+1→(∀k∈p.nodes[j].of,0≤k∧k<(j:Int))∧shapedF p.nodes p.nodes[j]=true:=by
  intro h1 h2 j h hj
  by_cases he:j=i
  ·subst he;exact ⟨h1,h2⟩
  ·exact hok j h (by omega)
 obtain ⟨T2,hT2⟩:∃T2:Nat→List (List Dat),∀j,T2 j=rowI (cntL (usesTo p.nodes i++p.nodes[i].of.take j) p.nodes.length):=⟨_,fun _=>rfl⟩
 have e1:T i=T2 0:=by rw [hT,hT2];simp
 have e2:T2 p.nodes[i].of.length=T (i+1):=by rw [hT,hT2,List.take_length,usesTo_succ hlt]
 have hstep:∀(j:Nat) (h:j<p.nodes[i].of.length),0≤p.nodes[i].of[j]→p.nodes[i].of[j]<p.nodes.length→∃c:Int,(T2 j)[0+p.nodes[i].of[j].toNat]? = some [I c]∧(T2 j).set (0+p.nodes[i].of[j].toNat) (setAt [I c] 0 [I (c+1)])=T2 (j+1)∧0≤c∧c<100000000000:=by
  intro j h h0 h1
  obtain ⟨c,g1,g2,g3,g4⟩:=inc_row (usesTo p.nodes i++p.nodes[i].of.take j) p.nodes.length _ h0 h1
  refine ⟨c,by rw [hT2];exact g1,?_,g3,?_⟩
  ·rw [hT2,hT2,g2,List.take_succ_eq_append_getElem h,List.append_assoc]
  ·have:=usesTo_few hp i
   simp at g4;omega
 have hel:(p.nodes.map ndL)[(i:Int).toNat]? = some (ndL p.nodes[i]):=by simp [hlt]
 have hmem:∀(j:Nat) (h:j<p.nodes[i].of.length),p.nodes[i].of[j]∈p.nodes[i].of:=fun j h=>List.getElem_mem h
 have hall:(∀(j:Nat) (h:j<p.nodes[i].of.length),0≤p.nodes[i].of[j]∧p.nodes[i].of[j]<(i:Int))→∀k∈p.nodes[i].of,0≤k∧k<(i:Int):=by
  intro h k hk
  obtain ⟨j,hj,rfl⟩:=List.mem_iff_getElem.1 hk
  exact h j hj
 generalize p.nodes[i]=x at *
 have hol:(x.of.map fun i=>[I i]).length=x.of.length:=by simp
 have hoe:∀(j:Nat) (h:j<x.of.length),(x.of.map fun i=>[I i])[(j:Int).toNat]? = some [I x.of[j]]:=by intro j h;simp [h]
 repeat refine aw ?_
 refine WT_loop (fun j:Nat=>⟨[(27,.d (I j)),(26,.d (I ((x.of.map fun i=>[I i]).length:Nat))),(25,.d (intsD x.of)),(4,.d (I i)),(5,.ptr 2 0),(19,.d (I i)),(18,.d (I ((p.nodes.map ndL).length:Nat))),(17,.d (nodesD p.nodes)),(3,.ref 1 0 0 p.nodes.length),(1,.ptr 0 0)],[(2,.var [.d (I x.kind),.d (I x.n),.d (.str x.name),.d (.str x.name2),.d (intsD x.of)]),(1,.mt 1 0 (T2 j)),(0,.var [.d (.slice 3 (p.decls.map decL) false),.d (.slice 3 (p.funs.map fuL) false),.d (nodesD p.nodes)])],3,[],0⟩)
  (fun j=>j≤x.of.length∧∀(m:Nat) (h:m<x.of.length),m<j→0≤x.of[m]∧x.of[m]<(i:Int)) (fun j=>x.of.length - j) 0 (by exact Uw.wM) ⟨by omega,fun m _ h=>by omega⟩ ?_
 rintro j ⟨hj,hpre⟩
 by_cases hjl:j<x.of.length
 ·have hk:=hkid x.of[j] (hmem j hjl)
  have hs:=hstep j hjl
  have he:=hoe j hjl
  have hpre2:0≤x.of[j]∧x.of[j]<(i:Int)→∀(m:Nat) (h:m<x.of.length),m<j+1→0≤x.of[m]∧x.of[m]<(i:Int):=by
   intro h1 m h hm
   by_cases h2:m=j
   ·subst h2;exact h1
   ·exact hpre m h (by omega)
  clear hpre hoe hmem hstep hkid hall
  generalize x.of[j]=k at *
  by_cases h0:k<0
  ·rw [hk (by omega)]
   repeat refine aw ?_
   exact WT_leave (WT_leave (WT_ret rfl rfl rfl rfl rfl))
  by_cases h1:(i:Int)≤k
  ·rw [hk (by omega)]
   repeat refine aw ?_
   exact WT_leave (WT_leave (WT_ret rfl rfl rfl rfl rfl))
  obtain ⟨c,g1,g2,g3,g4⟩:=hs (by omega) (by omega)
  have hpre3:=hpre2 (by omega)
  repeat refine aw ?_
  exact WT_again (j+1) ⟨by omega,hpre3⟩ (by omega) (by exact Uw.wM)
 obtain rfl:j=x.of.length:=by omega
 have hsh2:=hsh fun k hk=>by have:=hall (fun m h=>hpre m h h) k hk;omega
 have hnew2:=hnew (hall fun m h=>hpre m h h)
 by_cases hs:shapedF p.nodes x=true
 ·rw [hs] at hsh2
  have hnew3:=hnew2 hs
  repeat refine aw ?_
  refine WT_break ?_
  repeat refine aw ?_
  exact WT_again (i+1) ⟨by omega,hnew3⟩ (by omega) (by exact Uw.wM)
 ·have hs:shapedF p.nodes x=false:=by simpa using hs
  rw [hs] at hsh2
  rw [hshp hs]
  repeat refine aw ?_
  refine WT_break ?_
  repeat refine aw ?_
  exact WT_leave (WT_ret rfl rfl rfl rfl rfl)
end Uw.Tryz
namespace Uw.Tryz
open Go Uw
theorem own0_len:∀(fs:List Fu) (i:Nat) (o:List Int),(own0 fs i o).length=o.length
 | [],_,_=>rfl
 | f::fs,i,o=>by rw [own0,own0_len fs];simp
theorem foldl_len {i:Nat}:∀(l:List Int) (o:List Int),(l.foldl (fun o k=>o.set k.toNat (o.getD i 0)) o).length=o.length
 | [],_=>rfl
 | k::l,o=>by rw [List.foldl_cons,foldl_len l];simp
theorem ownDown_len:∀(l:List (Nat×Nd)) (o:List Int),(ownDown l o).length=o.length
 | [],_=>rfl
 | (i,x)::r,o=>by rw [ownDown,ownDown_len r,ownKids,foldl_len]
theorem ownersP_len (p:Pg):(ownersP p).length=p.nodes.length:=by rw [ownersP,ownDown_len,own0_len];simp
theorem zip_mem {α β:Type}:∀{l:List α} {l' : List β} {x:α},l'.length=l.length→x∈l→∃y,(x,y)∈l.zip l'
 | a::l,[],x,h,_=>by simp at h
 | a::l,b::l',x,h,hx=>by
  rcases List.mem_cons.1 hx with rfl|hx
  ·exact ⟨b,by simp⟩
  ·obtain ⟨y,hy⟩:=zip_mem (l:=l) (l':=l') (by simpa using h) hx
   exact ⟨y,by simp [hy]⟩
structure May (p:Pg):Prop where
 formed:formedP p=true
 bound:boundP p=false
 twice:twiceP p=false
 name:nameP p=false
 sort:sortP p=false
 many:manyP p=false
theorem may_of {p:Pg} (h:whyP p=0):May p:=by
 unfold whyP at h
 cases h1:formedP p<;>cases h2:boundP p<;>cases h3:twiceP p<;>cases h4:nameP p<;>cases h5:sortP p<;>cases h6:manyP p<;>simp [h1,h2,h3,h4,h5,h6] at h
 exact ⟨h1,h2,h3,h4,h5,h6⟩
theorem nodup_get {α:Type} {l:List α} (h:l.Nodup) {i j:Nat} (hi:i<l.length) (hj:j<l.length) (he:l[i]=l[j]):i=j:=by
 have h:=List.pairwise_iff_getElem.1 (List.nodup_iff_pairwise_ne.1 h)
 rcases Nat.lt_trichotomy i j with h1|h1|h1
 ·exact absurd he (h i j hi hj h1)
 ·exact h1
 ·exact absurd he.symm (h j i hj hi h1)
theorem funP_some {p:Pg} {s:Str} {i:Nat} (h:funP p s=some i):∃h:i<p.funs.length,p.funs[i].name=s:=by
 obtain ⟨h1,h2,_⟩:=List.findIdx?_eq_some_iff_getElem.1 h
 exact ⟨h1,by simpa using h2⟩
theorem funP_self {p:Pg} (h:(p.funs.map (·.name)).Nodup) {i:Nat} (hi:i<p.funs.length):funP p p.funs[i].name=some i:=by
 refine List.findIdx?_eq_some_iff_getElem.2 ⟨hi,by simp,fun j hj hji=>?_⟩
 have hjl:j<p.funs.length:=by omega
 have e:p.funs[j].name=p.funs[i].name:=by simpa using hji
 have:=nodup_get h (i:=j) (j:=i) (by simpa using hjl) (by simpa using hi) (by simpa using e)
 omega
theorem May.names {p:Pg} (h:May p):(p.decls.map (·.name)).Nodup∧(p.funs.map (·.name)).Nodup∧∀f∈p.funs,dupA p [] f.args=false:=by
 have:=h.twice
 simp only [twiceP,Bool.or_eq_false_iff,Bool.not_eq_false',decide_eq_true_eq,List.any_eq_false] at this
 exact ⟨this.1.1,this.1.2,fun f hf=>by simpa using this.2 f hf⟩
theorem May.main {p:Pg} (h:May p):∃m,∃hm:m<p.funs.length,funP p sMain=some m∧p.funs[m].args=[]:=by
 have h1:=h.name
 have h2:=h.many
 simp only [nameP,Bool.or_eq_false_iff] at h1
 simp only [manyP,Bool.or_eq_false_iff,decide_eq_false_iff_not] at h2
 cases hf:funP p sMain with
 | none=>rw [hf] at h1;simp at h1
 | some m=>
  obtain ⟨hm,_⟩:=funP_some hf
  refine ⟨m,hm,rfl,?_⟩
  have:=h2.1
  rw [argsAt,hf] at this
  simp only [Option.getD_some,List.getD,List.getElem?_eq_getElem hm] at this
  exact List.eq_nil_of_length_eq_zero (by omega)
theorem May.call {p:Pg} (h:May p) {x:Nd} (hx:x∈p.nodes) (hk:x.kind=10∨x.kind=11):∃k,∃hk:k<p.funs.length,funP p x.name2=some k∧(x.kind=10→x.of.length=p.funs[k].args.length)∧(x.kind=11→p.funs[k].args.length=1):=by
 have h2:=h.many
 simp only [manyP,Bool.or_eq_false_iff,decide_eq_false_iff_not,List.any_eq_false] at h2
 have h1:=h.name
 simp only [nameP,Bool.or_eq_false_iff,List.any_eq_false] at h1
 have h3:=h2.2 x hx
 obtain ⟨o,ho⟩:∃o,(x,o)∈p.nodes.zip (ownersP p):=zip_mem (ownersP_len p) hx
 have h4:=h1.1.2 _ ho
 simp only [nameN,if_pos hk] at h4
 cases hf:funP p x.name2 with
 | none=>rw [hf] at h4;simp at h4
 | some k=>
  obtain ⟨hkl,_⟩:=funP_some hf
  refine ⟨k,hkl,rfl,fun h10=>?_,fun h11=>?_⟩
  ·simp [manyN,h10,argsAt,hf,hkl] at h3;exact h3
  ·simp [manyN,h11,argsAt,hf,hkl] at h3;exact h3
theorem dupA_ok {p:Pg}:∀(l seen:List Str),dupA p seen l=false→l.Nodup∧(∀a∈l,a∉seen)∧∀a∈l,thingP p a=none
 | [],_,_=>⟨List.nodup_nil,by simp,by simp⟩
 | a::r,seen,h=>by
  simp only [dupA,Bool.or_eq_false_iff,decide_eq_false_iff_not] at h
  obtain ⟨h1,h2,h3⟩:=dupA_ok r (a::seen) h.2
  refine ⟨List.nodup_cons.2 ⟨fun hm=>h2 a hm (by simp),h1⟩,?_,?_⟩
  ·intro b hb
   rcases List.mem_cons.1 hb with rfl|hb
   ·exact h.1.2
   ·exact fun hs=>h2 b hb (by simp [hs])
  ·intro b hb
   rcases List.mem_cons.1 hb with rfl|hb
   ·simpa using h.1.1
   ·exact h3 b hb
def Loc (p:Pg) (a l:List Str):Prop:=(∃t,l=a++t)∧l.Nodup∧∀s∈l,thingP p s=none
def Locs (p:Pg) (ls:List (List Str)):Prop:=ls.length=p.funs.length∧∀(f:Nat) (h:f<p.funs.length),Loc p p.funs[f].args (ls.getD f [])
theorem Locs.add {p:Pg} {ls:List (List Str)} (h:Locs p ls) (f:Nat) (s:Str) (hs:thingP p s=none):Locs p (addLocal ls f s):=by
 unfold addLocal
 split
 ·exact h
 ·rename_i hm
  refine ⟨by simpa using h.1,fun g hg=>?_⟩
  by_cases hgf:g=f
  ·subst hgf
   obtain ⟨⟨t,ht⟩,h2,h3⟩:=h.2 g hg
   have e:(ls.set g (ls.getD g []++[s])).getD g []=ls.getD g []++[s]:=by simp [h.1,hg]
   rw [e]
   refine ⟨⟨t++[s],by rw [ht,List.append_assoc]⟩,?_,?_⟩
   ·rw [List.nodup_append]
    exact ⟨h2,by simp,fun a ha b hb=>by simp at hb;subst hb;exact fun e=>hm (e ▸ ha)⟩
   ·intro b hb
    rcases List.mem_append.1 hb with hb|hb
    ·exact h3 b hb
    ·simp at hb;subst hb;exact hs
  ·have e:(ls.set f (ls.getD f []++[s])).getD g []=ls.getD g []:=by simp [List.getD,List.getElem?_set,Ne.symm hgf]
   rw [e];exact h.2 g hg
theorem Locs.go {p:Pg}:∀(r:List (Nd×Int)) (ls:List (List Str)),Locs p ls→Locs p (localsGo p r ls)
 | [],ls,h=>h
 | (x,o)::r,ls,h=>by
  rw [localsGo]
  refine Locs.go r _ ?_
  split
  ·rename_i hl
   refine h.add _ _ ?_
   simp only [localN,Bool.and_eq_true] at hl
   simpa using hl.2
  ·exact h
theorem May.locs {p:Pg} (h:May p):Locs p (localsP p):=by
 refine Locs.go _ _ ⟨by simp,fun f hf=>?_⟩
 obtain ⟨h1,_,h3⟩:=dupA_ok _ _ (h.names.2.2 p.funs[f] (List.getElem_mem hf))
 have e:(p.funs.map (·.args)).getD f []=p.funs[f].args:=by simp [List.getD,hf]
 rw [e]
 exact ⟨⟨[],by simp⟩,h1,h3⟩
theorem May.lof {p:Pg} (h:May p) (k:Nat) (hk:k<p.funs.length):localsOf p k=(localsP p).getD k []:=by
 rw [localsOf,if_neg (by simp [h.formed];omega)]
 simp
theorem May.locals {p:Pg} (h:May p) (k:Nat) (hk:k<p.funs.length):Loc p p.funs[k].args (localsOf p k)∧(localsOf p k).length≤16:=by
 rw [h.lof k hk]
 refine ⟨h.locs.2 k hk,?_⟩
 have:=h.bound
 simp only [boundP,Bool.or_eq_false_iff,List.any_eq_false] at this
 have hl:k<(localsP p).length:=by rw [h.locs.1];exact hk
 have:=this.1.2 (localsP p)[k] (List.getElem_mem hl)
 have e:(localsP p).getD k []=(localsP p)[k]:=by simp [List.getD,hl]
 rw [e]
 simpa using this
theorem thingP_last {p:Pg} {s:Str}:thingP p s=none↔∀d∈p.decls,d.name≠s:=by
 simp [thingP]
theorem thingP_mem {p:Pg} (h:(p.decls.map (·.name)).Nodup) {d:Dec} (hd:d∈p.decls):thingP p d.name=some d.kind:=by
 unfold thingP
 cases hf:p.decls.find? fun e=>decide (e.name=d.name) with
 | none=>
  have:=List.find?_eq_none.1 hf d hd
  simp at this
 | some e=>
  have h1:=List.mem_of_find?_eq_some hf
  have h2:=List.find?_some hf
  simp at h2
  obtain ⟨i,hi,rfl⟩:=List.mem_iff_getElem.1 hd
  obtain ⟨j,hj,rfl⟩:=List.mem_iff_getElem.1 h1
  have:=nodup_get h (i:=j) (j:=i) (by simpa using hj) (by simpa using hi) (by simpa using h2)
  subst this
  rfl
theorem May.read {p:Pg} (h:May p) {x:Nd} (hx:x∈p.nodes):(x.kind=8→∃k,thingP p x.name=some k∧1≤k)∧(x.kind=2→thingP p x.name=some 0∨(thingP p x.name=none∧∃k,k<p.funs.length∧x.name∈localsOf p k)):=by
 obtain ⟨o,ho⟩:=zip_mem (ownersP_len p) hx
 have h1:=h.name
 simp only [nameP,Bool.or_eq_false_iff,List.any_eq_false] at h1
 have h1:=h1.1.2 _ ho
 have h2:=h.sort
 simp only [sortP,List.any_eq_false] at h2
 have h2:=h2 x hx
 refine ⟨fun hk=>?_,fun hk=>?_⟩
 ·simp [nameN,hk] at h1
  simp [sortN,hk] at h2
  cases ht:thingP p x.name with
  | none=>rw [ht] at h1;simp at h1
  | some k=>
   rw [ht] at h2
   refine ⟨k,rfl,?_⟩
   simp [needsP] at h2
   split at h2
   ·omega
   ·split at h2
    ·omega
    ·split at h2
     ·omega
     ·simp at h2
 ·simp [nameN,hk] at h1
  simp [sortN,hk] at h2
  cases ht:thingP p x.name with
  | some k=>rw [ht] at h2;simp at h2;exact .inl (by rw [h2])
  | none=>
   have h1:=h1 ht
   refine .inr ⟨rfl,o.toNat,?_⟩
   have hl:o.toNat<(localsP p).length:=by
    rcases Nat.lt_or_ge o.toNat (localsP p).length with hl|hl
    ·exact hl
    ·simp [List.getElem?_eq_none hl] at h1
   rw [h.locs.1] at hl
   refine ⟨hl,?_⟩
   rw [h.lof _ hl]
   simpa using h1
theorem nodesOK_get {ns:List Nd}:∀{l:List Nd} {i:Nat},nodesOK ns i l=true→∀x∈l,∀k∈x.of,0≤k∧k<i+l.length
 | [],_,_,x,hx,_,_=>by simp at hx
 | y::l,i,h,x,hx,k,hk=>by
  simp only [nodesOK,Bool.and_eq_true] at h
  rcases List.mem_cons.1 hx with rfl|hx
  ·have h:=h.1
   simp only [nodeOK,Bool.and_eq_true,List.all_eq_true] at h
   have:=h.1 k hk
   simp at this ⊢
   omega
  ·have:=nodesOK_get h.2 x hx k hk
   simp at this ⊢
   omega
theorem uses_lt {p:Pg} (h:formedP p=true):∀k∈usesL p,0≤k∧k<p.nodes.length:=by
 simp only [formedP,Bool.and_eq_true,List.all_eq_true] at h
 intro k hk
 rcases List.mem_append.1 hk with hk|hk
 ·obtain ⟨x,hx,hk⟩:=List.mem_flatMap.1 hk
  have:=nodesOK_get h.1.1 x hx k hk
  simpa using this
 ·obtain ⟨f,hf,rfl⟩:=List.mem_map.1 hk
  have:=h.1.2 f hf
  simp [bodyOK] at this
  omega
theorem formed_count {p:Pg} (h:formedP p=true) (k:Nat) (hk:k<p.nodes.length):(usesL p).count (k:Int)=1:=by
 simp only [formedP,Bool.and_eq_true,List.all_eq_true] at h
 simpa using h.2 k (by simpa using hk)
theorem more_not {p:Pg} (h:formedP p=true) (x:Nd) (hx:x.of=[]):formedP { p with nodes:=p.nodes++[x] }=false:=by
 rw [Bool.eq_false_iff]
 intro hf
 have h1:=formed_count hf p.nodes.length (by simp)
 have e:usesL { p with nodes:=p.nodes++[x] }=usesL p:=by simp [usesL,hx]
 rw [e] at h1
 have:((p.nodes.length:Nat):Int)∈usesL p:=List.count_pos_iff.1 (by omega)
 have:=uses_lt h _ this
 omega
theorem twice_not {p:Pg} (h:formedP p=true) (x:Nd) (k:Nat) (hk:k<p.nodes.length) (hx:x.of=[(k:Int)]):formedP { p with nodes:=p.nodes++[x] }=false:=by
 rw [Bool.eq_false_iff]
 intro hf
 have h1:=formed_count hf k (by simp;omega)
 have h2:=formed_count h k hk
 have e:(usesL { p with nodes:=p.nodes++[x] }).count (k:Int)=(usesL p).count (k:Int)+1:=by
  simp [usesL,hx,List.count_append]
  omega
 omega
end Uw.Tryz
namespace Uw.Tryz
open Go Uw
theorem mem_idx {α:Type} {x:α}:∀{l:List α} {b i:Nat},(i,x)∈idx b l↔b≤i∧l[i - b]? = some x
 | [],b,i=>by simp [idx]
 | y::l,b,i=>by
  rw [idx,List.mem_cons,mem_idx]
  constructor
  ·rintro (h|⟨h1,h2⟩)
   ·injection h with h1 h2;subst h1 h2;simp
   ·exact ⟨by omega,by rw [show i - b=(i - (b+1))+1 by omega,List.getElem?_cons_succ];exact h2⟩
  ·rintro ⟨h1,h2⟩
   by_cases he:i=b
   ·subst he;simp at h2;subst h2;exact .inl rfl
   ·refine .inr ⟨by omega,?_⟩
    rw [show i - b=(i - (b+1))+1 by omega,List.getElem?_cons_succ] at h2;exact h2
theorem idx_inc {α:Type}:∀(l:List α) (b:Nat),(idx b l).Pairwise fun a c=>a.1<c.1
 | [],b=>List.Pairwise.nil
 | y::l,b=>by
  rw [idx]
  refine List.Pairwise.cons ?_ (idx_inc l (b+1))
  rintro ⟨i,x⟩ h
  have:=(mem_idx.1 h).1
  simp only;omega
theorem idx_flat {α β:Type} (f:α→List β):∀(l:List α) (b:Nat),(idx b l).flatMap (fun y=>f y.2)=l.flatMap f
 | [],b=>rfl
 | y::l,b=>by rw [idx,List.flatMap_cons,List.flatMap_cons,idx_flat f l]
theorem kids_get {n:Nat} (i:Nat):∀(l:List Int) (o:List Int),o.length=n→(∀k∈l,0≤k∧k<(i:Int))→i<n→∀(j:Nat),(l.foldl (fun o k=>o.set k.toNat (o.getD i 0)) o).getD j 0=if (j:Int)∈l then o.getD i 0 else o.getD j 0
 | [],o,ho,h,hi,j=>by simp
 | k::l,o,ho,h,hi,j=>by
  obtain ⟨h1,h2⟩:=h k (by simp)
  rw [List.foldl_cons,kids_get i l _ (by simpa using ho) (fun k hk=>h k (by simp [hk])) hi j]
  have e:(o.set k.toNat (o.getD i 0)).getD i 0=o.getD i 0:=by
   simp only [List.getD,List.getElem?_set]
   rw [if_neg (by omega)]
  rw [e]
  by_cases hj:(j:Int)∈l
  ·rw [if_pos hj,if_pos (by simp [hj])]
  ·rw [if_neg hj]
   by_cases hk:(j:Int)=k
   ·rw [if_pos (by simp [hk])]
    subst hk
    simp only [List.getD,List.getElem?_set,Int.toNat_natCast,if_true]
    rw [if_pos (by omega)];rfl
   ·rw [if_neg (by simp [hk,hj])]
    simp only [List.getD,List.getElem?_set]
    rw [if_neg (by omega)]
structure Down (n:Nat) (l:List (Nat×Nd)):Prop where
 dec:l.Pairwise fun a c=>c.1<a.1
 kid:∀y∈l,y.1<n∧∀k∈y.2.of,0≤k∧k<(y.1:Int)
 once:(l.flatMap fun y=>y.2.of).Nodup
theorem down_get {n:Nat}:∀(l:List (Nat×Nd)) (o:List Int),o.length=n→Down n l→
  (∀j:Nat,(∀y∈l,(j:Int)∉y.2.of)→(ownDown l o).getD j 0=o.getD j 0)∧∀y∈l,∀j:Nat,(j:Int)∈y.2.of→(ownDown l o).getD j 0=(ownDown l o).getD y.1 0
 | [],o,ho,h=>⟨fun j _=>rfl,by simp⟩
 | (i,x)::r,o,ho,h=>by
  obtain ⟨hi,hx⟩:=h.kid (i,x) (by simp)
  simp only at hi hx
  have hlen:(ownKids o i x).length=n:=by rw [ownKids,foldl_len,ho]
  have hon:=h.once
  rw [List.flatMap_cons,List.nodup_append] at hon
  have hd:=List.pairwise_cons.1 h.dec
  have hr:Down n r:=⟨hd.2,fun y hy=>h.kid y (by simp [hy]),hon.2.1⟩
  obtain ⟨a1,a2⟩:=down_get r (ownKids o i x) hlen hr
  have hk:=kids_get i x.of o ho hx hi
  have hki:(ownKids o i x).getD i 0=o.getD i 0:=by
   rw [ownKids,hk i,if_neg]
   intro hm;have:=hx _ hm;omega
  have hii:(ownDown r (ownKids o i x)).getD i 0=o.getD i 0:=by
   rw [a1 i ?_,hki]
   intro y hy hm
   have h1:=(hr.kid y hy).2 _ hm
   have h2:=hd.1 y hy
   simp only at h2
   omega
  refine ⟨fun j hj=>?_,fun y hy j hm=>?_⟩
  ·rw [ownDown,a1 j fun y hy=>hj y (by simp [hy]),ownKids,hk j,if_neg (hj (i,x) (by simp))]
  ·rw [ownDown]
   rcases List.mem_cons.1 hy with rfl|hy
   ·rw [hii,a1 j ?_,ownKids,hk j,if_pos hm]
    intro y hy hm2
    exact hon.2.2 _ hm _ (List.mem_flatMap.2 ⟨y,hy,hm2⟩) rfl
   ·exact a2 y hy j hm
theorem uses_nodup {p:Pg} (h:formedP p=true):(usesL p).Nodup:=by
 rw [List.nodup_iff_count]
 intro k
 by_cases hk:k∈usesL p
 ·obtain ⟨h1,h2⟩:=uses_lt h k hk
  have:=formed_count h k.toNat (by omega)
  rw [show ((k.toNat:Nat):Int)=k by omega] at this
  omega
 ·rw [List.count_eq_zero.2 hk];omega
theorem own0_get:∀(fs:List Fu) (b:Nat) (o:List Int),(∀f∈fs,0≤f.body∧f.body<(o.length:Int))→(fs.map (·.body)).Nodup→∀(i:Nat) (hi:i<fs.length),(own0 fs b o).getD fs[i].body.toNat 0=((b+i:Nat):Int)∧∀j:Nat,(∀f∈fs,f.body≠(j:Int))→(own0 fs b o).getD j 0=o.getD j 0
 | [],b,o,_,_,i,hi=>by simp at hi
 | f::fs,b,o,h,hn,i,hi=>by
  rw [List.map_cons,List.nodup_cons] at hn
  obtain ⟨h1,h2⟩:=h f (by simp)
  have hrest:∀g∈fs,0≤g.body∧g.body<((o.set f.body.toNat b).length:Int):=fun g hg=>by rw [List.length_set];exact h g (by simp [hg])
  have hno:∀j:Nat,(∀g∈fs,g.body≠(j:Int))→(own0 fs (b+1) (o.set f.body.toNat b)).getD j 0=(o.set f.body.toNat b).getD j 0:=by
   intro j hj
   cases fs with
   | nil=>rfl
   | cons g fs=>exact (own0_get (g::fs) (b+1) _ hrest hn.2 0 (by simp)).2 j hj
  refine ⟨?_,fun j hj=>?_⟩
  ·rw [own0]
   cases i with
   | zero=>
    rw [List.getElem_cons_zero,hno f.body.toNat fun g hg e=>hn.1 (List.mem_map.2 ⟨g,hg,by rw [e];omega⟩)]
    simp only [List.getD,List.getElem?_set]
    rw [if_pos trivial,if_pos (by omega)];simp
   | succ i=>
    rw [List.getElem_cons_succ,(own0_get fs (b+1) _ hrest hn.2 i (by simpa using hi)).1]
    omega
  ·rw [own0,hno j fun g hg=>hj g (by simp [hg])]
   simp only [List.getD,List.getElem?_set]
   have:=hj f (by simp)
   rw [if_neg (by omega)]
structure Owns (p:Pg):Prop where
 body:∀(i:Nat) (h:i<p.funs.length),(ownersP p).getD p.funs[i].body.toNat 0=(i:Int)
 kid:∀(i:Nat) (h:i<p.nodes.length) (j:Nat),(j:Int)∈p.nodes[i].of→(ownersP p).getD j 0=(ownersP p).getD i 0
theorem owns {p:Pg} (h:formedP p=true):Owns p:=by
 have hn:=uses_nodup h
 rw [usesL,List.nodup_append] at hn
 have hkid:∀(i:Nat) (hi:i<p.nodes.length) (k:Int),k∈p.nodes[i].of→0≤k∧k<(i:Int):=by
  intro i hi k hk
  have h1:=h
  simp only [formedP,Bool.and_eq_true] at h1
  have key:∀(l:List Nd) (b:Nat),nodesOK p.nodes b l=true→∀(i:Nat) (hi:i<l.length) (k:Int),k∈l[i].of→0≤k∧k<((b+i:Nat):Int):=by
   intro l
   induction l with
   | nil=>intro b _ i hi;simp at hi
   | cons y l ih=>
    intro b hb i hi k hk
    simp only [nodesOK,Bool.and_eq_true] at hb
    cases i with
    | zero=>
     have h2:=hb.1
     simp only [nodeOK,Bool.and_eq_true,List.all_eq_true] at h2
     have:=h2.1 k hk
     simpa using this
    | succ i=>
     have:=ih (b+1) hb.2 i (by simpa using hi) k hk
     omega
  have:=key p.nodes 0 h1.1.1 i hi k hk
  omega
 have hflat:((idx 0 p.nodes).reverse.flatMap fun y=>y.2.of).Nodup:=by
  refine (List.Perm.nodup_iff (List.Perm.flatMap_right _ (List.reverse_perm _))).2 ?_
  rw [idx_flat (fun x:Nd=>x.of)];exact hn.1
 have hdown:Down p.nodes.length (idx 0 p.nodes).reverse:=by
  refine ⟨List.pairwise_reverse.2 (idx_inc _ _),?_,hflat⟩
  rintro ⟨i,x⟩ hy
  obtain ⟨_,h2⟩:=mem_idx.1 (List.mem_reverse.1 hy)
  rw [Nat.sub_zero] at h2
  obtain ⟨h3,rfl⟩:=List.getElem?_eq_some_iff.1 h2
  exact ⟨h3,fun k hk=>hkid i h3 k hk⟩
 have hlen:(own0 p.funs 0 (List.replicate p.nodes.length 0)).length=p.nodes.length:=by rw [own0_len];simp
 obtain ⟨a1,a2⟩:=down_get _ _ hlen hdown
 refine ⟨fun i hi=>?_,fun i hi j hj=>?_⟩
 ·have hb:0≤p.funs[i].body:=(uses_lt h _ (List.mem_append.2 (.inr (List.mem_map.2 ⟨_,List.getElem_mem hi,rfl⟩)))).1
  rw [ownersP,a1 _ ?_]
  ·rw [(own0_get p.funs 0 _ (fun f hf=>by simpa using uses_lt h _ (List.mem_append.2 (.inr (List.mem_map.2 ⟨_,hf,rfl⟩)))) hn.2.1 i hi).1]
   omega
  ·rintro ⟨m,x⟩ hy hm
   obtain ⟨_,h2⟩:=mem_idx.1 (List.mem_reverse.1 hy)
   have hx:x∈p.nodes:=List.mem_of_getElem? h2
   simp only at hm
   rw [show ((p.funs[i].body.toNat:Nat):Int)=p.funs[i].body by omega] at hm
   exact hn.2.2 _ (List.mem_flatMap.2 ⟨x,hx,hm⟩) _ (List.mem_map.2 ⟨_,List.getElem_mem hi,rfl⟩) rfl
 ·exact a2 (i,p.nodes[i]) (List.mem_reverse.2 (mem_idx.2 ⟨Nat.zero_le _,by simp⟩)) j hj
end Uw.Tryz
namespace Uw.Tryz
open Go Uw
theorem formed_node {p:Pg} (h:formedP p=true) (i:Nat) (hi:i<p.nodes.length):(∀k∈p.nodes[i].of,0≤k∧k<(i:Int))∧shapedF p.nodes p.nodes[i]=true:=by
 have h1:=h
 simp only [formedP,Bool.and_eq_true] at h1
 have key:∀(l:List Nd) (b:Nat),nodesOK p.nodes b l=true→∀(i:Nat) (hi:i<l.length),(∀k∈l[i].of,0≤k∧k<((b+i:Nat):Int))∧shapedF p.nodes l[i]=true:=by
  intro l
  induction l with
  | nil=>intro b _ i hi;simp at hi
  | cons y l ih=>
   intro b hb i hi
   simp only [nodesOK,Bool.and_eq_true] at hb
   cases i with
   | zero=>
    have h2:=hb.1
    simp only [nodeOK,Bool.and_eq_true,List.all_eq_true] at h2
    exact ⟨fun k hk=>by simpa using h2.1 k hk,h2.2⟩
   | succ i=>
    obtain ⟨h3,h4⟩:=ih (b+1) hb.2 i (by simpa using hi)
    exact ⟨fun k hk=>by have:=h3 k hk;omega,h4⟩
 obtain ⟨h3,h4⟩:=key p.nodes 0 h1.1.1 i hi
 exact ⟨fun k hk=>by have:=h3 k hk;omega,h4⟩
theorem formed_body {p:Pg} (h:formedP p=true) (i:Nat) (hi:i<p.funs.length):0≤p.funs[i].body∧p.funs[i].body<p.nodes.length∧kindAt p.nodes p.funs[i].body=18:=by
 simp only [formedP,Bool.and_eq_true,List.all_eq_true] at h
 have:=h.1.2 _ (List.getElem_mem hi)
 simp only [bodyOK,Bool.and_eq_true,decide_eq_true_eq] at this
 exact ⟨this.1.1,this.1.2,this.2⟩
theorem formed_up {p:Pg} (h:formedP p=true) (k:Nat) (hk:k<p.nodes.length) (hb:∀(i:Nat) (hi:i<p.funs.length),p.funs[i].body≠(k:Int)):∃i,∃hi:i<p.nodes.length,(k:Int)∈p.nodes[i].of:=by
 have h1:=formed_count h k hk
 have h2:(k:Int)∈usesL p:=List.count_pos_iff.1 (by omega)
 rcases List.mem_append.1 h2 with h3|h3
 ·obtain ⟨x,hx,hk⟩:=List.mem_flatMap.1 h3
  obtain ⟨i,hi,rfl⟩:=List.mem_iff_getElem.1 hx
  exact ⟨i,hi,hk⟩
 ·obtain ⟨f,hf,he⟩:=List.mem_map.1 h3
  obtain ⟨i,hi,rfl⟩:=List.mem_iff_getElem.1 hf
  exact absurd he (hb i hi)
structure Ups (p:Pg) (own:List Int):Prop where
 len:own.length=p.nodes.length
 body:∀(i:Nat) (h:i<p.funs.length) (k:Nat),k<p.nodes.length→p.funs[i].body=(k:Int)→own.getD k 0=(i:Int)
 kid:∀(i:Nat) (h:i<p.nodes.length) (k:Nat),(k:Int)∈p.nodes[i].of→own.getD k 0=own.getD i 0∧k<i
 up:∀(k:Nat),k<p.nodes.length→(∀(i:Nat) (hi:i<p.funs.length),p.funs[i].body≠(k:Int))→(∀(i:Nat) (hi:i<p.nodes.length),(k:Int)∉p.nodes[i].of)→False
theorem formed_ups {p:Pg} (h:formedP p=true):Ups p (ownersP p):=by
 have ho:=owns h
 refine ⟨ownersP_len p,fun i hi k hk e=>?_,fun i hi k hm=>⟨ho.kid i hi k hm,?_⟩,fun k hk h1 h2=>?_⟩
 ·have:=ho.body i hi
  rw [e] at this
  simpa using this
 ·have:=(formed_node h i hi).1 _ hm;omega
 ·obtain ⟨i,hi,hm⟩:=formed_up h k hk h1
  exact h2 i hi hm
theorem own_in {p:Pg} (h:formedP p=true):∀(d k:Nat),k<p.nodes.length→p.nodes.length - k≤d→0≤(ownersP p).getD k 0∧(ownersP p).getD k 0<p.funs.length
 | 0,k,hk,hd=>by omega
 | d+1,k,hk,hd=>by
  have hu:=formed_ups h
  by_cases hb:∃(i:Nat) (hi:i<p.funs.length),p.funs[i].body=(k:Int)
  ·obtain ⟨i,hi,e⟩:=hb
   rw [hu.body i hi k hk e];omega
  ·obtain ⟨i,hi,hm⟩:=formed_up h k hk fun i hi e=>hb ⟨i,hi,e⟩
   obtain ⟨e,hlt⟩:=hu.kid i hi k hm
   rw [e]
   exact own_in h d i hi (by omega)
theorem addLocal_len (ls:List (List Str)) (g:Nat) (s:Str):(addLocal ls g s).length=ls.length:=by
 unfold addLocal
 split<;>simp
end Uw.Tryz
namespace Uw.Tryz
open Go Uw
abbrev MS:=List (MKey×Dat)
theorem mget_mset:∀(es:MS) (k x:MKey) (d:Dat),mget (mset es k d) x=if x=k then some d else mget es x
 | [],k,x,d=>by
  simp only [mset,mget]
  by_cases h:x=k<;>simp [h]
 | (k0,v)::es,k,x,d=>by
  simp only [mset]
  by_cases h:k=k0
  ·subst h
   simp only [decide_true,mget]
   by_cases hx:x=k<;>simp [hx]
  ·simp only [decide_eq_false h,mget]
   by_cases hx:x=k0
   ·subst hx
    simp [Ne.symm h]
   ·simp only [decide_eq_false hx]
    exact mget_mset es k x d
theorem mset_len:∀(es:MS) (k:MKey) (d:Dat),(mset es k d).length=es.length+if (mget es k).isSome then 0 else 1
 | [],k,d=>rfl
 | (k0,v)::es,k,d=>by
  simp only [mset,mget]
  by_cases h:k=k0
  ·subst h;simp
  ·simp only [decide_eq_false h,List.length_cons,mset_len es k d];omega
def thStep (es:MS) (d:Dec):MS:=if (mget es (.s d.name)).isSome then es else mset es (.s d.name) (I d.kind)
def thE (ds:List Dec):MS:=ds.foldl thStep []
theorem thE_snoc (ds:List Dec) (d:Dec):thE (ds++[d])=thStep (thE ds) d:=by rw [thE,List.foldl_append];rfl
theorem thStep_get (es:MS) (d:Dec) (s:Str):mget (thStep es d) (.s s)=(mget es (.s s)).or (if d.name=s then some (I d.kind) else none):=by
 unfold thStep
 split
 ·rename_i h
  by_cases he:d.name=s
  ·subst he
   cases hm:mget es (.s d.name) with
   | none=>rw [hm] at h;cases h
   | some v=>rfl
  ·rw [if_neg he];simp
 ·rename_i h
  rw [mget_mset]
  by_cases he:d.name=s
  ·subst he
   simp only [if_true]
   cases hm:mget es (.s d.name) with
   | none=>rfl
   | some v=>rw [hm] at h;simp at h
  ·rw [if_neg he,if_neg (by simp;exact fun e=>he e.symm)];simp
theorem thFold_get:∀(ds:List Dec) (es:MS) (s:Str),mget (ds.foldl thStep es) (.s s)=(mget es (.s s)).or ((ds.find? fun d=>decide (d.name=s)).map fun d=>I d.kind)
 | [],es,s=>by simp
 | d::ds,es,s=>by
  rw [List.foldl_cons,thFold_get ds,thStep_get,List.find?_cons]
  by_cases h:d.name=s
  ·simp [h]
  ·simp [h]
theorem th_get (p:Pg) (s:Str):mget (thE p.decls) (.s s)=(thingP p s).map I:=by
 rw [thE,thFold_get,thingP]
 cases p.decls.find? fun d=>decide (d.name=s)<;>rfl
theorem thStep_len (es:MS) (d:Dec):(thStep es d).length=es.length+if (mget es (.s d.name)).isSome then 0 else 1:=by
 unfold thStep
 split
 ·simp
 ·rename_i h
  rw [mset_len];simp [h]
theorem thFold_len:∀(ds:List Dec) (es:MS),(ds.foldl thStep es).length≤es.length+ds.length∧((ds.foldl thStep es).length=es.length+ds.length↔(ds.map (·.name)).Nodup∧∀d∈ds,mget es (.s d.name)=none)
 | [],es=>by simp
 | d::ds,es=>by
  obtain ⟨h1,h2⟩:=thFold_len ds (thStep es d)
  rw [List.foldl_cons]
  rw [thStep_len] at h1 h2
  cases hm:mget es (.s d.name) with
  | some v=>
   rw [hm] at h1 h2
   simp only [Option.isSome_some,if_true,Nat.add_zero] at h1 h2
   refine ⟨by simp;omega,⟨fun h=>by simp at h;omega,fun h=>?_⟩⟩
   have:=h.2 d (by simp)
   rw [hm] at this;cases this
  | none=>
   rw [hm] at h1 h2
   simp only [Option.isSome_none,Bool.false_eq_true,if_false] at h1 h2
   refine ⟨by simp;omega,?_⟩
   have e:(ds.foldl thStep (thStep es d)).length=es.length+(d::ds).length↔(ds.foldl thStep (thStep es d)).length=es.length+1+ds.length:=by simp;omega
   rw [e,h2,List.map_cons,List.nodup_cons]
   have hg:∀s,mget (thStep es d) (.s s)=(mget es (.s s)).or (if d.name=s then some (I d.kind) else none):=thStep_get es d
   constructor
   ·rintro ⟨g1,g2⟩
    refine ⟨⟨fun hmem=>?_,g1⟩,fun x hx=>?_⟩
    ·obtain ⟨x,hx,he⟩:=List.mem_map.1 hmem
     have:=g2 x hx
     rw [hg,he,if_pos rfl,hm] at this;cases this
    ·rcases List.mem_cons.1 hx with rfl|hx
     ·exact hm
     ·have:=g2 x hx
      rw [hg] at this
      cases hmx:mget es (.s x.name) with
      | none=>rfl
      | some v=>rw [hmx] at this;cases this
   ·rintro ⟨⟨g0,g1⟩,g2⟩
    refine ⟨g1,fun x hx=>?_⟩
    rw [hg,g2 x (by simp [hx]),if_neg (fun e=>g0 (List.mem_map.2 ⟨x,hx,e.symm⟩))];rfl
set_option maxRecDepth 4000 in
set_option maxHeartbeats 4000000 in
theorem s_check_things (p:Pg) (hp:p.decls.length<100000):SatE P0 n_check_things [.agg [.d (.slice 3 (p.decls.map decL) false),.d (.slice 3 (p.funs.map fuL) false),.d (.slice 5 (p.nodes.map ndL) false)]] [] (.hnd 0) [.map none (thE p.decls)]:=by
 have hdl:(p.decls.map decL).length=p.decls.length:=by simp
 obtain ⟨E,hE⟩:∃E:Nat→MS,∀j,E j=thE (p.decls.take j):=⟨_,fun _=>rfl⟩
 have e0:([]:MS)=E 0:=by rw [hE];rfl
 have e1:thE p.decls=E p.decls.length:=by rw [hE,List.take_length]
 have hel:∀(j:Nat) (h:j<p.decls.length),(p.decls.map decL)[(j:Int).toNat]? = some (decL p.decls[j]):=by intro j h;simp [h]
 have hst:∀(j:Nat) (h:j<p.decls.length),((∃v,mget (E j) (.s p.decls[j].name)=some (I v))∧E j=E (j+1))∨(mget (E j) (.s p.decls[j].name)=none∧mset (E j) (.s p.decls[j].name) (I p.decls[j].kind)=E (j+1)):=by
  intro j h
  have e:E (j+1)=thStep (E j) p.decls[j]:=by rw [hE,hE,List.take_succ_eq_append_getElem h,thE_snoc]
  rw [e]
  unfold thStep
  cases hm:mget (E j) (.s p.decls[j].name) with
  | some v=>
   have:=th_get { p with decls:=p.decls.take j } p.decls[j].name
   rw [← hE] at this
   rw [hm] at this
   cases ht:thingP { p with decls:=p.decls.take j } p.decls[j].name with
   | none=>rw [ht] at this;cases this
   | some k=>rw [ht] at this;injection this with this;subst this;exact .inl ⟨⟨k,rfl⟩,by simp⟩
  | none=>exact .inr ⟨rfl,by simp⟩
 rw [e1]
 clear hE e1
 refine SatE_by is_check_things rfl ?_
 repeat refine aw ?_
 refine WT_for p.decls.length (fun j:Nat=>⟨[(12,.d (I j)),(11,.d (I ((p.decls.map decL).length:Nat))),(10,.d (.slice 3 (p.decls.map decL) false)),(3,.hnd 1)],[(1,.map none (E j))],2,[],0⟩) (fun _=>True) (by rw [← e0];exact Uw.wM) (fun _=>?_) (fun j hj _=>?_)
 ·repeat refine aw ?_
  refine WT_break ?_
  repeat refine aw ?_
  exact WT_eret 0 rfl rfl (Weak.eqs [(0,1)] rfl rfl rfl rfl rfl rfl rfl rfl rfl rfl)
 have he:=hel j hj
 have hs:=hst j hj
 clear hel hst
 generalize p.decls[j]=d at *
 obtain ⟨dk,ds,dn⟩:=d
 have he:(p.decls.map decL)[(j:Int).toNat]? = some [I dk,.str ds,I dn]:=he
 simp only at hs
 rcases hs with ⟨⟨v,hv⟩,h2⟩|⟨hv,h2⟩
 ·repeat (first|refine aw ?_|refine m1 ?_)
  exact WT_next j trivial (by exact Uw.wM)
 ·repeat (first|refine aw ?_|refine m1 ?_)
  exact WT_next j trivial (by exact Uw.wM)
end Uw.Tryz
namespace Go.Proofs
open Go.RowKit Go.Shelf
attribute [local go_sem] Oper.semAt_some
set_option maxRecDepth 100000 in
set_option maxHeartbeats 2000000 in
theorem Tryz.backward_in (l Bs b off len cap:Nat) (C:Nat→Value) (hreach:len<1000000) (J:Nat→World→Prop)
  (hY:∀k W1,J k W1→k<len→YieldAt Fence.wide 0 Tryz.prog l #[.int .i64 ((len - 1 - k:Nat):Int),.agg #[C ((len - 1 - k) * 5),C ((len - 1 - k) * 5+1),C ((len - 1 - k) * 5+2),C ((len - 1 - k) * 5+3),C ((len - 1 - k) * 5+4)]] W1 fun e W'=>e = .returned (.bool true)∧J (k+1) W')
  (hOK:∀k W1,J k W1→W1.cell? ⟨Bs,0,none⟩=some (.slice (some ⟨b,off,none⟩) len cap)∧∀m,m<len * 5→W1.cell? ⟨b,off+m,none⟩=some (C m))
  (W:World) (h0:J 0 W) :
  CallsIn Fence.wide 0 Tryz.prog 80 #[.func (.yield l) #[] #[],.pointer (some ⟨Bs,0,none⟩)] W fun e W'=>(∃v,e = .returned v)∧J len W':=by
 refine callsIn_of_wp Tryz.func80 rfl trivial ?_ rfl
 simp only [Tryz.ntmps80,List.size_toArray,List.length_cons,List.length_nil,Nat.reduceAdd,Nat.reduceSub,Array.replicate_succ,Array.replicate_zero,List.push_toArray,List.append_toArray,List.nil_append,List.cons_append]
 have hB:=(hOK 0 W h0).1
 gi_wp2
 gi_loopw [3] (fun i wr=>∃k:Nat,k≤len∧i = .int .i64 ((len:Int) - 1 - k)∧J k wr) (fun i _=>(intOf i+1).toNat)
 case atStart=>exact ⟨0,Nat.zero_le _,by simp,h0⟩
 case round=>
  obtain ⟨k,hk,rfl,hJs⟩:=hrel
  obtain ⟨hB2,hC⟩:=hOK k wr hJs
  by_cases hlt:k<len
  ·obtain ⟨fn,tmps,assign,body,hy,hR⟩:=hY k wr hJs hlt
   have he:((len - 1 - k:Nat):Int)=(len:Int) - 1 - k:=by omega
   rw [he] at hy
   have c0:wr.cell? ⟨b,off+(len - 1 - k) * 5,none⟩=some (C ((len - 1 - k) * 5)):=hC _ (by omega)
   have c1:wr.cell? ⟨b,off+(len - 1 - k) * 5+1,none⟩=some (C ((len - 1 - k) * 5+1)):=by have:=hC ((len - 1 - k) * 5+1) (by omega);rwa [← Nat.add_assoc] at this
   have c2:wr.cell? ⟨b,off+(len - 1 - k) * 5+2,none⟩=some (C ((len - 1 - k) * 5+2)):=by have:=hC ((len - 1 - k) * 5+2) (by omega);rwa [← Nat.add_assoc] at this
   have c3:wr.cell? ⟨b,off+(len - 1 - k) * 5+3,none⟩=some (C ((len - 1 - k) * 5+3)):=by have:=hC ((len - 1 - k) * 5+3) (by omega);rwa [← Nat.add_assoc] at this
   have c4:wr.cell? ⟨b,off+(len - 1 - k) * 5+4,none⟩=some (C ((len - 1 - k) * 5+4)):=by have:=hC ((len - 1 - k) * 5+4) (by omega);rwa [← Nat.add_assoc] at this
   gi_wp2
   refine ⟨rfl,hR.mono ?_⟩
   rintro e W3 ⟨rfl,hJ3⟩
   gi_wp2
   go_roundw
   case rel=>exact ⟨k+1,by omega,by simp;omega,hJ3⟩
   case measure=>simp [intOf];omega
  ·obtain rfl:k=len:=by omega
   gi_wp2
   go_end0
   exact ⟨⟨_,rfl⟩,hJs⟩
set_option maxRecDepth 100000 in
set_option maxHeartbeats 2000000 in
theorem Tryz.backward0_in (l Bs:Nat) (x:Option Addr) (J:Nat→World→Prop) (hOK:∀k W1,J k W1→W1.cell? ⟨Bs,0,none⟩=some (.slice x 0 0)) (W:World) (h0:J 0 W) :
  CallsIn Fence.wide 0 Tryz.prog 80 #[.func (.yield l) #[] #[],.pointer (some ⟨Bs,0,none⟩)] W fun e W'=>(∃v,e = .returned v)∧J 0 W':=by
 refine callsIn_of_wp Tryz.func80 rfl trivial ?_ rfl
 simp only [Tryz.ntmps80,List.size_toArray,List.length_cons,List.length_nil,Nat.reduceAdd,Nat.reduceSub,Array.replicate_succ,Array.replicate_zero,List.push_toArray,List.append_toArray,List.nil_append,List.cons_append]
 have hB:=hOK 0 W h0
 gi_wp2
 gi_loopw [3] (fun i wr=>i = .int .i64 (-1)∧J 0 wr) (fun i _=>0)
 case atStart=>exact ⟨rfl,h0⟩
 case round=>
  obtain ⟨rfl,hJs⟩:=hrel
  gi_wp2
  go_end0
  exact ⟨⟨_,rfl⟩,hJs⟩
end Go.Proofs
namespace Uw.Tryz
open Go Uw Go.RowKit
theorem RelE_get {w:World} {J:Nat→Nat→Prop} {b k:Nat}:∀{xs:List (List Dat)} {o:Nat},RelE w J b k o xs→∀(i:Nat) (h:i<xs.length),RelC w J b (o+i * k) xs[i]
 | x::xs,o,h,0,hi=>by simpa using h.2.1
 | x::xs,o,h,i+1,hi=>by
  have:=RelE_get h.2.2 i (by simpa using hi)
  rw [show o+(i+1) * k=o+k+i * k by rw [Nat.add_mul];omega]
  exact this
structure NodesAt (ns:List Nd) (b off:Nat) (C:Nat→Value) (c:Cx):Prop where
 rel:∀(i:Nat) (h:i<ns.length),RelC c.w (Imm c) b (off+i * 5) (ndL ns[i])
 cell:∀m,m<ns.length * 5→c.w.cell? ⟨b,off+m,none⟩=some (C m)
 imm:∀m,m<ns.length * 5→Imm c b (off+m)
theorem NodesAt.of [Glob] {ns:List Nd} {b off:Nat} {c:Cx} (h:∀(i:Nat) (h:i<ns.length),RelC c.w (Imm c) b (off+i * 5) (ndL ns[i])):NodesAt ns b off (fun m=>(c.w.cell? ⟨b,off+m,none⟩).getD undef) c:=by
 have key:∀m,m<ns.length * 5→(∃v,c.w.cell? ⟨b,off+m,none⟩=some v)∧Imm c b (off+m):=by
  intro m hm
  have hi:m / 5<ns.length:=by omega
  obtain ⟨⟨v0,a0,i0,_⟩,⟨v1,a1,i1,_⟩,⟨v2,a2,i2,_⟩,⟨v3,a3,i3,_⟩,⟨v4,a4,i4,_⟩,_⟩:=h (m / 5) hi
  have hm5:m % 5=0∨m % 5=1∨m % 5=2∨m % 5=3∨m % 5=4:=by omega
  rcases hm5 with e|e|e|e|e
  ·rw [show off+m=off+m / 5 * 5 by omega];exact ⟨⟨v0,a0⟩,i0⟩
  ·rw [show off+m=off+m / 5 * 5+1 by omega];exact ⟨⟨v1,a1⟩,i1⟩
  ·rw [show off+m=off+m / 5 * 5+1+1 by omega];exact ⟨⟨v2,a2⟩,i2⟩
  ·rw [show off+m=off+m / 5 * 5+1+1+1 by omega];exact ⟨⟨v3,a3⟩,i3⟩
  ·rw [show off+m=off+m / 5 * 5+1+1+1+1 by omega];exact ⟨⟨v4,a4⟩,i4⟩
 refine ⟨h,fun m hm=>?_,fun m hm=>(key m hm).2⟩
 obtain ⟨v,hv⟩:=(key m hm).1
 rw [hv];rfl
theorem NodesAt.agg [Glob] {ns:List Nd} {b off:Nat} {C:Nat→Value} {c:Cx} (h:NodesAt ns b off C c) (i:Nat) (hi:i<ns.length):RelI c.w (Imm c) (.agg (ndL ns[i])) (.agg #[C (i * 5),C (i * 5+1),C (i * 5+2),C (i * 5+3),C (i * 5+4)]):=by
 obtain ⟨⟨v0,a0,_,_,r0⟩,⟨v1,a1,_,_,r1⟩,⟨v2,a2,_,_,r2⟩,⟨v3,a3,_,_,r3⟩,⟨v4,a4,_,_,r4⟩,_⟩:=h.rel i hi
 have e:∀(m:Nat) (v:Value),m<5→c.w.cell? ⟨b,off+i * 5+m,none⟩=some v→v=C (i * 5+m):=by
  intro m v hm hv
  have:=h.cell (i * 5+m) (by omega)
  rw [← Nat.add_assoc,hv] at this
  injection this
 obtain rfl:=e 0 v0 (by omega) a0
 obtain rfl:=e 1 v1 (by omega) a1
 obtain rfl:=e 2 v2 (by omega) a2
 obtain rfl:=e 3 v3 (by omega) a3
 obtain rfl:=e 4 v4 (by omega) a4
 exact ⟨_,rfl,_,_,rfl,r0,_,_,rfl,r1,_,_,rfl,r2,_,_,rfl,r3,_,_,rfl,r4,rfl⟩
def nodesFr (ns:List Nd) (b off:Nat) (C:Nat→Value):Fr where
 K:=0
 p:=NodesAt ns b off C
 ok:=fun c c' he h=>⟨fun i hi=>RelC.keep he.keeps _ _ _ (h.rel i hi),fun m hm=>((he.keeps b _ (h.imm m hm)).2).trans (h.cell m hm),fun m hm=>(he.keeps b _ (h.imm m hm)).1⟩
end Uw.Tryz
