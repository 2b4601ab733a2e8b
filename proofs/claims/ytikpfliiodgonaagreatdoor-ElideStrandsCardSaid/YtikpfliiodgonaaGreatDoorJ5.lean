/- J5: Va Vc (merged by merge2.py from the working texts). -/
import Derived.Test.YtikpfliiodgonaaGreatDoorJ3
import Derived.Test.YtikpfliiodgonaaGreatDoorJ4
import Derived.Test.YtikpfliiodgonaaGreatDoorProg
import Derived.KernelRfl
set_option linter.unusedSimpArgs false
set_option linter.unnecessarySimpa false
set_option linter.unusedVariables false
set_option linter.unusedSectionVars false
set_option maxRecDepth 100000
namespace Uw.Tryz
open Go Uw
abbrev SBs:List Nat:=[76,118,119,169,117,164,165,166,167,168,170,186,187,204,205,206,214,215,216,217,218,223,224,228,229,121,124,125,126,127,128,189,191,193,192,207,172,78,79,131,195,208,196,199,130,175,176,177,173,50,83,53,54,89,55,135,136,137,138,139,140,141,143,144,145,22,25,26,27,28,29,30,31,32,35,57,23,62]
abbrev uy:FuncId:=162
abbrev uz:FuncId:=163
abbrev CL:FuncId:=183
abbrev kS:FuncId:=4
abbrev zE:FuncId:=6
abbrev oo (d:Nat) (x:MOp):MI:=⟨none,some d,x⟩
abbrev on (x:MOp):MI:=⟨none,none,x⟩
abbrev oh (g:Nat) (b:Bool) (d:Nat) (x:MOp):MI:=⟨some (g,b),some d,x⟩
abbrev og (g:Nat) (b:Bool) (d:Option Nat) (x:MOp):MI:=⟨some (g,b),d,x⟩
abbrev so (l:List MI) (c:bR):bR:=.seq (.ops l) c
abbrev ci (n:Int):Opd:=.c (.int .i64 n)
instance ZM (n:Nat):OfNat Opd n:=⟨.t n⟩
abbrev cb (d:Nat) (x:Opd):MI:=oo d (.mov x)
abbrev cf (d:Nat) (x:Opd):MI:=oo d (.load false 1 x)
abbrev i5 (d k:Nat) (x:Opd):MI:=oo d (.fld k x)
abbrev i9 (d:Nat) (x:Opd) (n:Int):MI:=oo d (.bin .eql x (ci n))
abbrev wt (d:Nat) (n:Int):MI:=oo d (.mov (ci n))
abbrev AN (d:Nat) (b:Bool):MI:=oo d (.mov (.c (.bool b)))
abbrev Js (d:Nat) (x:Opd):MI:=oo d (.len false x)
abbrev ON (d:Nat) (x:Opd) (n:Int):MI:=oo d (.bin .add x (ci n))
abbrev Pe (d:Nat) (x y:Opd):MI:=oo d (.pick x (.c (.bool true)) y)
abbrev aa6 (d:Nat) (x y:Opd):MI:=oo d (.pick x y (.c (.bool false)))
abbrev aa7 (d k:Nat) (x:Opd):MI:=oo d (.load true k x)
abbrev aa8 (d k:Nat) (x y:Opd):MI:=oo d (.idx k x y)
abbrev aa9 (k:Nat) (x y:Opd):MI:=on (.store k x y)
abbrev abb (d:Nat) (x y:Opd):MI:=oo d (.bin .lss x y)
abbrev abd (g:Nat) (b:Bool) (d:Nat) (x:Opd):MI:=oh g b d (.load false 1 x)
abbrev abe (g:Nat) (b:Bool) (d k:Nat) (x:Opd):MI:=oh g b d (.fld k x)
abbrev abf (g:Nat) (b:Bool) (d:Nat) (x:Opd):MI:=oh g b d (.mov x)
abbrev abg (g:Nat) (b:Bool) (d:Nat) (x:Opd) (n:Int):MI:=oh g b d (.bin .eql x (ci n))
abbrev abh (d f:Nat) (l:List Opd):MI:=oo d (.call f l)
abbrev abj (d f:Nat) (l:List Opd):MI:=oo d (.sub f l)
abbrev abk (d:Nat) (x:Opd) (i:Nat):MI:=oo d (.ext x i)
abbrev abl (d:Nat) (x:Opd):MI:=oo d (.box x)
abbrev abm:Dat:=.int .i64 0
abbrev abn:Dat:=.str []
abbrev abo:Opd:=.c (.bool true)
abbrev abp:Opd:=.c (.bool false)
def Iy:aP:=⟨35,⟨false,SBs⟩,[(.tmp 2)],
 (so [abl 1 0,AN 2 false] (so [wt 3 0] (.seq (so [wt 4 0] (.block 0 (.loop (.seq (so [cb 5 4,i5 6 0 1,cf 7 6,Js 8 7,abb 9 5 8] (.cond 9 .skip (.exit 0))) (.seq (.block 1 (.ops [cb 12 3,i5 13 0 1,cf 14 13,cb 15 4,aa8 16 3 14 15,i5 17 2 16,cf 18 17,Js 19 18,oo 20 (.bin .add 12 19),cb 3 20])) (.ops [cb 10 4,ON 11 10 1,cb 4 11])))))) (so [i5 21 0 1,cf 22 21,Js 23 22,oo 24 (.bin .leq 23 (ci 40)),cb 25 24,abf 25 true 26 3,oh 25 true 27 (.bin .leq 26 (ci 1200)),aa6 28 25 27,cb 29 28,abe 29 true 30 1 1,abd 29 true 31 30,oh 29 true 32 (.len false 31),oh 29 true 33 (.bin .leq 32 (ci 40)),aa6 34 29 33,cb 2 34] .ret))))⟩
theorem GN:az Go.Proofs.Tryz.prog zE Iy:=ag (by kernel_rfl)
abbrev kH:FuncId:=8
def u5:aP:=⟨131,⟨false,SBs⟩,[(.tmp 0)],
 (so [AN 0 false] (so [oo 7 (.call 20 [(.c (.str [99,101,108,108,32,120,59,32,102,117,110,99,32,102,40,97,41,32,123,32,120,32,61,32,120,32,43,32,97,59,32,114,101,116,117,114,110,32,53,59,32,125,32,102,117,110,99,32,109,97,105,110,40,41,32,123,32,120,32,61,32,49,59,32,97,32,61,32,115,112,97,119,110,32,102,40,50,41,59,32,114,101,116,117,114,110,32,97,32,43,32,120,59,32,125]))]),cb 6 7,abk 8 6 0,abk 9 6 1,abk 10 6 2,oo 1 (.alloc [.nil,.nil,.nil]),oo 2 (.alloc [.nil,.nil,abm,abm,abm,abm]),aa9 3 1 8,aa9 6 2 9,cb 3 10] (so [aa7 11 6 2,abh 12 9 [11],oo 4 (.alloc [abm,abm,.nil,.nil,.nil,.nil,.nil,.nil,abm,abm,.nil]),aa9 11 4 12] (.seq (so [cb 13 3,oo 14 (.not 13),cb 15 14,abe 15 false 16 0 4,abd 15 false 17 16,oh 15 false 18 (.bin .neq 17 (ci 0)),Pe 19 15 18,cb 20 19,abe 20 false 21 6 4,abd 20 false 22 21,oh 20 false 23 (.len false 22),oh 20 false 24 (.bin .neq 23 (ci 4)),Pe 25 20 24,cb 26 25,abe 26 false 27 7 4,abd 26 false 28 27,oh 26 false 29 (.len false 28),oh 26 false 30 (.bin .neq 29 (ci 3)),Pe 31 26 30,cb 32 31,abe 32 false 33 2 4,abd 32 false 34 33,oh 32 false 35 (.len false 34),oh 32 false 36 (.bin .neq 35 (ci 1)),Pe 37 32 36] (.cond 37 (so [AN 0 false] .ret) .skip)) (so [i5 38 6 4,cf 39 38,oo 40 (.idx 10 39 (ci 3)),aa7 41 10 40,oo 5 (.alloc [abm,.nil,abm,abm,abm,abm,abm,abm,abm,(.bool false)]),aa9 10 5 41] (so [i5 42 1 4,cf 43 42,i9 44 43 8,cb 45 44,abe 45 true 46 2 4,abd 45 true 47 46,oh 45 true 48 (.idx 1 47 (ci 0)),abd 45 true 49 48,abg 45 true 50 49 3,aa6 51 45 50,cb 52 51,abe 52 true 53 9 4,abd 52 true 54 53,abg 52 true 55 54 2,aa6 56 52 55,cb 57 56,abe 57 true 58 10 4,abd 57 true 59 58,oh 57 true 60 (.len false 59),abg 57 true 61 60 0,aa6 62 57 61,cb 63 62,abe 63 true 64 0 5,abd 63 true 65 64,abg 63 true 66 65 3,aa6 67 63 66,cb 68 67,abe 68 true 69 8 5,abd 68 true 70 69,abg 68 true 71 70 3,aa6 72 68 71,cb 73 72,abe 73 true 74 6 4,abd 73 true 75 74,oh 73 true 76 (.idx 10 75 (ci 1)),abe 73 true 77 0 76,abd 73 true 78 77,abg 73 true 79 78 1,aa6 80 73 79,cb 81 80,abe 81 true 82 6 4,abd 81 true 83 82,oh 81 true 84 (.idx 10 83 (ci 1)),abe 81 true 85 1 84,abd 81 true 86 85,oh 81 true 87 (.len false 86),abg 81 true 88 87 1,aa6 89 81 88,cb 90 89,abe 90 true 91 7 4,abd 90 true 92 91,oh 90 true 93 (.idx 5 92 (ci 0)),oh 90 true 94 (.load true 5 93),oh 90 true 95 (.build [abm,abm,abm,abm,abm] [(0,(1,(ci 1))),(2,(1,(ci 1))),(3,(1,(ci 2))),(4,(1,(ci 3)))]),oh 90 true 96 (.eqs false [1,1,1,1,1] 94 95),aa6 97 90 96,cb 98 97,abe 98 true 99 7 4,abd 98 true 100 99,oh 98 true 101 (.idx 5 100 (ci 1)),oh 98 true 102 (.load true 5 101),oh 98 true 103 (.build [abm,abm,abm,abm,abm] [(0,(1,(ci 2))),(1,(1,(ci 1))),(4,(1,(ci 3)))]),oh 98 true 104 (.eqs false [1,1,1,1,1] 102 103),aa6 105 98 104,cb 106 105,abe 106 true 107 7 4,abd 106 true 108 107,oh 106 true 109 (.idx 5 108 (ci 2)),oh 106 true 110 (.load true 5 109),oh 106 true 111 (.build [abm,abm,abm,abm,abm] [(0,(1,(ci 3))),(1,(1,(ci 2))),(4,(1,(ci 3)))]),oh 106 true 112 (.eqs false [1,1,1,1,1] 110 111),aa6 113 106 112,cb 114 113,oh 114 true 115 (.build [.nil,.nil,abm,abm,abm,abm] []),oh 114 true 116 (.call 9 [115]),oh 114 true 117 (.yC false 1 0 116),abg 114 true 118 117 1,aa6 119 114 118,cb 120 119,oh 120 true 121 (.bf 1 1 [abm] [(0,(ci 1))]),oh 120 true 122 (.bf 1 2 [abm] [(0,(ci 1)),(1,(ci 0))]),oh 120 true 123 (.call 16 [121,122]),aa6 124 120 123,cb 125 124,oh 125 true 126 (.bf 1 1 [abm] [(0,(ci 2))]),oh 125 true 127 (.bf 1 2 [abm] [(0,(ci 1)),(1,(ci 0))]),oh 125 true 128 (.call 16 [126,127]),oh 125 true 129 (.not 128),aa6 130 125 129,cb 0 130] .ret))))))⟩
theorem CM:az Go.Proofs.Tryz.prog kH u5:=ag (by kernel_rfl)
abbrev dN:FuncId:=9
def Iz:aP:=⟨32,⟨true,SBs⟩,[(.cell 2 true 11)],
 (so [abl 1 0,oo 2 (.alloc [abm,abm,.nil,.nil,.nil,.nil,.nil,.nil,abm,abm,.nil])] (.seq (so [aa7 7 6 1,abh 8 21 [7],oo 9 (.not 8)] (.cond 9 (so [oo 10 (.build [abm,abm,.nil,.nil,.nil,.nil,.nil,.nil,abm,abm,.nil] [(0,(1,(ci 1)))]),aa9 11 2 10] .ret) .skip)) (so [aa7 11 6 1,abj 12 22 [11],oo 3 (.alloc [.nilPtr]),aa9 1 3 12] (so [oo 4 (.alloc [.nilFunc])] (so [oo 13 (.kl 23 [] [3,1,4]),aa9 1 4 13] (so [aa7 15 6 1,i5 16 5 1,cf 17 16,oo 18 (.call 34 [15,17,(.c .nil),(ci 1),(.c .nil)]),cb 14 18,abk 19 14 0,abk 20 14 1,oo 5 (.alloc [abm,.nil,abm,abm,.nil,.nil,.nil,abm,abm,(.bool false)]),aa9 10 5 19,cb 6 20] (.seq (so [cb 21 6,i9 22 21 0] (.cond 22 (.ops [cf 23 4,aa7 24 10 5,oo 25 (.fF 23 [24,(ci 0),(ci 0)]),cb 6 25]) .skip)) (.seq (so [cb 26 6,oo 27 (.bin .neq 26 (ci 0))] (.cond 27 (so [cb 28 6,oo 29 (.build [abm,abm,.nil,.nil,.nil,.nil,.nil,.nil,abm,abm,.nil] [(0,(1,28))]),aa9 11 2 29] .ret) .skip)) (so [cf 30 3,abj 31 35 [30],aa9 11 2 31] .ret)))))))))⟩
theorem mU:az Go.Proofs.Tryz.prog dN Iz:=ag (by kernel_rfl)
abbrev nD:FuncId:=10
def K3:aP:=⟨5,⟨false,SBs⟩,[(.cell 2 true 3)],
 (so [oo 2 (.alloc [abm,.nil,.nil])] (so [cb 3 0,oo 4 (.build [abm,.nil,.nil] [(0,(1,3))]),aa9 3 2 4] .ret))⟩
theorem IA:az Go.Proofs.Tryz.prog nD K3:=ag (by kernel_rfl)
abbrev kt:FuncId:=11
def OM:aP:=⟨29,⟨false,SBs⟩,[(.cell 4 true 3),(.tmp 5),(.tmp 6)],
 (so [abl 2 0,abl 3 1,oo 4 (.alloc [abm,.nil,.nil]),wt 5 0,AN 6 false] (.seq (so [aa7 7 3 2,abh 8 36 [7],oo 9 (.not 8),cb 10 9,abe 10 false 11 0 3,abd 10 false 12 11,oh 10 false 13 (.call 37 [12]),abe 10 false 14 0 2,abd 10 false 15 14,oh 10 false 16 (.bin .neq 13 15),Pe 17 10 16] (.cond 17 (so [aa7 18 3 2,aa9 3 4 18,wt 5 0,AN 6 false] .ret) .skip)) (.seq (.draw 2 [⟨abh 19 38 [],[],false⟩,⟨i5 20 0 3,[],false⟩,⟨cf 21 20,[1],false⟩,⟨oo 22 (.BE false 8 1 19 21),[0,2],false⟩,⟨aa7 23 3 2,[],false⟩,⟨aa7 24 4 3,[],false⟩,⟨oo 25 (.fF 22 [23,24]),[3,4,5,0],true⟩,⟨abk 26 25 0,[6],false⟩,⟨abk 27 25 1,[6],false⟩,⟨abk 28 25 2,[6],false⟩,⟨aa9 3 4 26,[7,6,0,1,2,3,4,5,6,7,8,9],true⟩,⟨cb 5 27,[8,10,0,1,2,3,4,5,6,7,8,9,10],false⟩,⟨cb 6 28,[9,11,0,1,2,3,4,5,6,7,8,9,10,11],false⟩]) .ret)))⟩
theorem dE:az Go.Proofs.Tryz.prog kt OM:=ag (by kernel_rfl)
abbrev jy:FuncId:=14
def ri:aP:=⟨28,⟨false,SBs⟩,[(.tmp 7)],
 (so [AN 7 false] (.seq (so [cb 8 0,oo 9 (.bin .lss 8 (ci 0)),cb 10 9,abf 10 false 11 0,abd 10 false 12 3,oh 10 false 13 (.len false 12),oh 10 false 14 (.bin .geq 11 13),Pe 15 10 14,cb 16 15,abd 16 false 17 3,abf 16 false 18 0,oh 16 false 19 (.idx 1 17 18),abd 16 false 20 19,abf 16 false 21 1,oh 16 false 22 (.bin .neq 20 21),Pe 23 16 22] (.cond 23 (so [AN 7 false] .ret) .skip)) (so [cf 24 3,cb 25 0,cb 26 2,aa8 27 1 24 25,aa9 1 27 26] (so [AN 7 true] .ret))))⟩
theorem qc:az Go.Proofs.Tryz.prog jy ri:=ag (by kernel_rfl)
abbrev gJ:FuncId:=16
def wQ:aP:=⟨38,⟨false,SBs⟩,[(.tmp 4)],
 (so [AN 4 false] (.seq (so [cb 6 0,Js 7 6,cb 8 1,Js 9 8,oo 10 (.mm false 7 9),wt 11 0] (.block 0 (.loop (so [abb 12 11 10] (.seq (.cond 12 .skip (.exit 0)) (.seq (.block 1 (so [cb 13 11,cb 5 13] (so [cb 14 0,cb 15 5,aa8 16 1 14 15,cf 17 16,cb 18 1,cb 19 5,aa8 20 1 18 19,cf 21 20,oo 22 (.bin .neq 17 21)] (.cond 22 (so [cb 23 0,cb 24 5,aa8 25 1 23 24,cf 26 25,cb 27 1,cb 28 5,aa8 29 1 27 28,cf 30 29,abb 31 26 30,cb 4 31] .ret) .skip)))) (.ops [ON 32 11 1,cb 11 32]))))))) (so [cb 33 0,Js 34 33,cb 35 1,Js 36 35,abb 37 34 36,cb 4 37] .ret)))⟩
theorem Em:az Go.Proofs.Tryz.prog gJ wQ:=ag (by kernel_rfl)
abbrev wR:FuncId:=20
def wS:aP:=⟨27,⟨false,SBs⟩,[(.cell 2 true 3),(.cell 3 true 6),(.tmp 4)],
 (so [oo 2 (.alloc [.nil,.nil,.nil]),oo 3 (.alloc [.nil,.nil,abm,abm,abm,abm]),AN 4 false] (so [cb 10 0,abh 11 46 [10],cb 9 11,abk 12 9 0,abk 13 9 1,oo 5 (.alloc [.nil,.nil,.nil]),aa9 3 5 12,cb 6 13] (.seq (so [cb 14 6,oo 15 (.bin .neq 14 (ci 0))] (.cond 15 (so [aa7 16 3 5,oo 17 (.build [.nil,.nil,abm,abm,abm,abm] []),aa9 3 2 16,aa9 6 3 17,AN 4 false] .ret) .skip)) (so [aa7 19 3 5,abh 20 47 [19],cb 18 20,abk 21 18 0,abk 22 18 1,oo 7 (.alloc [.nil,.nil,abm,abm,abm,abm]),aa9 6 7 21,cb 8 22] (.seq (.draw 2 [⟨aa7 23 3 5,[],false⟩,⟨aa7 24 6 7,[],false⟩,⟨cb 25 8,[],false⟩,⟨i9 26 25 0,[2],false⟩,⟨aa9 3 2 23,[0,0],true⟩,⟨aa9 6 3 24,[1,4,0,1,4],true⟩,⟨cb 4 26,[3,5,0,1,2,3,4,5],false⟩]) .ret)))))⟩
theorem En:az Go.Proofs.Tryz.prog wR wS:=ag (by kernel_rfl)
abbrev dY:FuncId:=21
def rQ:aP:=⟨79,⟨false,SBs⟩,[(.tmp 2)],
 (so [abl 1 0,AN 2 false] (.seq (so [i5 8 0 1,cf 9 8,Js 10 9,oo 11 (.bin .lss 10 (ci 1)),cb 12 11,abe 12 false 13 0 1,abd 12 false 14 13,oh 12 false 15 (.len false 14),oh 12 false 16 (.bin .gtr 15 (ci 32)),Pe 17 12 16,cb 18 17,abe 18 false 19 5 1,abd 18 false 20 19,abe 18 false 21 0 1,abd 18 false 22 21,oh 18 false 23 (.len false 22),oh 18 false 24 (.call 48 [20,23]),oh 18 false 25 (.not 24),Pe 26 18 25] (.cond 26 (so [AN 2 false] .ret) .skip)) (.seq (so [i5 27 0 1,cf 28 27,i5 29 5 1,cf 30 29,aa8 31 3 28 30,i5 32 0 31,cf 33 32,oo 34 (.bin .neq 33 (ci 0)),cb 35 34,abe 35 false 36 1 1,abd 35 false 37 36,oh 35 false 38 (.len false 37),oh 35 false 39 (.bin .gtr 38 (ci 16)),Pe 40 35 39] (.cond 40 (so [AN 2 false] .ret) .skip)) (.seq (so [i5 41 1 1,cf 42 41,Js 43 42,wt 44 0] (.block 0 (.loop (so [abb 45 44 43] (.seq (.cond 45 .skip (.exit 0)) (.seq (.block 1 (so [aa8 46 1 42 44,cf 47 46,cb 4 47] (so [cb 48 4,oo 49 (.call 48 [48,(ci 4294967296)]),oo 50 (.not 49)] (.cond 50 (so [AN 2 false] .ret) .skip)))) (.ops [ON 51 44 1,cb 44 51]))))))) (.seq (so [i5 52 2 1,cf 53 52,i5 54 3 1,cf 55 54,i5 56 4 1,cf 57 56,oo 58 (.bf 1 3 [abm] [(0,53),(1,55),(2,57)]),Js 59 58,wt 60 0] (.block 2 (.loop (so [abb 61 60 59] (.seq (.cond 61 .skip (.exit 2)) (.seq (.block 3 (so [aa8 62 1 58 60,cf 63 62,cb 6 63] (so [cb 64 6,oo 65 (.call 48 [64,(ci 9)]),oo 66 (.not 65)] (.cond 66 (so [AN 2 false] .ret) .skip)))) (.ops [ON 67 60 1,cb 60 67]))))))) (.seq (so [i5 68 0 1,cf 69 68,Js 70 69,wt 71 0] (.block 4 (.loop (so [abb 72 71 70] (.seq (.cond 72 .skip (.exit 4)) (.seq (.block 5 (so [cb 73 71,cb 7 73] (so [aa7 74 6 1,cb 75 7,abh 76 49 [74,75],oo 77 (.not 76)] (.cond 77 (so [AN 2 false] .ret) .skip)))) (.ops [ON 78 71 1,cb 71 78]))))))) (so [AN 2 true] .ret)))))))⟩
theorem dF:az Go.Proofs.Tryz.prog dY rQ:=ag (by kernel_rfl)
abbrev u6:FuncId:=22
def Eo:aP:=⟨46,⟨true,SBs⟩,[(.tmp 2)],
 (so [abl 1 0,oo 2 (.mov (.c .nilPtr))] (.seq (.draw 2 [⟨aa7 7 6 1,[],false⟩,⟨i5 8 1 1,[],false⟩,⟨cf 9 8,[1],false⟩,⟨abj 10 50 [9],[2],true⟩,⟨oo 11 (.build [.nil,.nil,abm,abm,abm,abm,.nil,.nil,.nil,.nil,.nil,.nil,.nil,abm,.nil,abm,.nil] [(0,(6,7)),(6,(1,10)),(13,(1,(ci 1)))]),[0,3],false⟩,⟨abl 12 11,[4],true⟩,⟨cb 3 12,[5,3,0,1,2,3,4,5],false⟩]) (so [i5 13 2 1,cf 14 13,i5 15 3 1,cf 16 15,i5 17 4 1,cf 18 17,oo 19 (.build [abm,abm,abm,abm] [(1,(1,14)),(2,(1,16)),(3,(1,18))]),oo 4 (.alloc [abm,abm,abm,abm]),aa9 4 4 19] (.seq (so [aa7 20 4 4,wt 21 0] (.block 0 (.loop (so [oo 22 (.bin .lss 21 (ci 4))] (.seq (.cond 22 .skip (.exit 0)) (.seq (.block 1 (so [cb 23 21,oo 24 (.BE false 4 1 20 21),cb 5 23,cb 6 24] (so [cb 25 6,wt 26 0] (.block 2 (.loop (so [abb 27 26 25] (.seq (.cond 27 .skip (.exit 2)) (.seq (.block 3 (.draw 2 [⟨cb 28 3,[],false⟩,⟨cb 29 5,[],false⟩,⟨cb 30 3,[],false⟩,⟨cb 31 5,[],false⟩,⟨oo 32 (.aN 30),[2],false⟩,⟨i5 33 7 32,[4],false⟩,⟨oo 34 (.sx 4 1 33 31),[5,3],false⟩,⟨cf 35 34,[6],false⟩,⟨cb 36 5,[],false⟩,⟨abh 37 10 [36],[8],false⟩,⟨oo 38 (.bf 3 1 [abm,.nil,.nil] [(0,37)]),[9],false⟩,⟨oo 39 (.app true 3 56 35 38),[7,10,9],true⟩,⟨oo 40 (.aN 28),[0],false⟩,⟨i5 41 7 40,[12],false⟩,⟨oo 42 (.sx 4 1 41 29),[13,1,0,1,2,3,4,5,6,7,8,9,10,11],false⟩,⟨aa9 1 42 39,[14,11,11,0,1,2,3,4,5,6,7,8,9,10,11],true⟩])) (.ops [ON 43 26 1,cb 26 43]))))))))) (.ops [ON 44 21 1,cb 21 44]))))))) (so [cb 45 3,cb 2 45] .ret)))))⟩
theorem CN:az Go.Proofs.Tryz.prog u6 Eo:=ag (by kernel_rfl)
abbrev en:FuncId:=23
def u7:aP:=⟨128,⟨true,SBs⟩,[(.tmp 9)],
 (so [abl 6 0,wt 9 0] (.seq .skip (.seq (.draw 2 [⟨cf 15 3,[],false⟩,⟨cf 16 3,[],false⟩,⟨oo 17 (.aN 16),[1],false⟩,⟨i5 18 14 17,[2],false⟩,⟨cf 19 18,[3],false⟩,⟨oo 20 (.bf 1 1 [abm] [(0,(ci 0))]),[],false⟩,⟨oo 21 (.app true 1 8 19 20),[4,5],true⟩,⟨oo 22 (.aN 15),[0,0,1,2,3,4,5,6],false⟩,⟨i5 23 14 22,[7,0,1,2,3,4,5,6],false⟩,⟨aa9 1 23 21,[8,6,6,0,1,2,3,4,5,6],true⟩]) (so [wt 10 0] (.seq .skip (.seq (.block 0 (.loop (.block 1 (so [oo 11 (.alloc [abm,abm,abm,abm,abm,abm,abm,.nil])] (.seq (so [aa7 25 6 4,aa7 26 10 6,abh 27 24 [25,26],cb 24 27,abk 28 24 0,abk 29 24 1,abk 30 24 2,aa9 10 6 28,aa9 8 11 29,cb 9 30] (so [cb 31 9,oo 32 (.bin .neq 31 (ci 0))] (.cond 32 (.exit 0) .skip))) (so [oo 12 (.mov (.c .nil))] (.seq (so [i5 33 0 11,cf 34 33] (.block 2 (so [i9 36 34 1,cb 35 36] (.cond 35 (.ops [cf 37 3,aa7 38 10 6,cb 39 1,i5 40 1 11,cf 41 40,abj 42 25 [37,38,39,41],cb 12 42]) (so [i9 44 34 2,cb 43 44] (.cond 43 (.ops [cf 45 3,aa7 46 10 6,cb 47 1,i5 48 1 11,cf 49 48,i5 50 2 11,cf 51 50,abj 52 26 [45,46,47,49,51]]) (so [i9 54 34 3,cb 53 54] (.cond 53 (.ops [cf 56 3,aa7 57 10 6,cb 58 1,i5 59 3 11,aa7 60 4 59,abj 61 27 [56,57,58,60],cb 55 61,abk 62 55 0,abk 63 55 1,cb 12 62,cb 9 63]) (so [i9 65 34 4,cb 64 65] (.cond 64 (so [oo 13 (.alloc [abm,.nil,abm,abm,.nil,.nil,.nil,abm,abm,(.bool false)])] (.seq (so [cf 67 3,aa7 68 10 6,aa7 69 8 11,abj 70 28 [67,68,69],cb 66 70,abk 71 66 0,abk 72 66 1,aa9 10 13 71,cb 9 72] (so [cb 73 9,oo 74 (.bin .neq 73 (ci 0))] (.cond 74 (.exit 0) .skip))) (so [cf 75 3,cb 76 1,cb 77 10,i5 78 6 6,cf 79 78,Js 80 79,oo 81 (.bin .gtr 80 (ci 0)),abj 82 29 [75,76,77,81],oo 14 (.alloc [abm,abm,abm,abm,abm]),aa9 5 14 82] (so [i5 83 3 14,cf 84 83,i5 85 4 14,cf 86 85,cb 1 84,cb 10 86] (so [cf 87 5,aa7 88 10 13,i5 89 2 14,cf 90 89,i5 91 4 14,cf 92 91,oo 93 (.fF 87 [88,90,92]),cb 9 93] (.ops [i5 94 0 13,cf 95 94,oo 96 (.bf 1 1 [abm] [(0,95)]),cb 12 96])))))) (so [i9 98 34 5,cb 97 98] (.cond 97 (so [cf 99 3,aa7 100 10 6,abj 101 30 [99,100],cb 12 101] (.ops [cf 102 3,aa7 103 10 6,cb 104 1,cb 105 10,abj 106 31 [102,103,104,105],cb 1 106])) (so [i9 108 34 6,cb 107 108] (.cond 107 (so [cf 109 3,aa7 110 10 6,i5 111 1 11,cf 112 111,cb 113 1,cb 114 2,abj 115 32 [109,110,112,113,114]] (.exit 0)) .skip)))))))))))))) (.seq (so [cb 116 9,oo 117 (.bin .neq 116 (ci 0))] (.cond 117 (.exit 0) .skip)) (so [aa7 119 10 6,aa7 120 8 11,cb 121 12,abh 122 33 [119,120,121],cb 118 122,abk 123 118 0,abk 124 118 1,aa9 10 6 123,cb 9 124] (so [cb 125 9,oo 126 (.bin .neq 125 (ci 0))] (.cond 126 (.exit 0) .skip))))))))))) (so [cb 127 9,cb 9 127] .ret)))))))⟩
theorem CP:az Go.Proofs.Tryz.prog en u7:=ag (by kernel_rfl)
abbrev eH:FuncId:=24
def OO:aP:=⟨74,⟨true,SBs⟩,[(.cell 4 true 10),(.cell 5 true 8),(.cell 6 false 1)],
 (so [abl 2 0,abl 3 1,oo 4 (.alloc [abm,.nil,abm,abm,.nil,.nil,.nil,abm,abm,(.bool false)]),oo 5 (.alloc [abm,abm,abm,abm,abm,abm,abm,.nil]),oo 6 (.alloc [abm])] (.seq (so [aa7 10 6 2,aa7 11 10 3,abh 12 51 [10,11],oo 13 (.not 12)] (.cond 13 (so [aa7 14 10 3,oo 15 (.build [abm,abm,abm,abm,abm,abm,abm,.nil] []),aa9 10 4 14,aa9 8 5 15,on (.store 1 6 (ci 1))] .ret) .skip)) (so [oo 16 (.kl 52 [] [3,4,5,6]),on (.defer 16 [])] (.seq (.draw 3 [⟨aa7 17 6 2,[],false⟩,⟨i5 18 0 2,[],false⟩,⟨cf 19 18,[1],false⟩,⟨i5 20 2 3,[],false⟩,⟨cf 21 20,[3],false⟩,⟨aa8 22 3 19 21,[2,4],false⟩,⟨aa7 23 3 22,[5],false⟩,⟨aa7 24 10 3,[],false⟩,⟨abj 25 53 [24],[7],true⟩,⟨oo 26 (.build [.nil,.nil,abm,abm,abm,abm,abm,abm,.nil,abm,.nil,abm,abm,.nil,.nil,.nil,abm,abm,(.bool false),abm,abm,abm,abm,abm,abm,abm,.nil] [(0,(6,17)),(6,(3,23)),(9,(10,25))]),[0,6,8],false⟩,⟨oo 7 (.alloc [.nil,.nil,abm,abm,abm,abm,abm,abm,.nil,abm,.nil,abm,abm,.nil,.nil,.nil,abm,abm,(.bool false),abm,abm,abm,abm,abm,abm,abm,.nil]),[],true⟩,⟨aa9 27 7 26,[10,9,8,0,1,2,3,4,5,6,7,8,9,10],true⟩]) (so [abj 27 54 [],oo 8 (.alloc [.nilFunc,.nilFunc,.nilFunc,.nilFunc,.nilFunc,.nilFunc,.nilFunc,.nilFunc,.nilFunc,.nilFunc,.nilFunc,.nilFunc,.nilFunc,.nilFunc,.nilFunc,.nilFunc,.nilFunc,.nilFunc,.nilFunc,.nilFunc]),aa9 20 8 27] (.seq (.block 0 (.loop (.seq (so [i5 28 19 7,i5 29 0 28,cf 30 29,i9 31 30 0] (.cond 31 .skip (.exit 0))) (.block 1 (.seq (so [i5 32 9 7,i5 33 8 32,cf 34 33,i9 35 34 2000] (.cond 35 (.ops [oo 36 (.yB 28 (ci 11)),on (.panic 36)]) .skip)) (so [i5 37 9 7,i5 38 3 37,cf 39 38,i5 40 6 7,i5 41 2 40,cf 42 41,Js 43 42,abh 44 56 [39,43],abj 45 55 [7,44]] (so [i5 46 6 7,i5 47 2 46,cf 48 47,i5 49 9 7,i5 50 3 49,cf 51 50,aa8 52 4 48 51,aa7 53 4 52,oo 9 (.alloc [abm,abm,abm,abm]),aa9 4 9 53] (so [i5 54 0 9,cf 55 54,oo 56 (.bin .geq 55 (ci 1)),cb 57 56,abe 57 true 58 0 9,abd 57 true 59 58,oh 57 true 60 (.bin .lss 59 (ci 20)),aa6 61 57 60,abj 62 55 [7,61]] (.ops [i5 63 0 9,cf 64 63,oo 65 (.sx 20 1 8 64),i5 66 0 65,cf 67 66,aa7 68 4 9,oo 69 (.fF 67 [7,68])]))))))))) (.seq (.draw 3 [⟨i5 70 9 7,[],false⟩,⟨aa7 71 10 70,[0],false⟩,⟨i5 72 19 7,[],false⟩,⟨aa7 73 8 72,[2],false⟩,⟨aa9 10 4 71,[1,0,1],true⟩,⟨aa9 8 5 73,[3,4,0,1,2,3,4],true⟩,⟨on (.store 1 6 (ci 0)),[5,0,1,2,3,4,5],true⟩]) .ret)))))))⟩
theorem CQ:az Go.Proofs.Tryz.prog eH OO:=ag (by kernel_rfl)
abbrev iJ:FuncId:=25
def vI:aP:=⟨35,⟨false,[76,118,119,169,117,164,165,166,167,168,170,186,187,204,205,206,214,215,216,217,218,223,224,228,229,121,124,125,126,127,128,189,191,193,192,207,172,78,79,131,195,208,196,199,130,175,176,177,173,83,53,54,89,55,135,136,137,138,139,140,141,143,144,145,22,25,26,27,28,29,30,31,32,35,57,23,62]⟩,[(.tmp 8)],
 (so [abl 5 1,oo 8 (.mov (.c .nil))] (so [cb 10 0,oo 11 (.aN 10),i5 12 6 11,cf 13 12,cb 14 3,aa8 15 1 13 14,cf 16 15,cb 9 16] (.seq (.draw 2 [⟨cb 17 0,[],false⟩,⟨cb 18 0,[],false⟩,⟨oo 19 (.aN 18),[1],false⟩,⟨i5 20 11 19,[2],false⟩,⟨cf 21 20,[3],false⟩,⟨cb 22 2,[],false⟩,⟨i5 23 1 5,[],false⟩,⟨cf 24 23,[6],false⟩,⟨abh 25 50 [24],[7],false⟩,⟨cb 26 3,[],false⟩,⟨cb 27 9,[],false⟩,⟨oo 28 (.build [abm,.nil,abm,abm,abm,abm,abm,abm,abm,(.bool false)] [(0,(1,22)),(1,(1,25)),(2,(1,(ci 0))),(3,(1,26)),(8,(1,27))]),[5,8,9,10],false⟩,⟨oo 29 (.bf 10 1 [abm,.nil,abm,abm,abm,abm,abm,abm,abm,(.bool false)] [(0,28)]),[11],false⟩,⟨oo 30 (.app false 10 96 21 29),[4,12,8],true⟩,⟨oo 31 (.aN 17),[0,0,1,2,3,4,5,6,7,8,9,10,11,12,13],false⟩,⟨i5 32 11 31,[14,0,1,2,3,4,5,6,7,8,9,10,11,12,13],false⟩,⟨aa9 1 32 30,[15,13,13,0,1,2,3,4,5,6,7,8,9,10,11,12,13],true⟩]) (so [cb 33 9,oo 34 (.bf 1 1 [abm] [(0,33)]),cb 8 34] .ret))))⟩
theorem uA:az Go.Proofs.Tryz.prog iJ vI:=ag (by kernel_rfl)
abbrev g8:FuncId:=26
def uB:aP:=⟨34,⟨false,[76,118,119,169,117,164,165,166,167,168,170,186,187,204,205,206,214,215,216,217,218,223,224,228,229,121,124,125,126,127,128,189,191,193,192,207,172,78,79,131,195,208,196,199,130,175,176,177,173,83,53,54,89,55,135,136,137,138,139,140,141,143,144,145,22,25,26,27,28,29,30,31,32,35,57,23,62]⟩,[],
 (so [abl 6 1] (so [cb 10 0,oo 11 (.aN 10),i5 12 6 11,cf 13 12,cb 14 3,cb 15 4,aa8 16 1 13 14,aa9 1 16 15] (.draw 2 [⟨cb 17 0,[],false⟩,⟨cb 18 0,[],false⟩,⟨oo 19 (.aN 18),[1],false⟩,⟨i5 20 11 19,[2],false⟩,⟨cf 21 20,[3],false⟩,⟨cb 22 2,[],false⟩,⟨i5 23 1 6,[],false⟩,⟨cf 24 23,[6],false⟩,⟨abh 25 50 [24],[7],false⟩,⟨cb 26 3,[],false⟩,⟨cb 27 4,[],false⟩,⟨oo 28 (.build [abm,abm,abm,abm] [(0,(1,(ci 1))),(2,(1,27))]),[10],false⟩,⟨oo 29 (.build [abm,.nil,abm,abm,abm,abm,abm,abm,abm,(.bool false)] [(0,(1,22)),(1,(1,25)),(2,(1,(ci 0))),(3,(1,26)),(4,(4,28))]),[5,8,9,11],false⟩,⟨oo 30 (.bf 10 1 [abm,.nil,abm,abm,abm,abm,abm,abm,abm,(.bool false)] [(0,29)]),[12],false⟩,⟨oo 31 (.app false 10 96 21 30),[4,13,8],true⟩,⟨oo 32 (.aN 17),[0,0,1,2,3,4,5,6,7,8,9,10,11,12,13,14],false⟩,⟨i5 33 11 32,[15,0,1,2,3,4,5,6,7,8,9,10,11,12,13,14],false⟩,⟨aa9 1 33 31,[16,14,14,0,1,2,3,4,5,6,7,8,9,10,11,12,13,14],true⟩])))⟩
theorem sO:az Go.Proofs.Tryz.prog g8 uB:=ag (by kernel_rfl)
abbrev dG:FuncId:=27
def vJ:aP:=⟨70,⟨false,[76,118,119,169,117,164,165,166,167,168,170,186,187,204,205,206,214,215,216,217,218,223,224,228,229,121,124,125,126,127,128,189,191,193,192,207,172,78,79,131,195,208,196,199,130,175,176,177,173,83,53,54,89,55,135,136,137,138,139,140,141,143,144,145,22,25,26,27,28,29,30,31,32,35,57,23,62]⟩,[(.tmp 8),(.tmp 9)],
 (so [abl 5 1,abl 7 3,oo 8 (.mov (.c .nil)),wt 9 0] (so [i5 14 0 7,cf 15 14,abh 16 37 [15],cb 10 16] (.seq (.draw 2 [⟨cb 18 0,[],false⟩,⟨cb 19 10,[],false⟩,⟨oo 20 (.aN 18),[0],false⟩,⟨i5 21 7 20,[2],false⟩,⟨oo 22 (.sx 4 1 21 19),[3,1],false⟩,⟨cf 23 22,[4],false⟩,⟨i5 24 1 7,[],false⟩,⟨cf 25 24,[6],false⟩,⟨aa8 26 3 23 25,[5,7],false⟩,⟨aa7 27 3 26,[8],false⟩,⟨aa7 28 4 7,[],false⟩,⟨abh 29 11 [27,28],[9,10],false⟩,⟨cb 17 29,[11],false⟩,⟨abk 30 17 0,[12],false⟩,⟨abk 31 17 1,[12],false⟩,⟨abk 32 17 2,[12],false⟩,⟨oo 11 (.alloc [abm,.nil,.nil]),[],true⟩,⟨aa9 3 11 30,[16,13,11,0,1,2,3,4,5,6,7,8,9,10,11,12,13,16],true⟩,⟨cb 12 31,[14,17,0,1,2,3,4,5,6,7,8,9,10,11,12,13,14,16,17],false⟩,⟨cb 13 32,[15,18,0,1,2,3,4,5,6,7,8,9,10,11,12,13,14,15,16,17,18],false⟩]) (so [cb 33 0,cb 34 10,oo 35 (.aN 33),i5 36 7 35,oo 37 (.sx 4 1 36 34),cf 38 37,i5 39 1 7,cf 40 39,aa7 41 3 11,aa8 42 3 38 40,aa9 3 42 41] (.seq (.draw 2 [⟨cb 43 0,[],false⟩,⟨cb 44 0,[],false⟩,⟨oo 45 (.aN 44),[1],false⟩,⟨i5 46 11 45,[2],false⟩,⟨cf 47 46,[3],false⟩,⟨cb 48 2,[],false⟩,⟨i5 49 1 5,[],false⟩,⟨cf 50 49,[6],false⟩,⟨abh 51 50 [50],[7],false⟩,⟨cb 52 10,[],false⟩,⟨i5 53 1 7,[],false⟩,⟨cf 54 53,[10],false⟩,⟨aa7 55 4 7,[],false⟩,⟨cb 56 12,[],false⟩,⟨cb 57 13,[],false⟩,⟨oo 58 (.build [abm,.nil,abm,abm,abm,abm,abm,abm,abm,(.bool false)] [(0,(1,48)),(1,(1,51)),(2,(1,52)),(3,(1,54)),(4,(4,55)),(8,(1,56)),(9,(1,57))]),[5,8,9,11,12,13,14],false⟩,⟨oo 59 (.bf 10 1 [abm,.nil,abm,abm,abm,abm,abm,abm,abm,(.bool false)] [(0,58)]),[15],false⟩,⟨oo 60 (.app false 10 96 47 59),[4,16,8],true⟩,⟨oo 61 (.aN 43),[0,0,1,2,3,4,5,6,7,8,9,10,11,12,13,14,15,16,17],false⟩,⟨i5 62 11 61,[18,0,1,2,3,4,5,6,7,8,9,10,11,12,13,14,15,16,17],false⟩,⟨aa9 1 62 60,[19,17,17,0,1,2,3,4,5,6,7,8,9,10,11,12,13,14,15,16,17],true⟩]) (.seq (so [cb 63 0,abj 64 57 [63]] (.cond 64 (so [oo 8 (.mov (.c .nil)),wt 9 8] .ret) .skip)) (so [aa7 65 4 7,cb 66 12,cb 67 13,abh 68 58 [65,66,67],oo 69 (.bf 1 1 [abm] [(0,68)]),cb 8 69,wt 9 0] .ret)))))))⟩
theorem g9:az Go.Proofs.Tryz.prog dG vJ:=ag (by kernel_rfl)
abbrev dz:FuncId:=28
def uC:aP:=⟨34,⟨false,SBs⟩,[(.cell 6 true 10),(.tmp 7)],
 (so [abl 4 1,abl 5 2,oo 6 (.alloc [abm,.nil,abm,abm,.nil,.nil,.nil,abm,abm,(.bool false)]),wt 7 0] (.seq (so [cb 8 0,oo 9 (.aN 8),i5 10 14 9,cf 11 10,Js 12 11,oo 13 (.bin .geq 12 (ci 64))] (.cond 13 (so [oo 14 (.build [abm,.nil,abm,abm,.nil,.nil,.nil,abm,abm,(.bool false)] []),aa9 10 6 14,wt 7 10] .ret) .skip)) (so [cb 15 0,oo 16 (.aN 15),i5 17 0 16,aa7 18 6 17,i5 19 1 5,cf 20 19,i5 21 7 5,cf 22 21,cb 23 0,oo 24 (.aN 23),i5 25 14 24,cf 26 25,Js 27 26,ON 28 27 1,aa7 29 10 4,abh 30 59 [29],abh 31 34 [18,20,22,28,30],abk 32 31 0,abk 33 31 1,aa9 10 6 32,cb 7 33] .ret)))⟩
theorem kT:az Go.Proofs.Tryz.prog dz uC:=ag (by kernel_rfl)
abbrev iK:FuncId:=29
def vK:aP:=⟨54,⟨false,SBs⟩,[(.cell 8 true 5)],
 (so [oo 8 (.alloc [abm,abm,abm,abm,abm])] (.seq (.draw 2 [⟨cb 10 1,[],false⟩,⟨cb 11 0,[],false⟩,⟨oo 12 (.aN 11),[1],false⟩,⟨i5 13 13 12,[2],false⟩,⟨cf 14 13,[3],false⟩,⟨cb 15 0,[],false⟩,⟨oo 16 (.aN 15),[5],false⟩,⟨i5 17 13 16,[6],false⟩,⟨cf 18 17,[7],false⟩,⟨ON 19 18 1,[8],false⟩,⟨cb 20 2,[],false⟩,⟨oo 21 (.build [abm,abm,abm,abm,abm] [(0,(1,(ci 1))),(1,(1,10)),(2,(1,14)),(3,(1,19)),(4,(1,20))]),[0,4,9,10],false⟩,⟨oo 9 (.alloc [abm,abm,abm,abm,abm]),[],true⟩,⟨aa9 5 9 21,[12,11,0,1,2,3,4,5,6,7,8,9,10,11,12],true⟩]) (so [cb 22 0,oo 23 (.aN 22),i5 24 13 23,cf 25 24,ON 26 25 2,oo 27 (.aN 22),i5 28 13 27,aa9 1 28 26] (.seq (so [cb 29 3,oo 30 (.not 29)] (.cond 30 (so [cb 31 0,oo 32 (.aN 31),i5 33 13 32,cf 34 33,i5 35 4 9,aa9 1 35 34] (.ops [cb 36 0,oo 37 (.aN 36),i5 38 13 37,cf 39 38,ON 40 39 1,oo 41 (.aN 36),i5 42 13 41,aa9 1 42 40])) .skip)) (.seq (.draw 2 [⟨cb 43 0,[],false⟩,⟨cb 44 0,[],false⟩,⟨oo 45 (.aN 44),[1],false⟩,⟨i5 46 12 45,[2],false⟩,⟨cf 47 46,[3],false⟩,⟨aa7 48 5 9,[],false⟩,⟨oo 49 (.bf 5 1 [abm,abm,abm,abm,abm] [(0,48)]),[5],false⟩,⟨oo 50 (.app false 5 40 47 49),[4,6],true⟩,⟨oo 51 (.aN 43),[0,0,1,2,3,4,5,6,7],false⟩,⟨i5 52 12 51,[8,0,1,2,3,4,5,6,7],false⟩,⟨aa9 1 52 50,[9,7,7,0,1,2,3,4,5,6,7],true⟩]) (so [aa7 53 5 9,aa9 5 8 53] .ret))))))⟩
theorem lT:az Go.Proofs.Tryz.prog iK vK:=ag (by kernel_rfl)
abbrev hZ:FuncId:=30
def uD:aP:=⟨29,⟨false,SBs⟩,[(.tmp 4)],
 (so [abl 3 1,oo 4 (.mov (.c .nil))] (so [oo 5 (.mov (.c .nil))] (.seq (so [i5 8 6 3,cf 9 8,Js 10 9,wt 11 0] (.block 0 (.loop (so [abb 12 11 10] (.seq (.cond 12 .skip (.exit 0)) (.seq (.block 1 (so [aa8 13 2 9 11,aa7 14 2 13,oo 7 (.alloc [abm,abm]),aa9 2 7 14] (.ops [cb 15 5,cb 16 0,oo 17 (.aN 16),i5 18 14 17,cf 19 18,i5 20 0 7,cf 21 20,oo 22 (.bin .sub 21 (ci 1)),aa8 23 1 19 22,cf 24 23,oo 25 (.bf 1 1 [abm] [(0,24)]),oo 26 (.app false 1 8 15 25),cb 5 26]))) (.ops [ON 27 11 1,cb 11 27]))))))) (so [cb 28 5,cb 4 28] .ret))))⟩
theorem sP:az Go.Proofs.Tryz.prog hZ uD:=ag (by kernel_rfl)
abbrev iL:FuncId:=31
def vL:aP:=⟨27,⟨false,SBs⟩,[(.tmp 8)],
 (so [abl 5 1,wt 8 0] (.seq (so [i5 9 6 5,cf 10 9,Js 11 10,i9 12 11 0] (.cond 12 (so [cb 13 2,cb 8 13] .ret) .skip)) (so [cb 14 0,cb 15 0,oo 16 (.aN 15),i5 17 12 16,cf 18 17,cb 19 2,cb 20 3,oo 21 (.build [abm,abm,abm,abm,abm] [(0,(1,(ci 3))),(1,(1,19)),(4,(1,20))]),oo 22 (.bf 5 1 [abm,abm,abm,abm,abm] [(0,21)]),oo 23 (.app false 5 40 18 22),oo 24 (.aN 14),i5 25 12 24,aa9 1 25 23] (so [cb 26 3,cb 8 26] .ret))))⟩
theorem uE:az Go.Proofs.Tryz.prog iL vL:=ag (by kernel_rfl)
abbrev dS:FuncId:=32
def wT:aP:=⟨57,⟨false,[76,118,119,169,117,164,165,166,167,168,170,186,187,204,205,206,214,215,216,217,218,223,224,228,229,121,124,125,126,127,128,189,191,193,192,207,172,78,79,131,195,208,196,199,130,175,176,177,173,83,53,54,89,55,135,136,137,138,139,140,141,143,144,145,22,25,26,27,28,29,30,31,32,35,57,23,62]⟩,[],
 (so [abl 6 1] (so [cb 10 0,oo 11 (.aN 10),i5 12 14 11,cf 13 12,i5 14 0 6,cf 15 14,oo 16 (.bin .sub 15 (ci 1)),cb 17 2,aa8 18 1 13 16,aa9 1 18 17] (.seq (so [i5 19 0 6,cf 20 19,oo 21 (.bin .gtr 20 (ci 1))] (.cond 21 (.ops [cb 22 0,cb 23 0,oo 24 (.aN 23),i5 25 12 24,cf 26 25,cb 27 3,cb 28 4,oo 29 (.build [abm,abm,abm,abm,abm] [(0,(1,(ci 2))),(1,(1,27)),(4,(1,28))]),oo 30 (.bf 5 1 [abm,abm,abm,abm,abm] [(0,29)]),oo 31 (.app false 5 40 26 30),oo 32 (.aN 22),i5 33 12 32,aa9 1 33 31]) .skip)) (so [cb 34 0,oo 35 (.aN 34),i5 36 15 35,cf 37 36,i5 38 8 6,cf 39 38,oo 40 (.bin .add 37 39),oo 41 (.aN 34),i5 42 15 41,aa9 1 42 40] (so [i5 43 9 6,cf 44 43] (.cond 44 (.draw 2 [⟨cb 45 0,[],false⟩,⟨cb 46 0,[],false⟩,⟨oo 47 (.aN 46),[1],false⟩,⟨i5 48 16 47,[2],false⟩,⟨cf 49 48,[3],false⟩,⟨i5 50 1 6,[],false⟩,⟨cf 51 50,[5],false⟩,⟨abh 52 50 [51],[6],false⟩,⟨oo 53 (.bf 1 1 [.nil] [(0,52)]),[7],false⟩,⟨oo 54 (.app false 1 24 49 53),[4,8,7],true⟩,⟨oo 55 (.aN 45),[0,0,1,2,3,4,5,6,7,8,9],false⟩,⟨i5 56 16 55,[10,0,1,2,3,4,5,6,7,8,9],false⟩,⟨aa9 1 56 54,[11,9,9,0,1,2,3,4,5,6,7,8,9],true⟩]) .skip))))))⟩
theorem fx:az Go.Proofs.Tryz.prog dS wT:=ag (by kernel_rfl)
abbrev dT:FuncId:=33
def OP:aP:=⟨133,⟨true,SBs⟩,[(.cell 6 true 10),(.tmp 7)],
 (so [abl 3 0,abl 4 1,oo 6 (.alloc [abm,.nil,abm,abm,.nil,.nil,.nil,abm,abm,(.bool false)]),wt 7 0] (so [aa7 14 10 3,abj 15 53 [14],oo 8 (.alloc [abm,.nil,abm,abm,.nil,.nil,.nil,abm,abm,(.bool false)]),aa9 10 8 15] (so [AN 9 false] (.seq (so [i5 16 0 4,cf 17 16] (.block 0 (.seq (so [i9 19 17 1,cb 18 19] (.cond 18 .skip (.ops [i9 20 17 3,cb 18 20]))) (.cond 18 (so [cb 21 2,Js 22 21,i9 23 22 1,cb 24 23,abf 24 true 25 2,oh 24 true 26 (.call 60 [25]),aa6 27 24 26,cb 28 27,abe 28 true 29 5 3,abd 28 true 30 29,oh 28 true 31 (.len false 30),oh 28 true 32 (.bin .lss 31 (ci 100)),aa6 33 28 32,cb 9 33] (.ops [i5 34 5 8,cf 35 34,cb 36 2,oo 37 (.app true 1 8 35 36),i5 38 5 8,aa9 1 38 37])) (so [i9 40 17 2,cb 39 40] (.cond 39 (.ops [cb 41 2,Js 42 41,i9 43 42 0,cb 9 43]) (so [i9 45 17 4,cb 44 45] (.cond 44 (so [cb 46 2,Js 47 46,i9 48 47 1,cb 49 48,abf 49 true 50 2,oh 49 true 51 (.idx 1 50 (ci 0)),abd 49 true 52 51,oh 49 true 53 (.bin .geq 52 (ci 1)),aa6 54 49 53,cb 55 54,abe 55 true 56 2 4,abd 55 true 57 56,abe 55 true 58 4 3,abd 55 true 59 58,oh 55 true 60 (.len false 59),oh 55 true 61 (.call 61 [57,60]),aa6 62 55 61,cb 9 62] (.seq (so [cb 63 2,Js 64 63,wt 65 0] (.block 1 (.loop (so [abb 66 65 64] (.seq (.cond 66 .skip (.exit 1)) (.seq (.block 2 (so [aa8 67 1 63 65,cf 68 67,cb 11 68] (.ops [i5 69 6 8,cf 70 69,cb 71 11,i5 72 2 4,cf 73 72,oo 74 (.build [abm,abm] [(0,(1,71)),(1,(1,73))]),oo 75 (.bf 2 1 [abm,abm] [(0,74)]),oo 76 (.app true 2 16 70 75),i5 77 6 8,aa9 1 77 76]))) (.ops [ON 78 65 1,cb 65 78]))))))) (.ops [i5 79 7 8,cf 80 79,ON 81 80 1,i5 82 7 8,aa9 1 82 81]))) (so [i9 84 17 5,cb 83 84] (.cond 83 (so [cb 85 2,Js 86 85,i5 87 6 3,cf 88 87,Js 89 88,oo 90 (.bin .eql 86 89),cb 91 90,abf 91 true 92 2,oh 91 true 93 (.call 60 [92]),aa6 94 91 93,cb 9 94] (so [i5 95 6 8,on (.store 1 95 (.c .nil))] (so [i5 96 6 3,cf 97 96,Js 98 97,wt 99 0] (.block 3 (.loop (so [abb 100 99 98] (.seq (.cond 100 .skip (.exit 3)) (.seq (.block 4 (so [cb 101 99,aa8 102 2 97 99,aa7 103 2 102,oo 13 (.alloc [abm,abm]),cb 12 101,aa9 2 13 103] (so [cb 104 9,cb 105 104,abe 105 true 106 1 13,abd 105 true 107 106,abe 105 true 108 4 3,abd 105 true 109 108,oh 105 true 110 (.len false 109),oh 105 true 111 (.call 61 [107,110]),aa6 112 105 111,cb 9 112] (so [cb 113 9,cb 114 113,abe 114 true 115 1 13,abd 114 true 116 115,oh 114 true 117 (.bin .geq 116 (ci 0)),aa6 118 114 117] (.cond 118 (.ops [i5 119 4 8,cf 120 119,i5 121 1 13,cf 122 121,cb 123 2,cb 124 12,aa8 125 1 123 124,cf 126 125,aa8 127 1 120 122,aa9 1 127 126]) .skip))))) (.ops [ON 128 99 1,cb 99 128]))))))))) .skip)))))))))) (.seq (so [cb 129 9,oo 130 (.not 129)] (.cond 130 (so [aa7 131 10 3,aa9 10 6 131,wt 7 1] .ret) .skip)) (so [aa7 132 10 8,aa9 10 6 132,wt 7 0] .ret))))))⟩
theorem ku:az Go.Proofs.Tryz.prog dT OP:=ag (by kernel_rfl)
abbrev vM:FuncId:=34
def K4:aP:=⟨60,⟨true,SBs⟩,[(.cell 10 true 10),(.tmp 11)],
 (so [abl 5 0,oo 10 (.alloc [abm,.nil,abm,abm,.nil,.nil,.nil,abm,abm,(.bool false)]),wt 11 0] (.seq (so [cb 14 1,i5 15 0 5,cf 16 15,Js 17 16,abh 18 56 [14,17],oo 19 (.not 18),cb 20 19,abf 20 false 21 3,oh 20 false 22 (.bin .lss 21 (ci 1)),Pe 23 20 22,cb 24 23,abf 24 false 25 2,oh 24 false 26 (.call 60 [25]),oh 24 false 27 (.not 26),Pe 28 24 27] (.cond 28 (so [oo 29 (.build [abm,.nil,abm,abm,.nil,.nil,.nil,abm,abm,(.bool false)] []),aa9 10 10 29,wt 11 1] .ret) .skip)) (so [i5 30 0 5,cf 31 30,cb 32 1,aa8 33 3 31 32,aa7 34 3 33,oo 12 (.alloc [abm,abm,.nil]),aa9 3 12 34] (.seq (so [i5 35 0 12,cf 36 35,cb 37 2,Js 38 37,oo 39 (.bin .neq 36 38),cb 40 39,abe 40 false 41 1 12,abd 40 false 42 41,abe 40 false 43 0 12,abd 40 false 44 43,oh 40 false 45 (.bin .lss 42 44),Pe 46 40 45] (.cond 46 (so [oo 47 (.build [abm,.nil,abm,abm,.nil,.nil,.nil,abm,abm,(.bool false)] []),aa9 10 10 47,wt 11 1] .ret) .skip)) (so [i5 48 1 12,cf 49 48,oo 50 (.Ax true 1 8 [abm] 49 49),cb 13 50] (so [cb 51 13,cb 52 2,oo 53 (.copy 1 51 52)] (so [cb 54 3,cb 55 4,abj 56 50 [55],cb 57 1,cb 58 13,oo 59 (.build [abm,.nil,abm,abm,.nil,.nil,.nil,abm,abm,(.bool false)] [(0,(1,54)),(1,(1,56)),(2,(1,57)),(4,(1,58))]),aa9 10 10 59,wt 11 0] .ret)))))))⟩
theorem iW:az Go.Proofs.Tryz.prog vM K4:=ag (by kernel_rfl)
abbrev nE:FuncId:=35
def vN:aP:=⟨55,⟨false,SBs⟩,[(.cell 2 true 11)],
 (so [oo 2 (.alloc [abm,abm,.nil,.nil,.nil,.nil,.nil,.nil,abm,abm,.nil])] (so [cb 3 0,oo 4 (.aN 3),i5 5 16 4,cf 6 5,oo 7 (.sub 62 [6,(.c (.func 63))])] (so [cb 8 0,oo 9 (.aN 8),i5 10 14 9,cf 11 10,oo 12 (.idx 1 11 (ci 0)),cf 13 12,cb 14 0,oo 15 (.aN 14),i5 16 6 15,cf 17 16,cb 18 0,oo 19 (.aN 18),i5 20 7 19,oo 21 (.sx 4 1 20 (ci 1)),cf 22 21,cb 23 0,oo 24 (.aN 23),i5 25 7 24,oo 26 (.sx 4 1 25 (ci 2)),cf 27 26,cb 28 0,oo 29 (.aN 28),i5 30 7 29,oo 31 (.sx 4 1 30 (ci 3)),cf 32 31,cb 33 0,oo 34 (.aN 33),i5 35 11 34,cf 36 35,cb 37 0,oo 38 (.aN 37),i5 39 12 38,cf 40 39,cb 41 0,oo 42 (.aN 41),i5 43 15 42,cf 44 43,cb 45 0,oo 46 (.aN 45),i5 47 14 46,cf 48 47,Js 49 48,cb 50 0,oo 51 (.aN 50),i5 52 16 51,cf 53 52,oo 54 (.build [abm,abm,.nil,.nil,.nil,.nil,.nil,.nil,abm,abm,.nil] [(1,(1,13)),(2,(1,17)),(3,(1,22)),(4,(1,27)),(5,(1,32)),(6,(1,36)),(7,(1,40)),(8,(1,44)),(9,(1,49)),(10,(1,53))]),aa9 11 2 54] .ret)))⟩
theorem uF:az Go.Proofs.Tryz.prog nE vN:=ag (by kernel_rfl)
abbrev wU:FuncId:=36
def GQ:aP:=⟨26,⟨false,SBs⟩,[(.tmp 2)],
 (so [abl 1 0,AN 2 false] (.seq (so [i5 3 0 1,cf 4 3] (.block 0 (so [i9 6 4 1,cb 5 6] (.cond 5 (so [i5 7 1 1,cf 8 7,Js 9 8,i5 10 2 1,cf 11 10,Js 12 11,oo 13 (.bin .eql 9 12),cb 14 13,abe 14 true 15 1 1,abd 14 true 16 15,oh 14 true 17 (.call 64 [16]),aa6 18 14 17,cb 2 18] .ret) (.seq (so [i9 20 4 2,cb 19 20] (.cond 19 .skip (.ops [i9 21 4 3,cb 19 21]))) (.cond 19 (so [i5 22 1 1,cf 23 22,Js 24 23,i9 25 24 0,cb 2 25] .ret) .skip)))))) (so [AN 2 false] .ret)))⟩
theorem iu:az Go.Proofs.Tryz.prog wU GQ:=ag (by kernel_rfl)
abbrev Fe:FuncId:=37
def OQ:aP:=⟨14,⟨false,SBs⟩,[(.tmp 2)],
 (so [wt 2 0] (.seq (so [cb 3 0] (.block 0 (.seq (so [i9 5 3 1,cb 4 5] (.cond 4 .skip (so [i9 6 3 2,cb 4 6] (.cond 4 .skip (.ops [i9 7 3 3,cb 4 7]))))) (.cond 4 (so [wt 2 1] .ret) (.seq (so [i9 9 3 4,cb 8 9] (.cond 8 .skip (.ops [i9 10 3 5,cb 8 10]))) (.cond 8 (so [wt 2 2] .ret) (.seq (so [i9 12 3 6,cb 11 12] (.cond 11 .skip (.ops [i9 13 3 7,cb 11 13]))) (.cond 11 (so [wt 2 3] .ret) .skip)))))))) (so [wt 2 0] .ret)))⟩
theorem gj:az Go.Proofs.Tryz.prog Fe OQ:=ag (by kernel_rfl)
abbrev sQ:FuncId:=38
def CS:aP:=⟨2,⟨false,SBs⟩,[(.cell 0 true 8)],
 (so [oo 0 (.alloc [.nilFunc,.nilFunc,.nilFunc,.nilFunc,.nilFunc,.nilFunc,.nilFunc,.nilFunc])] (so [oo 1 (.build [.nilFunc,.nilFunc,.nilFunc,.nilFunc,.nilFunc,.nilFunc,.nilFunc,.nilFunc] [(1,(1,(.c (.func 65)))),(2,(1,(.c (.func 66)))),(3,(1,(.c (.func 67)))),(4,(1,(.c (.func 68)))),(5,(1,(.c (.func 69)))),(6,(1,(.c (.func 70)))),(7,(1,(.c (.func 69))))]),aa9 8 0 1] .ret))⟩
theorem AG:az Go.Proofs.Tryz.prog sQ CS:=ag (by kernel_rfl)
abbrev CU:FuncId:=46
def CV:aP:=⟨23,⟨false,SBs⟩,[(.cell 2 true 3),(.cell 3 false 1)],
 (so [oo 2 (.alloc [.nil,.nil,.nil]),oo 3 (.alloc [abm])] (so [cb 7 0,abh 8 73 [7],cb 6 8,abk 9 6 0,abk 10 6 1,cb 4 9,aa9 1 3 10] (.seq (so [cf 11 3,oo 12 (.bin .neq 11 (ci 0))] (.cond 12 (.seq (.draw 2 [⟨oo 13 (.build [.nil,.nil,.nil] []),[],false⟩,⟨cf 14 3,[],false⟩,⟨aa9 3 2 13,[0,0],true⟩,⟨aa9 1 3 14,[1,2,0,1,2],true⟩]) .ret) .skip)) (.seq (so [cb 15 4,abh 16 74 [15],oo 17 (.bin .gtr 16 (ci 40))] (.cond 17 (so [oo 18 (.build [.nil,.nil,.nil] []),aa9 3 2 18,on (.store 1 3 (ci 2))] .ret) .skip)) (so [oo 19 (.kl 75 [] [2,3]),on (.defer 19 [])] (so [cb 20 4,oo 21 (.build [.nil,abm,.nil] [(0,(1,20))]),oo 5 (.alloc [.nil,abm,.nil]),aa9 3 5 21] (so [abj 22 76 [5],aa9 3 2 22,on (.store 1 3 (ci 0))] .ret)))))))⟩
theorem IB:az Go.Proofs.Tryz.prog CU CV:=ag (by kernel_rfl)
abbrev wV:FuncId:=47
def wX:aP:=⟨103,⟨false,SBs⟩,[(.cell 2 true 6),(.tmp 3)],
 (so [abl 1 0,oo 2 (.alloc [.nil,.nil,abm,abm,abm,abm]),wt 3 0] (.seq (so [aa7 13 3 1,abh 14 77 [13],cb 4 14] (so [cb 15 4,oo 16 (.bin .neq 15 (ci 0))] (.cond 16 (so [oo 17 (.build [.nil,.nil,abm,abm,abm,abm] []),cb 18 4,aa9 6 2 17,cb 3 18] .ret) .skip))) (so [aa7 19 3 1,abj 20 78 [19],oo 5 (.alloc [.cv,.cv,.cv,.nil]),aa9 4 5 20] (so [i5 21 1 5,cf 22 21,oo 23 (.lkp false none abm 22 (.c (.str [109,97,105,110]))),oo 24 (.build [.nil,.nil,abm,abm,abm,abm] [(5,(1,23))]),oo 6 (.alloc [.nil,.nil,abm,abm,abm,abm]),aa9 6 6 24] (.seq (so [i5 25 0 1,cf 26 25,Js 27 26,wt 28 0] (.block 0 (.loop (so [abb 29 28 27] (.seq (.cond 29 .skip (.exit 0)) (.seq (.block 1 (so [aa8 30 3 26 28,aa7 31 3 30,oo 8 (.alloc [abm,abn,abm]),aa9 3 8 31] (so [i5 32 0 8,cf 33 32] (.block 2 (so [i9 35 33 0,cb 34 35] (.cond 34 (.ops [i5 36 1 6,cf 37 36,i5 38 2 8,cf 39 38,oo 40 (.bf 1 1 [abm] [(0,39)]),oo 41 (.app false 1 8 37 40),i5 42 1 6,aa9 1 42 41]) (so [i9 44 33 1,cb 43 44] (.cond 43 (.ops [i5 45 2 6,cf 46 45,ON 47 46 1,i5 48 2 6,aa9 1 48 47]) (so [i9 50 33 2,cb 49 50] (.cond 49 (.ops [i5 51 3 6,cf 52 51,ON 53 52 1,i5 54 3 6,aa9 1 54 53]) (so [i9 56 33 3,cb 55 56] (.cond 55 (.ops [i5 57 4 6,cf 58 57,ON 59 58 1,i5 60 4 6,aa9 1 60 59]) .skip)))))))))))) (.ops [ON 61 28 1,cb 28 61]))))))) (.seq (so [i5 62 1 1,cf 63 62,Js 64 63,wt 65 0] (.block 3 (.loop (so [abb 66 65 64] (.seq (.cond 66 .skip (.exit 3)) (.seq (.block 4 (so [cb 67 65,cb 9 67] (so [aa7 68 3 1,aa7 69 4 5,cb 70 9,abj 71 79 [68,69,70],oo 10 (.alloc [abm,abm,.nil]),aa9 3 10 71] (.seq (so [i5 72 2 10,cf 73 72,Js 74 73,oo 75 (.bin .gtr 74 (ci 400))] (.cond 75 (so [oo 76 (.build [.nil,.nil,abm,abm,abm,abm] []),aa9 6 2 76,wt 3 2] .ret) .skip)) (.ops [i5 77 0 6,cf 78 77,aa7 79 3 10,oo 80 (.bf 3 1 [abm,abm,.nil] [(0,79)]),oo 81 (.app false 3 40 78 80),i5 82 0 6,aa9 1 82 81]))))) (.ops [ON 83 65 1,cb 65 83]))))))) (.seq (so [i5 84 3 5,cf 85 84,Js 86 85,wt 87 0] (.block 5 (.loop (so [abb 88 87 86] (.seq (.cond 88 .skip (.exit 5)) (.seq (.block 6 (so [aa8 89 1 85 87,cf 90 89,cb 12 90] (.ops [i5 91 0 6,cf 92 91,cb 93 12,i5 94 0 6,cf 95 94,Js 96 95,abh 97 80 [93,96],oo 98 (.bf 3 1 [abm,abm,.nil] [(0,97)]),oo 99 (.app false 3 40 92 98),i5 100 0 6,aa9 1 100 99]))) (.ops [ON 101 87 1,cb 87 101]))))))) (so [aa7 102 6 6,aa9 6 2 102,wt 3 0] .ret))))))))⟩
theorem Ep:az Go.Proofs.Tryz.prog wV wX:=ag (by kernel_rfl)
abbrev iF:FuncId:=48
def rR:aP:=⟨12,⟨false,SBs⟩,[(.tmp 4)],
 (so [AN 4 false] (so [cb 5 0,oo 6 (.bin .geq 5 (ci 0)),cb 7 6,abf 7 true 8 0,abf 7 true 9 1,oh 7 true 10 (.bin .lss 8 9),aa6 11 7 10,cb 4 11] .ret))⟩
theorem kx:az Go.Proofs.Tryz.prog iF rR:=ag (by kernel_rfl)
abbrev lL:FuncId:=49
def rS:aP:=⟨58,⟨false,SBs⟩,[(.tmp 4)],
 (so [abl 2 0,AN 4 false] (so [i5 8 0 2,cf 9 8,cb 10 1,aa8 11 3 9 10,aa7 12 3 11,oo 5 (.alloc [abm,abm,.nil]),aa9 3 5 12] (.seq (so [i5 13 0 5,cf 14 13,oo 15 (.bin .lss 14 (ci 0)),cb 16 15,abe 16 false 17 1 5,abd 16 false 18 17,abe 16 false 19 0 5,abd 16 false 20 19,oh 16 false 21 (.bin .lss 18 20),Pe 22 16 21,cb 23 22,abe 23 false 24 1 5,abd 23 false 25 24,oh 23 false 26 (.bin .gtr 25 (ci 16)),Pe 27 23 26] (.cond 27 (so [AN 4 false] .ret) .skip)) (.seq (so [i5 28 2 5,cf 29 28,Js 30 29,oo 31 (.bin .lss 30 (ci 1)),cb 32 31,abe 32 false 33 2 5,abd 32 false 34 33,oh 32 false 35 (.len false 34),oh 32 false 36 (.bin .gtr 35 (ci 400)),Pe 37 32 36,cb 38 37,oh 38 false 39 (.load true 6 2),abf 38 false 40 1,oh 38 false 41 (.call 81 [39,40]),oh 38 false 42 (.len false 41),abg 38 false 43 42 0,Pe 44 38 43] (.cond 44 (so [AN 4 false] .ret) .skip)) (.seq (so [i5 45 2 5,cf 46 45,Js 47 46,wt 48 0] (.block 0 (.loop (so [abb 49 48 47] (.seq (.cond 49 .skip (.exit 0)) (.seq (.block 1 (so [aa8 50 4 46 48,aa7 51 4 50,oo 7 (.alloc [abm,abm,abm,abm]),aa9 4 7 51] (so [aa7 52 6 2,aa7 53 3 5,aa7 54 4 7,abh 55 82 [52,53,54],oo 56 (.not 55)] (.cond 56 (so [AN 4 false] .ret) .skip)))) (.ops [ON 57 48 1,cb 48 57]))))))) (so [AN 4 true] .ret))))))⟩
theorem df:az Go.Proofs.Tryz.prog lL rS:=ag (by kernel_rfl)
abbrev dt:FuncId:=50
def sR:aP:=⟨8,⟨true,[76,118,119,169,117,164,165,166,167,168,170,186,187,204,205,206,214,215,216,217,218,223,224,228,229,121,124,125,126,127,128,189,191,193,192,207,172,78,79,131,195,208,196,199,130,175,176,177,173,50,83,53,54,89,55,135,136,137,138,139,140,141,143,144,145,22,25,26,27,28,29,30,31,32,35,57,23,62,1000002]⟩,[(.tmp 2)],
 (so [oo 2 (.mov (.c .nil))] (.seq (so [cb 3 0,oo 4 (.eqn false 3)] (.cond 4 (so [oo 2 (.mov (.c .nil))] .ret) .skip)) (so [oo 5 (.wh 1 0 [abm] []),cb 6 0,oo 7 (.app true 1 8 5 6),cb 2 7] .ret)))⟩
theorem lM:az Go.Proofs.Tryz.prog dt sR:=ag (by kernel_rfl)
abbrev CW:FuncId:=51
def K5:aP:=⟨85,⟨false,SBs⟩,[(.tmp 4)],
 (so [abl 2 0,abl 3 1,AN 4 false] (.seq (so [i5 8 0 3,cf 9 8,oo 10 (.bin .lss 9 (ci 1)),cb 11 10,abe 11 false 12 2 3,abd 11 false 13 12,abe 11 false 14 0 2,abd 11 false 15 14,oh 11 false 16 (.len false 15),oh 11 false 17 (.call 56 [13,16]),oh 11 false 18 (.not 17),Pe 19 11 18] (.cond 19 (so [AN 4 false] .ret) .skip)) (so [i5 20 0 2,cf 21 20,i5 22 2 3,cf 23 22,aa8 24 3 21 23,aa7 25 3 24,oo 5 (.alloc [abm,abm,.nil]),aa9 3 5 25] (.seq (so [i5 26 3 3,cf 27 26,i5 28 2 5,cf 29 28,Js 30 29,ON 31 30 1,abh 32 56 [27,31],oo 33 (.not 32),cb 34 33,abe 34 false 35 4 3,abd 34 false 36 35,oh 34 false 37 (.len false 36),abe 34 false 38 1 5,abd 34 false 39 38,oh 34 false 40 (.bin .neq 37 39),Pe 41 34 40,cb 42 41,abe 42 false 43 5 3,abd 42 false 44 43,oh 42 false 45 (.len false 44),oh 42 false 46 (.bin .gtr 45 (ci 100)),Pe 47 42 46] (.cond 47 (so [AN 4 false] .ret) .skip)) (.seq (so [i5 48 6 3,cf 49 48,Js 50 49,wt 51 0] (.block 0 (.loop (so [abb 52 51 50] (.seq (.cond 52 .skip (.exit 0)) (.seq (.block 1 (so [aa8 53 2 49 51,aa7 54 2 53,oo 7 (.alloc [abm,abm]),aa9 2 7 54] (so [i5 55 0 7,cf 56 55,oo 57 (.bin .lss 56 (ci 1)),cb 58 57,abe 58 false 59 1 7,abd 58 false 60 59,abe 58 false 61 1 5,abd 58 false 62 61,oh 58 false 63 (.call 61 [60,62]),oh 58 false 64 (.not 63),Pe 65 58 64] (.cond 65 (so [AN 4 false] .ret) .skip)))) (.ops [ON 66 51 1,cb 51 66]))))))) (so [i5 67 4 3,cf 68 67,abh 69 60 [68],cb 70 69,abe 70 true 71 5 3,abd 70 true 72 71,oh 70 true 73 (.call 60 [72]),aa6 74 70 73,cb 75 74,abe 75 true 76 7 3,abd 75 true 77 76,oh 75 true 78 (.bin .geq 77 (ci 0)),aa6 79 75 78,cb 80 79,abe 80 true 81 8 3,abd 80 true 82 81,oh 80 true 83 (.call 56 [82,(ci 2001)]),aa6 84 80 83,cb 4 84] .ret))))))⟩
theorem iY:az Go.Proofs.Tryz.prog CW K5:=ag (by kernel_rfl)
abbrev iZ:FuncId:=52
def IC:yS:=⟨19,⟨false,SBs⟩,7,[cb 4 7],
 (so [cb 8 4,oo 9 (.eqi true 8)] (.cond 9 (so [aa7 10 10 0,oo 11 (.build [abm,abm,abm,abm,abm,abm,abm,.nil] []),aa9 10 1 10,aa9 8 2 11,on (.store 1 3 (ci 1))] (so [cb 13 4,oo 14 (.tas 28 abm 13),cb 12 14,abk 15 12 0,abk 16 12 1,cb 5 15,cb 6 16] (so [cb 17 6] (.cond 17 (.ops [cb 18 5,aa9 1 3 18]) .skip)))) .skip))⟩
theorem mV:rP Go.Proofs.Tryz.prog iZ IC:=by unfold rP;kernel_rfl
abbrev K6:FuncId:=53
def K7:aP:=⟨20,⟨true,SBs⟩,[(.cell 2 true 10)],
 (so [abl 1 0,oo 2 (.alloc [abm,.nil,abm,abm,.nil,.nil,.nil,abm,abm,(.bool false)])] (so [i5 3 1 1,cf 4 3,abj 5 50 [4],i5 6 1 1,aa9 1 6 5] (so [i5 7 4 1,cf 8 7,abj 9 50 [8],i5 10 4 1,aa9 1 10 9] (so [i5 11 5 1,cf 12 11,abj 13 50 [12],i5 14 5 1,aa9 1 14 13] (so [i5 15 6 1,cf 16 15,abj 17 83 [16],i5 18 6 1,aa9 1 18 17] (so [aa7 19 10 1,aa9 10 2 19] .ret))))))⟩
theorem fm:az Go.Proofs.Tryz.prog K6 K7:=ag (by kernel_rfl)
abbrev K8:FuncId:=54
def K9:aP:=⟨27,⟨true,SBs⟩,[(.cell 0 true 20)],
 (so [oo 0 (.alloc [.nilFunc,.nilFunc,.nilFunc,.nilFunc,.nilFunc,.nilFunc,.nilFunc,.nilFunc,.nilFunc,.nilFunc,.nilFunc,.nilFunc,.nilFunc,.nilFunc,.nilFunc,.nilFunc,.nilFunc,.nilFunc,.nilFunc,.nilFunc])] (so [oo 1 (.build [.nilFunc] [(0,(1,(.c (.func 84))))]),oo 2 (.build [.nilFunc] [(0,(1,(.c (.func 85))))]),oo 3 (.build [.nilFunc] [(0,(1,(.c (.func 86))))]),oo 4 (.build [.nilFunc] [(0,(1,(.c (.func 87))))]),oo 5 (.build [.nilFunc] [(0,(1,(.c (.func 88))))]),oo 6 (.sub 89 [(.c (.func 90))]),oo 7 (.build [.nilFunc] [(0,(1,6))]),oo 8 (.sub 89 [(.c (.func 92))]),oo 9 (.build [.nilFunc] [(0,(1,8))]),oo 10 (.sub 89 [(.c (.func 93))]),oo 11 (.build [.nilFunc] [(0,(1,10))]),oo 12 (.sub 89 [(.c (.func 94))]),oo 13 (.build [.nilFunc] [(0,(1,12))]),oo 14 (.sub 89 [(.c (.func 96))]),oo 15 (.build [.nilFunc] [(0,(1,14))]),oo 16 (.build [.nilFunc] [(0,(1,(.c (.func 97))))]),oo 17 (.build [.nilFunc] [(0,(1,(.c (.func 98))))]),oo 18 (.build [.nilFunc] [(0,(1,(.c (.func 99))))]),oo 19 (.build [.nilFunc] [(0,(1,(.c (.func 100))))]),oo 20 (.build [.nilFunc] [(0,(1,(.c (.func 101))))]),oo 21 (.build [.nilFunc] [(0,(1,(.c (.func 102))))]),oo 22 (.build [.nilFunc] [(0,(1,(.c (.func 103))))]),oo 23 (.build [.nilFunc] [(0,(1,(.c (.func 104))))]),oo 24 (.sub 89 [(.c (.func 105))]),oo 25 (.build [.nilFunc] [(0,(1,24))]),oo 26 (.build [.nilFunc,.nilFunc,.nilFunc,.nilFunc,.nilFunc,.nilFunc,.nilFunc,.nilFunc,.nilFunc,.nilFunc,.nilFunc,.nilFunc,.nilFunc,.nilFunc,.nilFunc,.nilFunc,.nilFunc,.nilFunc,.nilFunc,.nilFunc] [(1,(1,1)),(2,(1,2)),(3,(1,3)),(4,(1,4)),(5,(1,5)),(6,(1,7)),(7,(1,9)),(8,(1,11)),(9,(1,13)),(10,(1,15)),(11,(1,16)),(12,(1,17)),(13,(1,18)),(14,(1,19)),(15,(1,20)),(16,(1,21)),(17,(1,22)),(18,(1,23)),(19,(1,25))]),aa9 20 0 26] .ret))⟩
theorem IE:az Go.Proofs.Tryz.prog K8 K9:=ag (by kernel_rfl)
abbrev oK:FuncId:=55
def wY:aP:=⟨7,⟨true,SBs⟩,[],
 (so [cb 4 1,oo 5 (.not 4)] (.cond 5 (.ops [oo 6 (.yB 28 (ci 1)),on (.panic 6)]) .skip))⟩
theorem c8:az Go.Proofs.Tryz.prog oK wY:=ag (by kernel_rfl)
abbrev CX:FuncId:=56
def La:aP:=⟨12,⟨false,SBs⟩,[(.tmp 4)],
 (so [AN 4 false] (so [cb 5 0,oo 6 (.bin .geq 5 (ci 0)),cb 7 6,abf 7 true 8 0,abf 7 true 9 1,oh 7 true 10 (.bin .lss 8 9),aa6 11 7 10,cb 4 11] .ret))⟩
theorem IF:az Go.Proofs.Tryz.prog CX La:=ag (by kernel_rfl)
abbrev dH:FuncId:=57
def vO:aP:=⟨30,⟨false,SBs⟩,[(.tmp 2)],
 (so [AN 2 false] (so [wt 3 0] (.seq (so [cb 8 0,oo 9 (.aN 8),i5 10 7 9,aa7 11 4 10,wt 12 0] (.block 0 (.loop (so [oo 13 (.bin .lss 12 (ci 4))] (.seq (.cond 13 .skip (.exit 0)) (.seq (.block 1 (so [oo 14 (.BE false 4 1 11 12),cb 5 14] (so [cb 15 5,Js 16 15,wt 17 0] (.block 2 (.loop (so [abb 18 17 16] (.seq (.cond 18 .skip (.exit 2)) (.seq (.block 3 (so [aa8 19 3 15 17,aa7 20 3 19,oo 7 (.alloc [abm,.nil,.nil]),aa9 3 7 20] (.ops [cb 21 3,i5 22 2 7,cf 23 22,Js 24 23,oo 25 (.bin .add 21 24),cb 3 25]))) (.ops [ON 26 17 1,cb 17 26]))))))))) (.ops [ON 27 12 1,cb 12 27]))))))) (so [cb 28 3,oo 29 (.bin .gtr 28 (ci 1000)),cb 2 29] .ret))))⟩
theorem uG:az Go.Proofs.Tryz.prog dH vO:=ag (by kernel_rfl)
abbrev nF:FuncId:=58
def Lc:aP:=⟨18,⟨false,SBs⟩,[(.tmp 6)],
 (so [abl 3 0,wt 6 0] (.seq (so [cb 7 2,oo 8 (.not 7)] (.cond 8 (so [wt 6 0] .ret) .skip)) (.seq (so [i5 9 0 3,cf 10 9] (.block 0 (.seq (so [i9 12 10 1,cb 11 12] (.cond 11 .skip (so [i9 13 10 5,cb 11 13] (.cond 11 .skip (.ops [i9 14 10 7,cb 11 14]))))) (.cond 11 (so [cb 15 1,ON 16 15 1,abh 17 91 [16],cb 6 17] .ret) .skip)))) (so [wt 6 1] .ret))))⟩
theorem IG:az Go.Proofs.Tryz.prog nF Lc:=ag (by kernel_rfl)
abbrev vP:FuncId:=59
def Ld:aP:=⟨10,⟨true,SBs⟩,[(.tmp 2)],
 (so [abl 1 0,oo 2 (.mov (.c .nil))] (.seq (.draw 2 [⟨i5 3 1 1,[],false⟩,⟨cf 4 3,[0],false⟩,⟨abj 5 50 [4],[1],true⟩,⟨i5 6 7 1,[],false⟩,⟨cf 7 6,[3],false⟩,⟨oo 8 (.bf 1 1 [abm] [(0,7)]),[4],false⟩,⟨oo 9 (.app true 1 8 5 8),[2,5,2],true⟩,⟨cb 2 9,[6,6,0,1,2,3,4,5,6],false⟩]) .ret))⟩
theorem II:az Go.Proofs.Tryz.prog vP Ld:=ag (by kernel_rfl)
abbrev zG:FuncId:=60
def IJ:aP:=⟨15,⟨false,SBs⟩,[(.tmp 2)],
 (so [AN 2 false] (.seq (so [cb 5 0,Js 6 5,wt 7 0] (.block 0 (.loop (so [abb 8 7 6] (.seq (.cond 8 .skip (.exit 0)) (.seq (.block 1 (so [aa8 9 1 5 7,cf 10 9,cb 4 10] (so [cb 11 4,abh 12 106 [11],oo 13 (.not 12)] (.cond 13 (so [AN 2 false] .ret) .skip)))) (.ops [ON 14 7 1,cb 7 14]))))))) (so [AN 2 true] .ret)))⟩
theorem GR:az Go.Proofs.Tryz.prog zG IJ:=ag (by kernel_rfl)
abbrev Ff:FuncId:=61
def OS:aP:=⟨12,⟨false,SBs⟩,[(.tmp 4)],
 (so [AN 4 false] (so [cb 5 0,i9 6 5 (-1),cb 7 6,abf 7 false 8 0,abf 7 false 9 1,oh 7 false 10 (.call 56 [8,9]),Pe 11 7 10,cb 4 11] .ret))⟩
theorem Le:az Go.Proofs.Tryz.prog Ff OS:=ag (by kernel_rfl)
abbrev oL:FuncId:=62
def wZ:aP:=⟨14,⟨false,SBs⟩,[],
 (so [cb 5 0,Js 6 5,cb 4 6] (.ops [cb 7 0,cb 8 4,cb 9 4,oo 10 (.conv .u64 9),abh 11 108 [10],cb 12 1,oo 13 (.call 107 [7,(ci 0),8,11,12])]))⟩
theorem vQ:az Go.Proofs.Tryz.prog oL wZ:=ag (by kernel_rfl)
abbrev cG:FuncId:=63
def sS:aP:=⟨13,⟨false,SBs⟩,[(.tmp 4)],
 (so [wt 4 0] (.seq (.block 0 (so [cb 6 0,cb 7 1,abh 8 16 [6,7],cb 5 8] (.cond 5 (so [wt 4 (-1)] .ret) (so [cb 10 1,cb 11 0,abh 12 16 [10,11],cb 9 12] (.cond 9 (so [wt 4 1] .ret) .skip))))) (so [wt 4 0] .ret)))⟩
theorem rZ:az Go.Proofs.Tryz.prog cG sS:=ag (by kernel_rfl)
abbrev qd:FuncId:=64
def yY:aP:=⟨20,⟨false,SBs⟩,[(.tmp 2)],
 (so [AN 2 false] (.seq (so [wt 3 1] (.block 0 (.loop (.seq (so [cb 4 3,cb 5 0,Js 6 5,abb 7 4 6] (.cond 7 .skip (.exit 0))) (.seq (.block 1 (so [cb 10 0,cb 11 3,aa8 12 1 10 11,cf 13 12,cb 14 0,cb 15 3,oo 16 (.bin .sub 15 (ci 1)),aa8 17 1 14 16,cf 18 17,oo 19 (.bin .leq 13 18)] (.cond 19 (so [AN 2 false] .ret) .skip))) (.ops [cb 8 3,ON 9 8 1,cb 3 9])))))) (so [AN 2 true] .ret)))⟩
theorem xe:az Go.Proofs.Tryz.prog qd yY:=ag (by kernel_rfl)
abbrev vR:FuncId:=65
def Lh:aP:=⟨26,⟨false,SBs⟩,[(.cell 4 true 3),(.tmp 5),(.tmp 6)],
 (so [abl 2 0,abl 3 1,oo 4 (.alloc [abm,.nil,.nil]),wt 5 0,AN 6 false] (so [i5 10 1 2,cf 11 10,i5 12 2 3,cf 13 12,abh 14 109 [11,13],cb 9 14,abk 15 9 0,abk 16 9 1,cb 7 15,cb 8 16] (.seq (so [cb 17 8,oo 18 (.not 17)] (.cond 18 (so [aa7 19 3 2,aa9 3 4 19,wt 5 0,AN 6 false] .ret) .skip)) (.seq (.draw 1 [⟨aa7 20 3 2,[],false⟩,⟨i5 21 2 2,[],false⟩,⟨cf 22 21,[1],false⟩,⟨cb 23 7,[],false⟩,⟨aa8 24 1 22 23,[2,3],false⟩,⟨cf 25 24,[4],false⟩,⟨aa9 3 4 20,[0,0],true⟩,⟨cb 5 25,[5,6,0,1,2,3,4,5,6],false⟩,⟨AN 6 true,[7,0,1,2,3,4,5,6,7],false⟩]) .ret))))⟩
theorem sT:az Go.Proofs.Tryz.prog vR Lh:=ag (by kernel_rfl)
abbrev vS:FuncId:=66
def Lj:aP:=⟨34,⟨false,SBs⟩,[(.cell 4 true 3),(.tmp 5),(.tmp 6)],
 (so [abl 2 0,abl 3 1,oo 4 (.alloc [abm,.nil,.nil]),wt 5 0,AN 6 false] (so [i5 10 1 2,cf 11 10,i5 12 2 3,cf 13 12,abh 14 109 [11,13],cb 9 14,abk 15 9 0,abk 16 9 1,cb 7 15,cb 8 16] (.seq (so [cb 17 8] (.cond 17 (so [aa7 18 3 2,aa9 3 4 18,wt 5 0,AN 6 false] .ret) .skip)) (so [i5 19 0 2,cf 20 19,i5 21 1 2,cf 22 21,cb 23 7,i5 24 2 3,cf 25 24,abh 26 110 [22,23,25],i5 27 2 2,cf 28 27,cb 29 7,i5 30 3 3,cf 31 30,abh 32 110 [28,29,31],oo 33 (.build [abm,.nil,.nil] [(0,(1,20)),(1,(1,26)),(2,(1,32))]),aa9 3 4 33,wt 5 0,AN 6 true] .ret))))⟩
theorem oM:az Go.Proofs.Tryz.prog vS Lj:=ag (by kernel_rfl)
abbrev vT:FuncId:=67
def Ll:aP:=⟨31,⟨false,SBs⟩,[(.cell 4 true 3),(.tmp 5),(.tmp 6)],
 (so [abl 2 0,abl 3 1,oo 4 (.alloc [abm,.nil,.nil]),wt 5 0,AN 6 false] (so [i5 10 1 2,cf 11 10,i5 12 2 3,cf 13 12,abh 14 109 [11,13],cb 9 14,abk 15 9 0,abk 16 9 1,cb 7 15,cb 8 16] (.seq (so [cb 17 8,oo 18 (.not 17)] (.cond 18 (so [aa7 19 3 2,aa9 3 4 19,wt 5 0,AN 6 false] .ret) .skip)) (so [i5 20 0 2,cf 21 20,i5 22 1 2,cf 23 22,cb 24 7,abh 25 111 [23,24],i5 26 2 2,cf 27 26,cb 28 7,abh 29 111 [27,28],oo 30 (.build [abm,.nil,.nil] [(0,(1,21)),(1,(1,25)),(2,(1,29))]),aa9 3 4 30,wt 5 0,AN 6 true] .ret))))⟩
theorem oN:az Go.Proofs.Tryz.prog vT Ll:=ag (by kernel_rfl)
abbrev sU:FuncId:=68
def IK:aP:=⟨15,⟨false,SBs⟩,[(.cell 4 true 3),(.tmp 5),(.tmp 6)],
 (so [abl 2 0,abl 3 1,oo 4 (.alloc [abm,.nil,.nil]),wt 5 0,AN 6 false] (so [i5 7 0 2,cf 8 7,i5 9 2 2,cf 10 9,i5 11 2 3,cf 12 11,oo 13 (.call 110 [10,(ci 0),12]),oo 14 (.build [abm,.nil,.nil] [(0,(1,8)),(2,(1,13))]),aa9 3 4 14,wt 5 0,AN 6 true] .ret))⟩
theorem xg:az Go.Proofs.Tryz.prog sU IK:=ag (by kernel_rfl)
abbrev mW:FuncId:=69
def GU:aP:=⟨23,⟨false,[76,118,119,169,117,164,165,166,167,168,170,186,187,204,205,206,214,215,216,217,218,223,224,228,229,121,124,125,126,127,128,189,191,193,192,207,172,78,79,131,195,208,196,199,130,175,176,177,173,83,53,54,89,55,135,136,137,138,139,140,141,143,144,145,22,25,26,27,28,29,30,31,32,35,57,23,62]⟩,[(.cell 4 true 3),(.tmp 5),(.tmp 6)],
 (so [abl 2 0,abl 3 1,oo 4 (.alloc [abm,.nil,.nil]),wt 5 0,AN 6 false] (.seq (so [i5 7 2 2,cf 8 7,Js 9 8,i9 10 9 0] (.cond 10 (so [aa7 11 3 2,aa9 3 4 11,wt 5 0,AN 6 false] .ret) .skip)) (.seq (.draw 1 [⟨i5 12 0 2,[],false⟩,⟨cf 13 12,[0],false⟩,⟨i5 14 2 2,[],false⟩,⟨cf 15 14,[2],false⟩,⟨oo 16 (.sl 1 15 (some (ci 1)) none),[3],false⟩,⟨abh 17 50 [16],[4],false⟩,⟨oo 18 (.build [abm,.nil,.nil] [(0,(1,13)),(2,(1,17))]),[1,5],false⟩,⟨i5 19 2 2,[],false⟩,⟨cf 20 19,[7],false⟩,⟨oo 21 (.idx 1 20 (ci 0)),[8],false⟩,⟨cf 22 21,[9],false⟩,⟨aa9 3 4 18,[6,5,0,1,2,3,4,5,6],true⟩,⟨cb 5 22,[10,11,0,1,2,3,4,5,6,7,8,9,10,11],false⟩,⟨AN 6 true,[12,0,1,2,3,4,5,6,7,8,9,10,11,12],false⟩]) .ret)))⟩
theorem fO:az Go.Proofs.Tryz.prog mW GU:=ag (by kernel_rfl)
abbrev sV:FuncId:=70
def IL:aP:=⟨18,⟨false,SBs⟩,[(.cell 4 true 3),(.tmp 5),(.tmp 6)],
 (so [abl 2 0,abl 3 1,oo 4 (.alloc [abm,.nil,.nil]),wt 5 0,AN 6 false] (so [i5 7 0 2,cf 8 7,i5 9 2 2,cf 10 9,i5 11 2 2,cf 12 11,Js 13 12,i5 14 2 3,cf 15 14,abh 16 110 [10,13,15],oo 17 (.build [abm,.nil,.nil] [(0,(1,8)),(2,(1,16))]),aa9 3 4 17,wt 5 0,AN 6 true] .ret))⟩
theorem xi:az Go.Proofs.Tryz.prog sV IL:=ag (by kernel_rfl)
abbrev oO:FuncId:=73
def zH:aP:=⟨53,⟨false,SBs⟩,[(.tmp 2),(.tmp 3)],
 (so [oo 2 (.mov (.c .nil)),wt 3 0] (.seq (so [cb 11 0,oo 12 (.len true 11),oo 13 (.bin .gtr 12 (ci 4000))] (.cond 13 (so [oo 2 (.mov (.c .nil)),wt 3 2] .ret) .skip)) (so [oo 14 (.build [abm,.nilFunc] [(0,(1,(ci 1))),(1,(1,(.c (.func 112))))]),oo 15 (.build [abm,.nilFunc] [(0,(1,(ci 2))),(1,(1,(.c (.func 113))))]),oo 16 (.build [abm,.nilFunc] [(0,(1,(ci 3))),(1,(1,(.c (.func 114))))]),oo 17 (.bf 2 3 [abm,.nilFunc] [(0,14),(1,15),(2,16)]),cb 4 17] (so [oo 5 (.mov (.c .nil))] (so [wt 6 0] (.seq (so [cb 18 0,oo 19 (.rng 18)] (.block 0 (.loop (so [oo 20 (.nxt 19),abk 21 20 0] (.seq (.cond 21 .skip (.exit 0)) (.block 1 (so [abk 22 20 1,abk 23 20 2,cb 7 22,cb 8 23] (.seq (so [cb 24 7,cb 25 6,abb 26 24 25,cb 27 26,abf 27 false 28 8,oh 27 false 29 (.call 115 [28]),Pe 30 27 29] (.cond 30 (.exit 1) .skip)) (so [cb 32 4,cb 33 0,cb 34 7,oo 35 (.rL 33 (some 34) none),abh 36 116 [32,35],cb 31 36,abk 37 31 0,abk 38 31 1,oo 9 (.alloc [abm,abn,abm,abm]),aa9 4 9 37,cb 10 38] (.seq (so [cb 39 10,oo 40 (.not 39)] (.cond 40 (so [oo 2 (.mov (.c .nil)),wt 3 3] .ret) .skip)) (so [cb 41 7,i5 42 3 9,aa9 1 42 41] (so [cb 43 5,aa7 44 4 9,oo 45 (.bf 4 1 [abm,abn,abm,abm] [(0,44)]),oo 46 (.app false 4 40 43 45),cb 5 46] (.ops [cb 47 7,i5 48 1 9,cf 49 48,oo 50 (.len true 49),oo 51 (.bin .add 47 50),cb 6 51]))))))))))))) (so [cb 52 5,cb 2 52,wt 3 0] .ret)))))))⟩
theorem rj:az Go.Proofs.Tryz.prog oO zH:=ag (by kernel_rfl)
abbrev va:FuncId:=74
def vd:aP:=⟨30,⟨false,SBs⟩,[(.tmp 2)],
 (so [wt 2 0] (so [wt 3 0,wt 4 0] (.seq (so [cb 7 0,Js 8 7,wt 9 0] (.block 0 (.loop (so [abb 10 9 8] (.seq (.cond 10 .skip (.exit 0)) (.seq (.block 1 (so [aa8 11 4 7 9,aa7 12 4 11,oo 6 (.alloc [abm,abn,abm,abm]),aa9 4 6 12] (.seq (so [i5 13 1 6,cf 14 13] (.block 2 (.seq (so [oo 16 (.bin .eql 14 (.c (.str [40]))),cb 15 16] (.cond 15 .skip (.ops [oo 17 (.bin .eql 14 (.c (.str [123]))),cb 15 17]))) (.cond 15 (.ops [cb 18 3,ON 19 18 1,cb 3 19]) (.seq (so [oo 21 (.bin .eql 14 (.c (.str [41]))),cb 20 21] (.cond 20 .skip (.ops [oo 22 (.bin .eql 14 (.c (.str [125]))),cb 20 22]))) (.cond 20 (.ops [cb 23 3,oo 24 (.bin .sub 23 (ci 1)),cb 3 24]) .skip)))))) (.ops [cb 25 4,cb 26 3,oo 27 (.mm true 25 26),cb 4 27])))) (.ops [ON 28 9 1,cb 9 28]))))))) (so [cb 29 4,cb 2 29] .ret))))⟩
theorem CY:az Go.Proofs.Tryz.prog va vd:=ag (by kernel_rfl)
abbrev xj:FuncId:=75
def xl:yS:=⟨5,⟨false,SBs⟩,2,[oo 3 (.eqi true 2)],
 (.cond 3 (.ops [oo 4 (.build [.nil,.nil,.nil] []),aa9 3 0 4,on (.store 1 1 (ci 3))]) .skip)⟩
theorem Es:rP Go.Proofs.Tryz.prog xj xl:=by unfold rP;kernel_rfl
abbrev jz:FuncId:=76
def jA:aP:=⟨49,⟨false,SBs⟩,[(.cell 2 true 3)],
 (so [oo 2 (.alloc [.nil,.nil,.nil])] (so [oo 3 (.alloc [.nil,.nil,.nil])] (.seq (.block 0 (.loop (.seq (so [cb 4 0,oo 5 (.aN 4),i5 6 1 5,cf 7 6,cb 8 0,oo 9 (.aN 8),i5 10 0 9,cf 11 10,Js 12 11,abb 13 7 12,cb 14 13,abf 14 true 15 0,oh 14 true 16 (.sub 117 [15]),oh 14 true 17 (.bin .neq 16 (.c (.str [102,117,110,99]))),aa6 18 14 17] (.cond 18 .skip (.exit 0))) (.block 1 (.draw 3 [⟨i5 19 0 3,[],false⟩,⟨cf 20 19,[0],false⟩,⟨cb 21 0,[],false⟩,⟨abj 22 118 [21],[2],true⟩,⟨oo 23 (.bf 3 1 [abm,abn,abm] [(0,22)]),[3],false⟩,⟨oo 24 (.app false 3 32 20 23),[1,4,3],true⟩,⟨i5 25 0 3,[0,1,2,3,4,5],false⟩,⟨aa9 1 25 24,[6,5,5,0,1,2,3,4,5],true⟩]))))) (.seq (.block 2 (.loop (.seq (so [cb 26 0,oo 27 (.aN 26),i5 28 1 27,cf 29 28,cb 30 0,oo 31 (.aN 30),i5 32 0 31,cf 33 32,Js 34 33,abb 35 29 34] (.cond 35 .skip (.exit 2))) (.block 3 (.draw 3 [⟨i5 36 1 3,[],false⟩,⟨cf 37 36,[0],false⟩,⟨cb 38 0,[],false⟩,⟨abj 39 119 [38],[2],true⟩,⟨oo 40 (.bf 3 1 [abn,.nil,abm] [(0,39)]),[3],false⟩,⟨oo 41 (.app false 3 48 37 40),[1,4,3],true⟩,⟨i5 42 1 3,[0,1,2,3,4,5],false⟩,⟨aa9 1 42 41,[6,5,5,0,1,2,3,4,5],true⟩]))))) (so [cb 43 0,oo 44 (.aN 43),i5 45 2 44,cf 46 45,i5 47 2 3,aa9 1 47 46] (so [aa7 48 3 3,aa9 3 2 48] .ret))))))⟩
theorem qe:az Go.Proofs.Tryz.prog jz jA:=ag (by kernel_rfl)
abbrev zI:FuncId:=77
def zJ:aP:=⟨75,⟨false,[76,118,119,169,117,164,165,166,167,168,170,186,187,204,205,206,214,215,216,217,218,223,224,228,229,121,124,125,126,127,128,189,191,193,192,207,172,78,79,131,195,208,196,199,130,175,176,177,173,50,83,53,54,89,55,135,136,137,138,139,140,141,143,144,145,22,25,26,27,28,29,30,31,32,35,57,23,62,1000001]⟩,[(.tmp 2)],
 (so [abl 1 0,wt 2 0] (.seq (so [aa7 11 3 1,abh 12 120 [11],oo 13 (.not 12)] (.cond 13 (so [wt 2 1] .ret) .skip)) (.seq (.draw 4 [⟨aa7 14 3 1,[],false⟩,⟨aa7 15 3 1,[],false⟩,⟨abj 16 121 [15],[1],true⟩,⟨oo 17 (.kN none),[],true⟩,⟨aa7 18 3 1,[],false⟩,⟨abh 19 122 [18],[4,2],false⟩,⟨aa7 20 3 1,[],false⟩,⟨abh 21 123 [20],[6,5],false⟩,⟨oo 22 (.build [.nil,.nil,.nil,.cv,.cv,.nil,.nil] [(0,(3,14)),(3,(1,16)),(4,(1,17)),(5,(1,19)),(6,(1,21))]),[0,2,3,5,7],false⟩,⟨oo 3 (.alloc [.nil,.nil,.nil,.cv,.cv,.nil,.nil]),[],true⟩,⟨aa9 7 3 22,[9,8,7,0,1,2,3,4,5,6,7,8,9],true⟩]) (.seq (so [i5 23 1 1,cf 24 23,Js 25 24,wt 26 0] (.block 0 (.loop (so [abb 27 26 25] (.seq (.cond 27 .skip (.exit 0)) (.seq (.block 1 (so [cb 28 26,aa8 29 3 24 26,aa7 30 3 29,oo 5 (.alloc [abn,.nil,abm]),cb 4 28,aa9 3 5 30] (so [i5 32 4 3,cf 33 32,i5 34 0 5,cf 35 34,oo 36 (.lkp true none abm 33 35),cb 31 36,abk 37 31 0,abk 38 31 1,cb 6 37,cb 7 38] (so [cb 39 7,oo 40 (.not 39)] (.cond 40 (.ops [i5 41 4 3,cf 42 41,i5 43 0 5,cf 44 43,cb 45 4,on (.oC none 42 44 45)]) .skip))))) (.ops [ON 46 26 1,cb 26 46]))))))) (so [aa7 47 7 3,oo 48 (.kl 124 [47] []),oo 49 (.build [.nilFunc,abm] [(0,(1,48)),(1,(1,(ci 2)))]),aa7 50 7 3,oo 51 (.kl 125 [50] []),oo 52 (.build [.nilFunc,abm] [(0,(1,51)),(1,(1,(ci 5)))]),aa7 53 7 3,oo 54 (.kl 126 [53] []),oo 55 (.build [.nilFunc,abm] [(0,(1,54)),(1,(1,(ci 4)))]),aa7 56 7 3,oo 57 (.kl 127 [56] []),oo 58 (.build [.nilFunc,abm] [(0,(1,57)),(1,(1,(ci 6)))]),aa7 59 7 3,oo 60 (.kl 128 [59] []),oo 61 (.build [.nilFunc,abm] [(0,(1,60)),(1,(1,(ci 7)))]),oo 62 (.yD 5 [.nilFunc,abm,.nilFunc,abm,.nilFunc,abm,.nilFunc,abm,.nilFunc,abm] [(0,(2,49)),(2,(2,52)),(4,(2,55)),(6,(2,58)),(8,(2,61))]),cb 8 62] (.seq (so [cb 63 8,Js 64 63,wt 65 0] (.block 2 (.loop (so [abb 66 65 64] (.seq (.cond 66 .skip (.exit 2)) (.seq (.block 3 (so [aa8 67 2 63 65,aa7 68 2 67,oo 10 (.alloc [.nilFunc,abm]),aa9 2 10 68] (so [i5 69 0 10,cf 70 69,oo 71 (.fF 70 [])] (.cond 71 (so [i5 72 1 10,cf 73 72,cb 2 73] .ret) .skip)))) (.ops [ON 74 65 1,cb 65 74]))))))) (so [wt 2 0] .ret)))))))⟩
theorem GV:az Go.Proofs.Tryz.prog zI zJ:=ag (by kernel_rfl)
abbrev qf:FuncId:=78
def qg:aP:=⟨99,⟨false,SBs⟩,[(.cell 2 true 4)],
 (so [abl 1 0,oo 2 (.alloc [.cv,.cv,.cv,.nil])] (so [oo 13 (.kN none),oo 14 (.kN none),oo 15 (.kN none),oo 16 (.build [.cv,.cv,.cv,.nil] [(0,(1,13)),(1,(1,14)),(2,(1,15))]),oo 3 (.alloc [.cv,.cv,.cv,.nil]),aa9 4 3 16] (so [oo 17 (.kN (some .i64)),cb 4 17] (.seq (so [i5 18 0 1,cf 19 18,Js 20 19,wt 21 0] (.block 0 (.loop (so [abb 22 21 20] (.seq (.cond 22 .skip (.exit 0)) (.seq (.block 1 (so [aa8 23 3 19 21,aa7 24 3 23,oo 6 (.alloc [abm,abn,abm]),aa9 3 6 24] (so [i5 25 0 3,cf 26 25,i5 27 1 6,cf 28 27,i5 29 0 6,cf 30 29,cb 31 4,i5 32 0 6,cf 33 32,oo 34 (.lkp false (some .i64) abm 31 33),oo 35 (.build [abm,abm] [(0,(1,30)),(1,(1,34))]),on (.oC none 26 28 35)] (.ops [cb 36 4,i5 37 0 6,cf 38 37,oo 39 (.lkp false (some .i64) abm 36 38),ON 40 39 1,on (.oC (some .i64) 36 38 40)])))) (.ops [ON 41 21 1,cb 21 41]))))))) (.seq (so [i5 42 1 1,cf 43 42,Js 44 43,wt 45 0] (.block 2 (.loop (so [abb 46 45 44] (.seq (.cond 46 .skip (.exit 2)) (.seq (.block 3 (so [cb 47 45,aa8 48 3 43 45,aa7 49 3 48,oo 8 (.alloc [abn,.nil,abm]),cb 7 47,aa9 3 8 49] (.ops [i5 50 1 3,cf 51 50,i5 52 0 8,cf 53 52,cb 54 7,on (.oC none 51 53 54)]))) (.ops [ON 55 45 1,cb 45 55]))))))) (.seq (so [i5 56 2 1,cf 57 56,Js 58 57,wt 59 0] (.block 4 (.loop (so [abb 60 59 58] (.seq (.cond 60 .skip (.exit 4)) (.seq (.block 5 (so [aa8 61 5 57 59,aa7 62 5 61,oo 10 (.alloc [abm,abm,abn,abn,.nil]),aa9 5 10 62] (.seq (so [i5 63 0 10,cf 64 63,oo 65 (.bin .neq 64 (ci 11))] (.cond 65 (.exit 5) .skip)) (so [i5 67 2 3,cf 68 67,i5 69 3 10,cf 70 69,oo 71 (.lkp true none abm 68 70),cb 66 71,abk 72 66 0,abk 73 66 1,cb 11 72,cb 12 73] (so [cb 74 12,oo 75 (.not 74)] (.cond 75 (so [i5 76 2 3,cf 77 76,i5 78 3 10,cf 79 78,i5 80 1 1,cf 81 80,Js 82 81,i5 83 3 3,cf 84 83,Js 85 84,oo 86 (.bin .add 82 85),on (.oC none 77 79 86)] (.ops [i5 87 3 3,cf 88 87,i5 89 1 3,cf 90 89,i5 91 3 10,cf 92 91,oo 93 (.lkp false none abm 90 92),oo 94 (.bf 1 1 [abm] [(0,93)]),oo 95 (.app false 1 8 88 94),i5 96 3 3,aa9 1 96 95])) .skip)))))) (.ops [ON 97 59 1,cb 59 97]))))))) (so [aa7 98 4 3,aa9 4 2 98] .ret)))))))⟩
theorem xq:az Go.Proofs.Tryz.prog qf qg:=ag (by kernel_rfl)
abbrev nG:FuncId:=79
def sW:aP:=⟨50,⟨false,SBs⟩,[(.cell 6 true 3)],
 (so [abl 3 0,abl 4 1,oo 6 (.alloc [abm,abm,.nil])] (so [i5 12 1 3,cf 13 12,cb 14 2,aa8 15 3 13 14,aa7 16 3 15,oo 7 (.alloc [abn,.nil,abm]),aa9 3 7 16] (so [i5 17 2 3,cf 18 17,aa7 19 4 4,oo 20 (.kN none),oo 21 (.build [.nil,.cv,.cv,.cv,.nil,.cv,.nil] [(0,(1,18)),(1,(4,19)),(5,(1,20))]),oo 8 (.alloc [.nil,.cv,.cv,.cv,.nil,.cv,.nil]),aa9 7 8 21] (so [aa7 22 3 3,cb 23 2,abh 24 129 [22,23],cb 9 24] (.seq (so [cb 25 9,Js 26 25,wt 27 0] (.block 0 (.loop (so [abb 28 27 26] (.seq (.cond 28 .skip (.exit 0)) (.seq (.block 1 (so [cb 29 27,aa8 30 1 25 27,cf 31 30,cb 10 29,cb 11 31] (.ops [i5 32 5 8,cf 33 32,cb 34 11,cb 35 10,on (.oC none 33 34 35)]))) (.ops [ON 36 27 1,cb 27 36]))))))) (so [i5 37 2 7,cf 38 37,abj 39 130 [8,38]] (so [oo 40 (.sub 131 [8,(ci 1),(ci 0),(ci 0),(ci 0)])] (so [oo 41 (.sub 131 [8,(ci 17),(ci 0),(ci 0),(ci 0)])] (so [i5 42 1 7,cf 43 42,Js 44 43,cb 45 9,Js 46 45,i5 47 6 8,cf 48 47,oo 49 (.build [abm,abm,.nil] [(0,(1,44)),(1,(1,46)),(2,(1,48))]),aa9 3 6 49] .ret)))))))))⟩
theorem AH:az Go.Proofs.Tryz.prog nG sW:=ag (by kernel_rfl)
abbrev qh:FuncId:=80
def qi:aP:=⟨40,⟨false,SBs⟩,[(.cell 4 true 3)],
 (so [oo 4 (.alloc [abm,abm,.nil])] (so [oo 5 (.build [abm,abm,abm,abm] [(0,(1,(ci 2))),(1,(1,(ci 0)))]),oo 6 (.build [abm,abm,abm,abm] [(0,(1,(ci 2))),(1,(1,(ci 1)))]),oo 7 (.build [abm,abm,abm,abm] [(0,(1,(ci 9)))]),oo 8 (.build [abm,abm,abm,abm] [(0,(1,(ci 16))),(1,(1,(ci 28)))]),oo 9 (.build [abm,abm,abm,abm] [(0,(1,(ci 2))),(1,(1,(ci 0)))]),oo 10 (.build [abm,abm,abm,abm] [(0,(1,(ci 1))),(1,(1,(ci 1)))]),oo 11 (.build [abm,abm,abm,abm] [(0,(1,(ci 6)))]),oo 12 (.build [abm,abm,abm,abm] [(0,(1,(ci 2))),(1,(1,(ci 1)))]),oo 13 (.build [abm,abm,abm,abm] [(0,(1,(ci 10)))]),oo 14 (.build [abm,abm,abm,abm] [(0,(1,(ci 16))),(1,(1,(ci 14)))]),oo 15 (.build [abm,abm,abm,abm] [(0,(1,(ci 2))),(1,(1,(ci 0)))]),cb 16 0,oo 17 (.build [abm,abm,abm,abm] [(0,(1,(ci 13))),(1,(1,16)),(2,(1,(ci 1))),(3,(1,(ci 3)))]),oo 18 (.build [abm,abm,abm,abm] [(0,(1,(ci 2))),(1,(1,(ci 3)))]),oo 19 (.build [abm,abm,abm,abm] [(0,(1,(ci 17)))]),oo 20 (.build [abm,abm,abm,abm] [(0,(1,(ci 2))),(1,(1,(ci 0)))]),oo 21 (.build [abm,abm,abm,abm] [(0,(1,(ci 2))),(1,(1,(ci 1)))]),oo 22 (.build [abm,abm,abm,abm] [(0,(1,(ci 19)))]),oo 23 (.build [abm,abm,abm,abm] [(0,(1,(ci 3))),(1,(1,(ci 2)))]),oo 24 (.build [abm,abm,abm,abm] [(0,(1,(ci 2))),(1,(1,(ci 0)))]),oo 25 (.build [abm,abm,abm,abm] [(0,(1,(ci 2))),(1,(1,(ci 2)))]),cb 26 1,oo 27 (.build [abm,abm,abm,abm] [(0,(1,(ci 13))),(1,(1,26)),(2,(1,(ci 2))),(3,(1,(ci 3)))]),oo 28 (.build [abm,abm,abm,abm] [(0,(1,(ci 2))),(1,(1,(ci 2)))]),oo 29 (.build [abm,abm,abm,abm] [(0,(1,(ci 2))),(1,(1,(ci 1)))]),cb 30 1,oo 31 (.build [abm,abm,abm,abm] [(0,(1,(ci 13))),(1,(1,30)),(2,(1,(ci 2))),(3,(1,(ci 4)))]),oo 32 (.build [abm,abm,abm,abm] [(0,(1,(ci 2))),(1,(1,(ci 3)))]),oo 33 (.build [abm,abm,abm,abm] [(0,(1,(ci 2))),(1,(1,(ci 4)))]),oo 34 (.build [abm,abm,abm,abm] [(0,(1,(ci 6)))]),oo 35 (.build [abm,abm,abm,abm] [(0,(1,(ci 17)))]),oo 36 (.build [abm,abm,abm,abm] [(0,(1,(ci 1))),(1,(1,(ci 0)))]),oo 37 (.build [abm,abm,abm,abm] [(0,(1,(ci 17)))]),oo 38 (.bf 4 30 [abm,abm,abm,abm] [(0,5),(1,6),(2,7),(3,8),(4,9),(5,10),(6,11),(7,12),(8,13),(9,14),(10,15),(11,17),(12,18),(13,19),(14,20),(15,21),(16,22),(17,23),(18,24),(19,25),(20,27),(21,28),(22,29),(23,31),(24,32),(25,33),(26,34),(27,35),(28,36),(29,37)]),oo 39 (.build [abm,abm,.nil] [(0,(1,(ci 2))),(1,(1,(ci 5))),(2,(1,38))]),aa9 3 4 39] .ret))⟩
theorem xr:az Go.Proofs.Tryz.prog qh qi:=ag (by kernel_rfl)
abbrev eO:FuncId:=81
def oP:aP:=⟨146,⟨true,[76,118,119,169,117,164,165,166,167,168,170,186,187,204,205,206,214,215,216,217,218,223,224,228,229,121,124,125,126,127,128,189,191,193,192,207,172,78,79,131,195,208,196,199,130,175,176,177,173,50,83,53,54,89,55,135,136,137,138,139,140,141,143,144,145,22,25,26,27,28,29,30,31,32,35,57,23,62,1000002]⟩,[(.tmp 4)],
 (so [abl 2 0,oo 4 (.mov (.c .nil))] (.seq (so [cb 16 1,oo 17 (.bin .lss 16 (ci 0)),cb 18 17,abf 18 false 19 1,abe 18 false 20 0 2,abd 18 false 21 20,oh 18 false 22 (.len false 21),oh 18 false 23 (.bin .geq 19 22),Pe 24 18 23,cb 25 24,abe 25 false 26 0 2,abd 25 false 27 26,abf 25 false 28 1,oh 25 false 29 (.idx 3 27 28),abe 25 false 30 2 29,abd 25 false 31 30,oh 25 false 32 (.len false 31),abg 25 false 33 32 0,Pe 34 25 33] (.cond 34 (so [oo 4 (.mov (.c .nil))] .ret) .skip)) (so [i5 35 0 2,cf 36 35,cb 37 1,aa8 38 3 36 37,i5 39 2 38,cf 40 39,cb 5 40] (so [cb 41 5,Js 42 41,oo 43 (.Ax true 1 8 [abm] 42 42),cb 6 43] (.seq (so [cb 44 5,Js 45 44,wt 46 0] (.block 0 (.loop (so [abb 47 46 45] (.seq (.cond 47 .skip (.exit 0)) (.seq (.block 1 (so [cb 48 46,aa8 49 4 44 46,aa7 50 4 49,oo 8 (.alloc [abm,abm,abm,abm]),cb 7 48,aa9 4 8 50] (.seq (so [i5 51 0 8,cf 52 51,oo 53 (.bin .lss 52 (ci 1)),cb 54 53,abe 54 false 55 0 8,abd 54 false 56 55,oh 54 false 57 (.bin .gtr 56 (ci 19)),Pe 58 54 57] (.cond 58 (so [oo 4 (.mov (.c .nil))] .ret) .skip)) (.ops [cb 59 6,cb 60 7,aa8 61 1 59 60,on (.store 1 61 (ci (-1)))])))) (.ops [ON 62 46 1,cb 46 62]))))))) (so [cb 63 6,oo 64 (.idx 1 63 (ci 0)),on (.store 1 64 (ci 0))] (.seq (so [oo 65 (.wh 1 1 [abm] [(0,(ci 0))]),cb 9 65] (.block 2 (.loop (.seq (so [cb 66 9,Js 67 66,oo 68 (.bin .gtr 67 (ci 0))] (.cond 68 .skip (.exit 2))) (.block 3 (so [cb 69 9,cb 70 9,Js 71 70,oo 72 (.bin .sub 71 (ci 1)),aa8 73 1 69 72,cf 74 73,cb 10 74] (so [cb 75 9,cb 76 9,Js 77 76,oo 78 (.bin .sub 77 (ci 1)),oo 79 (.sl 1 75 none (some 78)),cb 9 79] (so [cb 81 5,cb 82 10,aa8 83 4 81 82,aa7 84 4 83,abh 85 132 [84],cb 80 85,abk 86 80 0,abk 87 80 1,cb 11 86,cb 12 87] (.seq (so [cb 88 11,oo 89 (.bin .lss 88 (ci 0)),cb 90 89,abf 90 false 91 11,abf 90 false 92 6,abf 90 false 93 10,oh 90 false 94 (.idx 1 92 93),abd 90 false 95 94,oh 90 false 96 (.bin .gtr 91 95),Pe 97 90 96] (.cond 97 (so [oo 4 (.mov (.c .nil))] .ret) .skip)) (so [cb 98 6,cb 99 10,aa8 100 1 98 99,cf 101 100,cb 102 11,oo 103 (.bin .sub 101 102),cb 104 12,oo 105 (.bin .add 103 104),cb 13 105] (so [cb 106 5,cb 107 10,aa8 108 4 106 107,aa7 109 4 108,cb 110 10,abh 111 133 [109,110],Js 112 111,wt 113 0] (.block 4 (.loop (so [abb 114 113 112] (.seq (.cond 114 .skip (.exit 4)) (.seq (.block 5 (so [aa8 115 1 111 113,cf 116 115,cb 15 116] (.seq (so [cb 117 15,oo 118 (.bin .lss 117 (ci 0)),cb 119 118,abf 119 false 120 15,abf 119 false 121 5,oh 119 false 122 (.len false 121),oh 119 false 123 (.bin .geq 120 122),Pe 124 119 123] (.cond 124 (so [oo 4 (.mov (.c .nil))] .ret) .skip)) (.seq (so [cb 125 6,cb 126 15,aa8 127 1 125 126,cf 128 127,i9 129 128 (-1)] (.cond 129 (so [cb 130 6,cb 131 15,cb 132 13,aa8 133 1 130 131,aa9 1 133 132] (.ops [cb 134 9,cb 135 15,oo 136 (.wh 1 1 [abm] [(0,135)]),oo 137 (.app true 1 8 134 136),cb 9 137])) .skip)) (so [cb 138 6,cb 139 15,aa8 140 1 138 139,cf 141 140,cb 142 13,oo 143 (.bin .neq 141 142)] (.cond 143 (so [oo 4 (.mov (.c .nil))] .ret) .skip)))))) (.ops [ON 144 113 1,cb 113 144]))))))))))))))))) (so [cb 145 6,cb 4 145] .ret))))))))⟩
theorem eA:az Go.Proofs.Tryz.prog eO oP:=ag (by kernel_rfl)
abbrev fK:FuncId:=82
def rT:aP:=⟨68,⟨false,SBs⟩,[(.tmp 6)],
 (so [abl 3 0,abl 4 1,abl 5 2,AN 6 false] (.seq (so [i5 7 0 5,cf 8 7] (.block 0 (so [i9 10 8 1,cb 9 10] (.cond 9 (so [i5 11 1 5,cf 12 11,oo 13 (.call 48 [12,(ci 4294967296)]),cb 6 13] .ret) (.seq (so [i9 15 8 2,cb 14 15] (.cond 14 .skip (.ops [i9 16 8 3,cb 14 16]))) (.cond 14 (so [i5 17 1 5,cf 18 17,i5 19 1 4,cf 20 19,abh 21 48 [18,20],cb 6 21] .ret) (.seq (so [i9 23 8 4,cb 22 23] (.cond 22 .skip (.ops [i9 24 8 5,cb 22 24]))) (.cond 22 (so [i5 25 1 5,cf 26 25,i5 27 1 3,cf 28 27,Js 29 28,abh 30 48 [26,29],cb 6 30] .ret) (so [i9 32 8 11,cb 31 32] (.cond 31 (so [aa7 33 6 3,aa7 34 4 5,abh 35 134 [33,34],cb 6 35] .ret) (so [i9 37 8 13,cb 36 37] (.cond 36 (so [i5 38 1 5,cf 39 38,i5 40 0 3,cf 41 40,Js 42 41,abh 43 48 [39,42],cb 44 43,abe 44 true 45 2 5,abd 44 true 46 45,abe 44 true 47 0 3,abd 44 true 48 47,abe 44 true 49 1 5,abd 44 true 50 49,oh 44 true 51 (.idx 3 48 50),abe 44 true 52 0 51,abd 44 true 53 52,oh 44 true 54 (.bin .eql 46 53),aa6 55 44 54,cb 56 55,abe 56 true 57 3 5,abd 56 true 58 57,abg 56 true 59 58 (-1),abf 56 true 60 59,abe 60 false 61 3 5,abd 60 false 62 61,abe 60 false 63 1 4,abd 60 false 64 63,oh 60 false 65 (.call 48 [62,64]),oh 56 true 66 (.pick 60 abo 65),aa6 67 56 66,cb 6 67] .ret) .skip)))))))))))) (so [AN 6 true] .ret)))⟩
theorem bM:az Go.Proofs.Tryz.prog fK rT:=ag (by kernel_rfl)
abbrev fL:FuncId:=83
def rU:aP:=⟨8,⟨true,[76,118,119,169,117,164,165,166,167,168,170,186,187,204,205,206,214,215,216,217,218,223,224,228,229,121,124,125,126,127,128,189,191,193,192,207,172,78,79,131,195,208,196,199,130,175,176,177,173,50,83,53,54,89,55,135,136,137,138,139,140,141,143,144,145,22,25,26,27,28,29,30,31,32,35,57,23,62,1000002]⟩,[(.tmp 2)],
 (so [oo 2 (.mov (.c .nil))] (.seq (so [cb 3 0,oo 4 (.eqn false 3)] (.cond 4 (so [oo 2 (.mov (.c .nil))] .ret) .skip)) (so [oo 5 (.wh 2 0 [abm,abm] []),cb 6 0,oo 7 (.app true 2 16 5 6),cb 2 7] .ret)))⟩
theorem qj:az Go.Proofs.Tryz.prog fL rU:=ag (by kernel_rfl)
abbrev Fg:FuncId:=84
def OT:aP:=⟨15,⟨true,SBs⟩,[],
 (so [abl 3 1] (so [cb 4 0,i5 5 1 3,cf 6 5,abh 7 106 [6],abj 8 55 [4,7]] (so [cb 9 0,i5 10 1 3,cf 11 10,abj 12 135 [9,11]] (.ops [cb 13 0,abj 14 136 [13]]))))⟩
theorem Lm:az Go.Proofs.Tryz.prog Fg OT:=ag (by kernel_rfl)
abbrev CZ:FuncId:=85
def Ln:aP:=⟨21,⟨true,SBs⟩,[],
 (so [abl 3 1] (.seq (so [cb 4 0,i5 5 1 3,cf 6 5,abj 7 137 [4,6]] (.cond 7 .ret .skip)) (so [cb 8 0,cb 9 0,oo 10 (.aN 9),i5 11 9 10,i5 12 4 11,cf 13 12,i5 14 1 3,cf 15 14,aa8 16 1 13 15,cf 17 16,abj 18 135 [8,17]] (.ops [cb 19 0,abj 20 136 [19]]))))⟩
theorem IP:az Go.Proofs.Tryz.prog CZ Ln:=ag (by kernel_rfl)
abbrev IQ:FuncId:=86
def Rm:aP:=⟨20,⟨true,SBs⟩,[],
 (so [abl 3 1] (.seq (so [cb 4 0,i5 5 1 3,cf 6 5,abj 7 137 [4,6]] (.cond 7 .ret .skip)) (.seq (.draw 2 [⟨cb 8 0,[],false⟩,⟨oo 9 (.aN 8),[0],false⟩,⟨i5 10 9 9,[1],false⟩,⟨i5 11 4 10,[2],false⟩,⟨cf 12 11,[3],false⟩,⟨i5 13 1 3,[],false⟩,⟨cf 14 13,[5],false⟩,⟨cb 15 0,[],false⟩,⟨abj 16 138 [15],[7],true⟩,⟨aa8 17 1 12 14,[4,6,0,1,2,3,4,5,6,7,8],false⟩,⟨aa9 1 17 16,[9,8,8,0,1,2,3,4,5,6,7,8],true⟩]) (.ops [cb 18 0,abj 19 136 [18]]))))⟩
theorem OU:az Go.Proofs.Tryz.prog IQ Rm:=ag (by kernel_rfl)
abbrev Fh:FuncId:=87
def OV:aP:=⟨23,⟨true,SBs⟩,[],
 (so [abl 3 1] (so [cb 4 0,i5 5 1 3,cf 6 5,cb 7 0,oo 8 (.aN 7),i5 9 0 8,i5 10 1 9,cf 11 10,Js 12 11,abh 13 56 [6,12],abj 14 55 [4,13]] (so [cb 15 0,abj 16 136 [15]] (.ops [cb 17 0,i5 18 1 3,cf 19 18,oo 20 (.build [abm,abm,abm,abm,abm,abm,abm,.nil] [(0,(1,(ci 1))),(1,(1,19))]),oo 21 (.aN 17),i5 22 19 21,aa9 8 22 20]))))⟩
theorem Lq:az Go.Proofs.Tryz.prog Fh OV:=ag (by kernel_rfl)
abbrev C0:FuncId:=88
def Lr:aP:=⟨27,⟨true,SBs⟩,[],
 (so [abl 3 1] (so [cb 5 0,i5 6 1 3,cf 7 6,cb 8 0,oo 9 (.aN 8),i5 10 0 9,i5 11 1 10,cf 12 11,Js 13 12,abh 14 56 [7,13],abj 15 55 [5,14]] (so [cb 16 0,abj 17 138 [16],cb 4 17] (so [cb 18 0,abj 19 136 [18]] (.ops [cb 20 0,i5 21 1 3,cf 22 21,cb 23 4,oo 24 (.build [abm,abm,abm,abm,abm,abm,abm,.nil] [(0,(1,(ci 2))),(1,(1,22)),(2,(1,23))]),oo 25 (.aN 20),i5 26 19 25,aa9 8 26 24])))))⟩
theorem IR:az Go.Proofs.Tryz.prog C0 Lr:=ag (by kernel_rfl)
abbrev IU:FuncId:=89
def IV:aP:=⟨4,⟨true,SBs⟩,[(.tmp 2)],
 (so [abl 1 0,oo 2 (.mov (.c .nilFunc))] (so [oo 3 (.kl 139 [] [1]),cb 2 3] .ret))⟩
theorem GX:az Go.Proofs.Tryz.prog IU IV:=ag (by kernel_rfl)
abbrev xw:FuncId:=90
def GY:aP:=⟨9,⟨true,SBs⟩,[(.tmp 4)],
 (so [wt 4 0] (so [cb 5 0,cb 6 1,oo 7 (.bin .add 5 6),abh 8 91 [7],cb 4 8] .ret))⟩
theorem ve:az Go.Proofs.Tryz.prog xw GY:=ag (by kernel_rfl)
abbrev Fj:FuncId:=91
def OW:aP:=⟨5,⟨false,SBs⟩,[(.tmp 2)],
 (so [wt 2 0] (so [cb 3 0,oo 4 (.bin .and 3 (ci 4294967295)),cb 2 4] .ret))⟩
theorem Ls:az Go.Proofs.Tryz.prog Fj OW:=ag (by kernel_rfl)
abbrev xy:FuncId:=92
def GZ:aP:=⟨9,⟨true,SBs⟩,[(.tmp 4)],
 (so [wt 4 0] (so [cb 5 0,cb 6 1,oo 7 (.bin .sub 5 6),abh 8 91 [7],cb 4 8] .ret))⟩
theorem vf:az Go.Proofs.Tryz.prog xy GZ:=ag (by kernel_rfl)
abbrev xA:FuncId:=93
def G0:aP:=⟨9,⟨true,SBs⟩,[(.tmp 4)],
 (so [wt 4 0] (so [cb 5 0,cb 6 1,oo 7 (.bin .mul 5 6),abh 8 91 [7],cb 4 8] .ret))⟩
theorem vg:az Go.Proofs.Tryz.prog xA G0:=ag (by kernel_rfl)
abbrev xB:FuncId:=94
def G1:aP:=⟨9,⟨true,SBs⟩,[(.tmp 4)],
 (so [wt 4 0] (so [cb 5 0,cb 6 1,abb 7 5 6,abh 8 95 [7],cb 4 8] .ret))⟩
theorem vh:az Go.Proofs.Tryz.prog xB G1:=ag (by kernel_rfl)
abbrev C7:FuncId:=95
def Lt:aP:=⟨4,⟨false,SBs⟩,[(.tmp 2)],
 (so [wt 2 0] (.seq (so [cb 3 0] (.cond 3 (so [wt 2 1] .ret) .skip)) (so [wt 2 0] .ret)))⟩
theorem IW:az Go.Proofs.Tryz.prog C7 Lt:=ag (by kernel_rfl)
abbrev xC:FuncId:=96
def G2:aP:=⟨9,⟨true,SBs⟩,[(.tmp 4)],
 (so [wt 4 0] (so [cb 5 0,cb 6 1,oo 7 (.bin .eql 5 6),abh 8 95 [7],cb 4 8] .ret))⟩
theorem vi:az Go.Proofs.Tryz.prog xC G2:=ag (by kernel_rfl)
abbrev Fo:FuncId:=97
def OX:aP:=⟨60,⟨true,SBs⟩,[],
 (so [abl 3 1] (so [cb 9 0,i5 10 1 3,cf 11 10,abj 12 141 [9,11],cb 8 12,abk 13 8 0,abk 14 8 1,cb 4 13,cb 5 14] (so [cb 15 0,i5 16 2 3,cf 17 16,cb 18 4,abh 19 56 [17,18],cb 20 19,abe 20 true 21 3 3,abd 20 true 22 21,abf 20 true 23 5,oh 20 true 24 (.bin .eql 22 23),aa6 25 20 24,abj 26 55 [15,25]] (so [cb 27 0,cb 28 5,abj 29 140 [27,28],oo 30 (.bf 1 2 [abm] [(0,(ci 0)),(1,(ci 0))]),oo 31 (.app true 1 8 29 30),cb 6 31] (.seq (.draw 2 [⟨i5 32 1 3,[],false⟩,⟨cf 33 32,[0],false⟩,⟨i5 34 2 3,[],false⟩,⟨cf 35 34,[2],false⟩,⟨cb 36 6,[],false⟩,⟨oo 37 (.idx 1 36 (ci 0)),[4],false⟩,⟨cf 38 37,[5],false⟩,⟨cb 39 6,[],false⟩,⟨oo 40 (.idx 1 39 (ci 1)),[7],false⟩,⟨cf 41 40,[8],false⟩,⟨oo 42 (.build [abm,abm,abm,abm] [(0,(1,33)),(1,(1,35)),(2,(1,38)),(3,(1,41))]),[1,3,6,9],false⟩,⟨oo 7 (.alloc [abm,abm,abm,abm]),[],true⟩,⟨aa9 4 7 42,[11,10,0,1,2,3,4,5,6,7,8,9,10,11],true⟩]) (.seq (so [i5 43 1 3,cf 44 43] (.block 0 (.seq (so [i9 46 44 1,cb 45 46] (.cond 45 .skip (so [i9 47 44 2,cb 45 47] (.cond 45 .skip (.ops [i9 48 44 3,cb 45 48]))))) (.cond 45 (.ops [i5 49 2 7,cf 50 49,abh 51 142 [50],i5 52 2 7,aa9 1 52 51]) .skip)))) (so [cb 53 0,abj 54 136 [53]] (.ops [cb 55 0,aa7 56 4 7,oo 57 (.build [abm,abm,abm,abm,abm,abm,abm,.nil] [(0,(1,(ci 3))),(3,(4,56))]),oo 58 (.aN 55),i5 59 19 58,aa9 8 59 57]))))))))⟩
theorem Lu:az Go.Proofs.Tryz.prog Fo OX:=ag (by kernel_rfl)
abbrev Fp:FuncId:=98
def OY:aP:=⟨8,⟨true,SBs⟩,[],
 (so [abl 3 1] (so [cb 4 0,abj 5 138 [4]] (.ops [cb 6 0,abj 7 136 [6]])))⟩
theorem Lx:az Go.Proofs.Tryz.prog Fp OY:=ag (by kernel_rfl)
abbrev C9:FuncId:=99
def Ly:aP:=⟨62,⟨true,SBs⟩,[],
 (so [abl 3 1] (so [cb 5 0,i5 6 1 3,cf 7 6,cb 8 0,oo 9 (.aN 8),i5 10 0 9,i5 11 0 10,cf 12 11,Js 13 12,abh 14 56 [7,13],cb 15 14,abe 15 true 16 3 3,abd 15 true 17 16,abf 15 true 18 0,oh 15 true 19 (.aN 18),abe 15 true 20 9 19,abe 15 true 21 4 20,abd 15 true 22 21,oh 15 true 23 (.len false 22),oh 15 true 24 (.call 61 [17,23]),aa6 25 15 24,abj 26 55 [5,25]] (so [cb 27 0,i5 28 2 3,cf 29 28,oo 30 (.bin .geq 29 (ci 0)),cb 31 30,abe 31 true 32 2 3,abd 31 true 33 32,abf 31 true 34 0,oh 31 true 35 (.aN 34),abe 31 true 36 0 35,abe 31 true 37 0 36,abd 31 true 38 37,abe 31 true 39 1 3,abd 31 true 40 39,oh 31 true 41 (.idx 3 38 40),abe 31 true 42 0 41,abd 31 true 43 42,oh 31 true 44 (.bin .eql 33 43),aa6 45 31 44,abj 46 55 [27,45]] (so [cb 47 0,i5 48 2 3,cf 49 48,abj 50 140 [47,49],cb 4 50] (so [cb 51 0,abj 52 136 [51]] (.ops [cb 53 0,i5 54 1 3,cf 55 54,i5 56 3 3,cf 57 56,cb 58 4,oo 59 (.build [abm,abm,abm,abm,abm,abm,abm,.nil] [(0,(1,(ci 4))),(1,(1,55)),(2,(1,57)),(7,(1,58))]),oo 60 (.aN 53),i5 61 19 60,aa9 8 61 59]))))))⟩
theorem IX:az Go.Proofs.Tryz.prog C9 Ly:=ag (by kernel_rfl)
abbrev Fq:FuncId:=100
def OZ:aP:=⟨9,⟨true,SBs⟩,[],
 (so [abl 3 1] (so [cb 4 0,abj 5 143 [4],oo 6 (.not 5)] (.cond 6 (.ops [cb 7 0,abj 8 136 [7]]) .skip)))⟩
theorem LA:az Go.Proofs.Tryz.prog Fq OZ:=ag (by kernel_rfl)
abbrev Ft:FuncId:=101
def O1:aP:=⟨10,⟨true,SBs⟩,[],
 (so [abl 3 1] (.ops [cb 4 0,cb 5 0,i5 6 1 3,cf 7 6,abj 8 145 [5,7],abj 9 144 [4,8]]))⟩
theorem LC:az Go.Proofs.Tryz.prog Ft O1:=ag (by kernel_rfl)
abbrev Fv:FuncId:=102
def O2:aP:=⟨17,⟨true,SBs⟩,[],
 (so [abl 3 1] (so [cb 5 0,i5 6 1 3,cf 7 6,abj 8 145 [5,7],cb 4 8] (.seq (so [cb 9 0,abj 10 138 [9],i9 11 10 0] (.cond 11 (so [cb 12 0,cb 13 4,abj 14 144 [12,13]] .ret) .skip)) (.ops [cb 15 0,abj 16 136 [15]]))))⟩
theorem LD:az Go.Proofs.Tryz.prog Fv O2:=ag (by kernel_rfl)
abbrev IY:FuncId:=103
def Rn:aP:=⟨16,⟨true,SBs⟩,[],
 (so [abl 3 1] (.seq (so [cb 5 0,abj 6 143 [5]] (.cond 6 .ret .skip)) (so [cb 7 0,abj 8 138 [7],cb 4 8] (so [cb 9 0,abj 10 136 [9]] (.ops [cb 11 0,cb 12 4,oo 13 (.build [abm,abm,abm,abm,abm,abm,abm,.nil] [(0,(1,(ci 6))),(1,(1,12))]),oo 14 (.aN 11),i5 15 19 14,aa9 8 15 13])))))⟩
theorem O4:az Go.Proofs.Tryz.prog IY Rn:=ag (by kernel_rfl)
abbrev zK:FuncId:=104
def IZ:aP:=⟨13,⟨true,SBs⟩,[],
 (so [abl 3 1] (.seq (so [cb 4 0,abj 5 138 [4],i9 6 5 0] (.cond 6 (.ops [cb 7 0,oo 8 (.aN 7),i5 9 9 8,i5 10 9 9,on (.store 1 10 abo)]) .skip)) (.ops [cb 11 0,abj 12 136 [11]])))⟩
theorem G3:az Go.Proofs.Tryz.prog zK IZ:=ag (by kernel_rfl)
abbrev xE:FuncId:=105
def G4:aP:=⟨9,⟨true,SBs⟩,[(.tmp 4)],
 (so [wt 4 0] (so [cb 5 0,cb 6 1,oo 7 (.bin .add 5 6),oo 8 (.bin .quo 7 (ci 2)),cb 4 8] .ret))⟩
theorem vj:az Go.Proofs.Tryz.prog xE G4:=ag (by kernel_rfl)
abbrev Dc:FuncId:=106
def LG:aP:=⟨5,⟨false,SBs⟩,[(.tmp 2)],
 (so [AN 2 false] (so [cb 3 0,oo 4 (.call 56 [3,(ci 4294967296)]),cb 2 4] .ret))⟩
theorem I0:az Go.Proofs.Tryz.prog Dc LG:=ag (by kernel_rfl)
abbrev rV:FuncId:=109
def AK:aP:=⟨42,⟨false,SBs⟩,[(.tmp 4),(.tmp 5)],
 (so [wt 4 0,AN 5 false] (so [cb 9 0,Js 10 9,wt 6 0,cb 7 10] (.seq (.block 0 (.loop (.seq (so [cb 11 6,cb 12 7,abb 13 11 12] (.cond 13 .skip (.exit 0))) (.block 1 (so [cb 14 6,cb 15 7,cb 16 6,oo 17 (.bin .sub 15 16),oo 18 (.bin .quo 17 (ci 2)),oo 19 (.bin .add 14 18),cb 8 19] (so [cb 20 0,cb 21 8,aa8 22 1 20 21,cf 23 22,cb 24 1,abb 25 23 24] (.cond 25 (.ops [cb 26 8,ON 27 26 1,cb 6 27]) (.ops [cb 28 8,cb 7 28])))))))) (so [cb 29 6,cb 30 6,cb 31 0,Js 32 31,abb 33 30 32,cb 34 33,abf 34 true 35 0,abf 34 true 36 6,oh 34 true 37 (.idx 1 35 36),abd 34 true 38 37,abf 34 true 39 1,oh 34 true 40 (.bin .eql 38 39),aa6 41 34 40,cb 4 29,cb 5 41] .ret))))⟩
theorem yZ:az Go.Proofs.Tryz.prog rV AK:=ag (by kernel_rfl)
abbrev zL:FuncId:=110
def I1:aP:=⟨26,⟨false,SBs⟩,[(.tmp 6)],
 (so [oo 6 (.mov (.c .nil))] (so [cb 8 0,Js 9 8,ON 10 9 1,oo 11 (.Ax false 1 8 [abm] (ci 0) 10),cb 7 11] (so [cb 12 7,cb 13 0,cb 14 1,oo 15 (.sl 1 13 none (some 14)),oo 16 (.app false 1 8 12 15),cb 7 16] (so [cb 17 7,cb 18 2,oo 19 (.bf 1 1 [abm] [(0,18)]),oo 20 (.app false 1 8 17 19),cb 7 20] (so [cb 21 7,cb 22 0,cb 23 1,oo 24 (.sl 1 22 (some 23) none),oo 25 (.app false 1 8 21 24),cb 6 25] .ret)))))⟩
theorem G5:az Go.Proofs.Tryz.prog zL I1:=ag (by kernel_rfl)
abbrev jB:FuncId:=111
def Df:aP:=⟨20,⟨false,SBs⟩,[(.tmp 4)],
 (so [oo 4 (.mov (.c .nil))] (so [cb 6 0,Js 7 6,oo 8 (.Ax false 1 8 [abm] (ci 0) 7),cb 5 8] (so [cb 9 5,cb 10 0,cb 11 1,oo 12 (.sl 1 10 none (some 11)),oo 13 (.app false 1 8 9 12),cb 5 13] (so [cb 14 5,cb 15 0,cb 16 1,ON 17 16 1,oo 18 (.sl 1 15 (some 17) none),oo 19 (.app false 1 8 14 18),cb 4 19] .ret))))⟩
theorem AL:az Go.Proofs.Tryz.prog jB Df:=ag (by kernel_rfl)
abbrev fy:FuncId:=112
def Dh:aP:=⟨12,⟨false,SBs⟩,[(.tmp 2)],
 (so [wt 2 0] (.seq (so [cb 4 0,oo 5 (.call 156 [4,(.c (.func 157))]),i9 6 5 0] (.cond 6 (so [wt 2 0] .ret) .skip)) (so [cb 7 0,oo 8 (.call 156 [7,(.c (.func 158))]),cb 3 8] (.seq (so [cb 9 3,oo 10 (.bin .gtr 9 (ci 12))] (.cond 10 (so [wt 2 0] .ret) .skip)) (so [cb 11 3,cb 2 11] .ret)))))⟩
theorem i6:az Go.Proofs.Tryz.prog fy Dh:=ag (by kernel_rfl)
abbrev ei:FuncId:=113
def xF:aP:=⟨32,⟨false,SBs⟩,[(.tmp 2)],
 (so [wt 2 0] (so [cb 4 0,oo 5 (.call 156 [4,(.c (.func 159))]),cb 3 5] (.seq (so [cb 6 3,i9 7 6 0,cb 8 7,abf 8 false 9 3,oh 8 false 10 (.bin .gtr 9 (ci 10)),Pe 11 8 10,cb 12 11,abf 12 false 13 3,oh 12 false 14 (.bin .gtr 13 (ci 1)),abf 12 false 15 14,abf 15 true 16 0,oh 15 true 17 (.idxs 16 (ci 0)),oh 15 true 18 (.bin .eql 17 (.c (.int .u8 48))),oh 12 false 19 (.pick 15 18 abp),Pe 20 12 19] (.cond 20 (so [wt 2 0] .ret) .skip)) (.seq (so [cb 21 0,cb 22 3,oo 23 (.rL 21 (some 22) none),oo 24 (.call 156 [23,(.c (.func 160))]),oo 25 (.bin .gtr 24 (ci 0))] (.cond 25 (so [wt 2 0] .ret) .skip)) (.seq (so [cb 26 0,cb 27 3,oo 28 (.rL 26 none (some 27)),abh 29 161 [28],oo 30 (.bin .geq 29 (ci 4294967296))] (.cond 30 (so [wt 2 0] .ret) .skip)) (so [cb 31 3,cb 2 31] .ret))))))⟩
theorem eo:az Go.Proofs.Tryz.prog ei xF:=ag (by kernel_rfl)
abbrev fB:FuncId:=114
def Di:aP:=⟨9,⟨false,SBs⟩,[(.tmp 2)],
 (so [wt 2 0] (.seq (so [cb 3 0,oo 4 (.call 162 [3,(.c (.str [61,61]))])] (.cond 4 (so [wt 2 2] .ret) .skip)) (.seq (so [cb 5 0,oo 6 (.idxs 5 (ci 0)),oo 7 (.call 163 [(.c (.str [40,41,123,125,44,59,46,61,43,45,42,60])),6]),oo 8 (.bin .geq 7 (ci 0))] (.cond 8 (so [wt 2 1] .ret) .skip)) (so [wt 2 0] .ret))))⟩
theorem i7:az Go.Proofs.Tryz.prog fB Di:=ag (by kernel_rfl)
abbrev sX:FuncId:=115
def zM:aP:=⟨13,⟨false,SBs⟩,[(.tmp 2)],
 (so [AN 2 false] (so [cb 3 0,oo 4 (.bin .eql 3 (.c (.int .i32 9))),cb 5 4,abf 5 false 6 0,oh 5 false 7 (.bin .eql 6 (.c (.int .i32 10))),Pe 8 5 7,cb 9 8,abf 9 false 10 0,oh 9 false 11 (.bin .eql 10 (.c (.int .i32 32))),Pe 12 9 11,cb 2 12] .ret))⟩
theorem xG:az Go.Proofs.Tryz.prog sX zM:=ag (by kernel_rfl)
abbrev oQ:FuncId:=116
def zN:aP:=⟨38,⟨false,SBs⟩,[(.cell 4 true 4),(.tmp 5)],
 (so [oo 4 (.alloc [abm,abn,abm,abm]),AN 5 false] (.seq (so [cb 10 0,Js 11 10,wt 12 0] (.block 0 (.loop (so [abb 13 12 11] (.seq (.cond 13 .skip (.exit 0)) (.seq (.block 1 (so [aa8 14 2 10 12,aa7 15 2 14,oo 7 (.alloc [abm,.nilFunc]),aa9 2 7 15] (so [i5 16 1 7,cf 17 16,cb 18 1,oo 19 (.fF 17 [18]),cb 8 19] (.seq (so [cb 20 8,i9 21 20 0] (.cond 21 (.exit 1) .skip)) (.seq (.draw 2 [⟨i5 22 0 7,[],false⟩,⟨cf 23 22,[0],false⟩,⟨cb 24 1,[],false⟩,⟨cb 25 8,[],false⟩,⟨oo 26 (.rL 24 none (some 25)),[2,3],false⟩,⟨oo 27 (.build [abm,abn,abm,abm] [(0,(1,23)),(1,(1,26))]),[1,4],false⟩,⟨oo 9 (.alloc [abm,abn,abm,abm]),[],true⟩,⟨aa9 4 9 27,[6,5,0,1,2,3,4,5,6],true⟩]) (.seq (so [i5 28 0 7,cf 29 28,i9 30 29 2] (.cond 30 (.ops [i5 31 1 9,cf 32 31,abh 33 161 [32],i5 34 2 9,aa9 1 34 33]) .skip)) (so [aa7 35 4 9,aa9 4 4 35,AN 5 true] .ret))))))) (.ops [ON 36 12 1,cb 12 36]))))))) (so [oo 37 (.build [abm,abn,abm,abm] []),aa9 4 4 37,AN 5 false] .ret)))⟩
theorem xH:az Go.Proofs.Tryz.prog oQ zN:=ag (by kernel_rfl)
abbrev lU:FuncId:=117
def lV:aP:=⟨24,⟨false,SBs⟩,[(.tmp 2)],
 (so [oo 2 (.mov (.c abn))] (.seq (so [cb 3 0,oo 4 (.aN 3),i5 5 1 4,cf 6 5,cb 7 0,oo 8 (.aN 7),i5 9 0 8,cf 10 9,Js 11 10,oo 12 (.bin .eql 6 11)] (.cond 12 (so [oo 2 (.mov (.c abn))] .ret) .skip)) (so [cb 13 0,oo 14 (.aN 13),i5 15 0 14,cf 16 15,cb 17 0,oo 18 (.aN 17),i5 19 1 18,cf 20 19,aa8 21 4 16 20,i5 22 1 21,cf 23 22,cb 2 23] .ret)))⟩
theorem sY:az Go.Proofs.Tryz.prog lU lV:=ag (by kernel_rfl)
abbrev lW:FuncId:=118
def lX:aP:=⟨38,⟨false,SBs⟩,[(.cell 2 true 3)],
 (so [oo 2 (.alloc [abm,abn,abm])] (so [oo 3 (.alloc [abm,abn,abm])] (.seq (so [cb 4 0,oo 5 (.sub 164 [4,(ci 1)]),oo 6 (.yC false 1 1 5)] (.block 0 (so [oo 10 (.bin .eql 6 (.c (.str [99,101,108,108]))),cb 9 10] (.cond 9 (.ops [i5 11 0 3,on (.store 1 11 (ci 0))]) (so [oo 13 (.bin .eql 6 (.c (.str [109,97,112]))),cb 12 13] (.cond 12 (.ops [i5 14 0 3,on (.store 1 14 (ci 1))]) (so [oo 16 (.bin .eql 6 (.c (.str [115,116,97,99,107]))),cb 15 16] (.cond 15 (.ops [i5 17 0 3,on (.store 1 17 (ci 2))]) (so [oo 19 (.bin .eql 6 (.c (.str [99,104,97,110]))),cb 18 19] (.cond 18 (.ops [i5 20 0 3,on (.store 1 20 (ci 3))]) (.ops [oo 7 (.build [] []),oo 8 (.yB 213 7),on (.panic 8)]))))))))))) (so [cb 21 0,abj 22 165 [21],i5 23 1 3,aa9 1 23 22] (.seq (so [i5 24 0 3,cf 25 24,i9 26 25 0,cb 27 26,abf 27 true 28 0,oh 27 true 29 (.sub 166 [28,(.c (.str [61]))]),aa6 30 27 29] (.cond 30 (.ops [cb 31 0,oo 32 (.sub 164 [31,(ci 2)]),oo 33 (.yC false 1 2 32),i5 34 2 3,aa9 1 34 33]) .skip)) (so [cb 35 0,oo 36 (.sub 167 [35,(.c (.str [59]))])] (so [aa7 37 3 3,aa9 3 2 37] .ret)))))))⟩
theorem sZ:az Go.Proofs.Tryz.prog lW lX:=ag (by kernel_rfl)
abbrev ja:FuncId:=119
def jc:aP:=⟨16,⟨false,SBs⟩,[(.cell 2 true 3)],
 (so [abl 1 0,oo 2 (.alloc [abn,.nil,abm])] (so [cf 4 1,oo 5 (.sub 167 [4,(.c (.str [102,117,110,99]))])] (so [cf 6 1,abj 7 165 [6],oo 8 (.build [abn,.nil,abm] [(0,(1,7))]),oo 3 (.alloc [abn,.nil,abm]),aa9 3 3 8] (so [cf 9 1,oo 10 (.kl 169 [] [3,1]),abj 11 168 [9,10]] (so [cf 12 1,abj 13 170 [12],i5 14 2 3,aa9 1 14 13] (so [aa7 15 3 3,aa9 3 2 15] .ret))))))⟩
theorem pD:az Go.Proofs.Tryz.prog ja jc:=ag (by kernel_rfl)
abbrev s4:FuncId:=120
def s5:aP:=⟨96,⟨true,SBs⟩,[(.tmp 2)],
 (so [abl 1 0,AN 2 false] (so [i5 12 2 1,cf 13 12,Js 14 13,oo 15 (.Ax true 1 8 [abm] 14 14),cb 3 15] (.seq (so [i5 16 2 1,cf 17 16,Js 18 17,wt 19 0] (.block 0 (.loop (so [abb 20 19 18] (.seq (.cond 20 .skip (.exit 0)) (.seq (.block 1 (so [cb 21 19,aa8 22 5 17 19,aa7 23 5 22,oo 5 (.alloc [abm,abm,abn,abn,.nil]),cb 4 21,aa9 5 5 23] (.seq (so [i5 24 4 5,cf 25 24,Js 26 25,wt 27 0] (.block 2 (.loop (so [abb 28 27 26] (.seq (.cond 28 .skip (.exit 2)) (.seq (.block 3 (so [aa8 29 1 25 27,cf 30 29,cb 7 30] (.seq (so [cb 31 7,oo 32 (.bin .lss 31 (ci 0)),cb 33 32,abf 33 false 34 7,abf 33 false 35 4,oh 33 false 36 (.bin .geq 34 35),Pe 37 33 36] (.cond 37 (so [AN 2 false] .ret) .skip)) (.ops [cb 38 3,cb 39 7,aa8 40 1 38 39,cf 41 40,ON 42 41 1,aa8 43 1 38 39,aa9 1 43 42])))) (.ops [ON 44 27 1,cb 27 44]))))))) (so [i5 45 2 1,cf 46 45,aa7 47 5 5,abh 48 171 [46,47],oo 49 (.not 48)] (.cond 49 (so [AN 2 false] .ret) .skip))))) (.ops [ON 50 19 1,cb 19 50]))))))) (.seq (so [i5 51 1 1,cf 52 51,Js 53 52,wt 54 0] (.block 4 (.loop (so [abb 55 54 53] (.seq (.cond 55 .skip (.exit 4)) (.seq (.block 5 (so [aa8 56 3 52 54,aa7 57 3 56,oo 9 (.alloc [abn,.nil,abm]),aa9 3 9 57] (.seq (so [i5 58 2 9,cf 59 58,oo 60 (.bin .lss 59 (ci 0)),cb 61 60,abe 61 false 62 2 9,abd 61 false 63 62,abe 61 false 64 2 1,abd 61 false 65 64,oh 61 false 66 (.len false 65),oh 61 false 67 (.bin .geq 63 66),Pe 68 61 67,cb 69 68,abe 69 false 70 2 1,abd 69 false 71 70,abe 69 false 72 2 9,abd 69 false 73 72,oh 69 false 74 (.idx 5 71 73),abe 69 false 75 0 74,abd 69 false 76 75,oh 69 false 77 (.bin .neq 76 (ci 18)),Pe 78 69 77] (.cond 78 (so [AN 2 false] .ret) .skip)) (.ops [cb 79 3,i5 80 2 9,cf 81 80,aa8 82 1 79 81,cf 83 82,ON 84 83 1,aa8 85 1 79 81,aa9 1 85 84])))) (.ops [ON 86 54 1,cb 54 86]))))))) (.seq (so [cb 87 3,Js 88 87,wt 89 0] (.block 6 (.loop (so [abb 90 89 88] (.seq (.cond 90 .skip (.exit 6)) (.seq (.block 7 (so [aa8 91 1 87 89,cf 92 91,cb 11 92] (so [cb 93 11,oo 94 (.bin .neq 93 (ci 1))] (.cond 94 (so [AN 2 false] .ret) .skip)))) (.ops [ON 95 89 1,cb 89 95]))))))) (so [AN 2 true] .ret))))))⟩
theorem AO:az Go.Proofs.Tryz.prog s4 s5:=ag (by kernel_rfl)
abbrev s6:FuncId:=121
def s7:aP:=⟨32,⟨false,SBs⟩,[(.tmp 2)],
 (so [abl 1 0,oo 2 (.mov (.c .cv))] (so [oo 8 (.kN none),cb 3 8] (.seq (so [i5 9 0 1,cf 10 9,Js 11 10,wt 12 0] (.block 0 (.loop (so [abb 13 12 11] (.seq (.cond 13 .skip (.exit 0)) (.seq (.block 1 (so [aa8 14 3 10 12,aa7 15 3 14,oo 5 (.alloc [abm,abn,abm]),aa9 3 5 15] (so [cb 17 3,i5 18 1 5,cf 19 18,oo 20 (.lkp true none abm 17 19),cb 16 20,abk 21 16 0,abk 22 16 1,cb 6 21,cb 7 22] (so [cb 23 7,oo 24 (.not 23)] (.cond 24 (.ops [cb 25 3,i5 26 1 5,cf 27 26,i5 28 0 5,cf 29 28,on (.oC none 25 27 29)]) .skip))))) (.ops [ON 30 12 1,cb 12 30]))))))) (so [cb 31 3,cb 2 31] .ret))))⟩
theorem AP:az Go.Proofs.Tryz.prog s6 s7:=ag (by kernel_rfl)
abbrev bn:FuncId:=122
def oR:bR:=(.ops [oo 1 (.box 0),oo 2 (.mov (.c .nil))])
theorem xI:comp Go.Proofs.Tryz.prog 49 ⟨true,SBs⟩ (cL (gg Go.Proofs.Tryz.prog bn))=some oR:=by kernel_rfl
def oS:bR:=(.ops [oo 10 (.fld 2 1),oo 11 (.load false 1 10),oo 12 (.len false 11),oo 13 (.Ax true 1 8 [(.int .i64 0)] 12 12),oo 3 (.alloc [.nil]),on (.store 1 3 13)])
theorem xJ:comp Go.Proofs.Tryz.prog 49 ⟨true,SBs⟩ (cL (cR (gg Go.Proofs.Tryz.prog bn)))=some oS:=by kernel_rfl
def oU:bR:=(so [oo 14 (.fld 1 1),oo 15 (.load false 1 14),oo 16 (.len false 15),oo 17 (.mov (ci 0))] (.block 0 (.loop (so [oo 18 (.bin .lss 17 16)] (.seq (.cond 18 .skip (.exit 0)) (.seq (.block 1 (so [oo 19 (.mov 17),oo 20 (.idx 3 15 17),oo 21 (.load true 3 20),oo 5 (.alloc [(.str []),.nil,(.int .i64 0)]),oo 4 (.mov 19),on (.store 3 5 21)] (.ops [oo 22 (.load false 1 3),oo 23 (.fld 2 5),oo 24 (.load false 1 23),oo 25 (.mov 4),oo 26 (.idx 1 22 24),on (.store 1 26 25)]))) (.ops [oo 27 (.bin .add 17 (ci 1)),oo 17 (.mov 27)])))))))
theorem xK:comp Go.Proofs.Tryz.prog 49 ⟨true,SBs⟩ (cL (cR (cR (gg Go.Proofs.Tryz.prog bn))))=some oU:=by kernel_rfl
def oV:bR:=(.ops [oo 28 (.fld 2 1),oo 29 (.load false 1 28),oo 30 (.sub 172 [29])])
theorem xM:comp Go.Proofs.Tryz.prog 49 ⟨true,SBs⟩ (cL (cL (cR (cR (cR (gg Go.Proofs.Tryz.prog bn))))))=some oV:=by kernel_rfl
def eP:bR:=(so [oo 6 (.mov 31)] (.ops [oo 7 (.alloc [(.int .i64 0),(.int .i64 0),(.str []),(.str []),.nil]),on (.store 5 7 32)]))
theorem xN:comp Go.Proofs.Tryz.prog 49 ⟨true,SBs⟩ (cL (cL (cR (cL (cR (cR (cR (gg Go.Proofs.Tryz.prog bn))))))))=some eP:=by kernel_rfl
def fU:bR:=(.block 3 (so [oo 33 (.fld 4 7),oo 34 (.load false 1 33),oo 35 (.len false 34),oo 36 (.mov (ci 0))] (.block 4 (.loop (so [oo 37 (.bin .lss 36 35)] (.seq (.cond 37 .skip (.exit 4)) (.seq (.block 5 (so [oo 38 (.idx 1 34 36),oo 39 (.load false 1 38),oo 9 (.mov 39)] (.ops [oo 40 (.load false 1 3),oo 41 (.mov 9),oo 42 (.load false 1 3),oo 43 (.mov 6),oo 44 (.idx 1 42 43),oo 45 (.load false 1 44),oo 46 (.idx 1 40 41),on (.store 1 46 45)]))) (.ops [oo 47 (.bin .add 36 (ci 1)),oo 36 (.mov 47)]))))))))
theorem xO:comp Go.Proofs.Tryz.prog 49 ⟨true,SBs⟩ (cR (cL (cR (cL (cR (cR (cR (gg Go.Proofs.Tryz.prog bn))))))))=some fU:=by kernel_rfl
def oW:bR:=(so [oo 48 (.load false 1 3),oo 2 (.mov 48)] .ret)
theorem xP:comp Go.Proofs.Tryz.prog 49 ⟨true,SBs⟩ (cR (cR (cR (cR (gg Go.Proofs.Tryz.prog bn)))))=some oW:=by kernel_rfl
noncomputable abbrev xQ:Code:=(.seq (cL (gg Go.Proofs.Tryz.prog bn)) (.seq (cL (cR (gg Go.Proofs.Tryz.prog bn))) (.seq (cL (cR (cR (gg Go.Proofs.Tryz.prog bn)))) (.seq (.seq (cL (cL (cR (cR (cR (gg Go.Proofs.Tryz.prog bn)))))) (.block 2 (.rangeFunc (.tmp 30) #[31,32] (cL (cL (cR (cL (cR (cR (cR (gg Go.Proofs.Tryz.prog bn)))))))) (cR (cL (cR (cL (cR (cR (cR (gg Go.Proofs.Tryz.prog bn))))))))))) (cR (cR (cR (cR (gg Go.Proofs.Tryz.prog bn)))))))))
theorem AQ:MZ Go.Proofs.Tryz.prog bn 49 [(.tmp 2)] xQ:=⟨Go.Proofs.Tryz.f122,by kernel_rfl,by kernel_rfl,by kernel_rfl,by kernel_rfl⟩
abbrev s9:FuncId:=123
def tf:aP:=⟨126,⟨false,[76,118,119,169,117,164,165,166,167,168,170,186,187,204,205,206,214,215,216,217,218,223,224,228,229,121,124,125,126,127,128,189,191,193,192,207,172,78,79,131,195,208,196,199,130,175,176,177,173,50,83,53,54,89,55,135,136,137,138,139,140,141,143,144,145,22,25,26,27,28,29,30,31,32,35,57,23,62,1000000]⟩,[(.tmp 2)],
 (so [abl 1 0,oo 2 (.mov (.c .nil))] (so [aa7 16 3 1,abj 17 121 [16],cb 3 17] (so [aa7 18 3 1,abh 19 122 [18],cb 4 19] (so [i5 20 1 1,oo 21 (.eI 20),Js 22 21,oo 23 (.zq 24 .nil 22 22),cb 5 23] (so [i5 24 1 1,oo 25 (.eI 24),Js 26 25,oo 27 (.zq 8 .cv 26 26),cb 6 27] (.seq (so [i5 28 1 1,oo 29 (.eI 28),Js 30 29,wt 31 0] (.block 0 (.loop (so [abb 32 31 30] (.seq (.cond 32 .skip (.exit 0)) (.seq (.block 1 (so [cb 33 31,aa8 34 3 29 31,aa7 35 3 34,oo 8 (.alloc [abn,.nil,abm]),cb 7 33,aa9 3 8 35] (so [cb 36 5,cb 37 7,i5 38 1 8,oo 39 (.eI 38),abj 40 173 [39],aa8 41 1 36 37,on (.qI 41 40)] (so [cb 42 6,cb 43 7,oo 44 (.kN none),aa8 45 1 42 43,on (.qI 45 44)] (so [i5 46 1 8,oo 47 (.eI 46),Js 48 47,wt 49 0] (.block 2 (.loop (so [abb 50 49 48] (.seq (.cond 50 .skip (.exit 2)) (.seq (.block 3 (so [aa8 51 1 47 49,cf 52 51,cb 10 52] (.ops [cb 53 6,cb 54 7,aa8 55 1 53 54,oo 56 (.eI 55),cb 57 10,on (.zr none 56 57 abo)]))) (.ops [ON 58 49 1,cb 49 58]))))))))))) (.ops [ON 59 31 1,cb 31 59]))))))) (.seq (so [i5 60 2 1,oo 61 (.eI 60),Js 62 61,wt 63 0] (.block 4 (.loop (so [abb 64 63 62] (.seq (.cond 64 .skip (.exit 4)) (.seq (.block 5 (so [cb 65 63,aa8 66 5 61 63,aa7 67 5 66,oo 12 (.alloc [abm,abm,abn,abn,.nil]),cb 11 65,aa9 5 12 67] (.seq (so [i5 68 0 12,cf 69 68,oo 70 (.bin .neq 69 (ci 9)),cb 71 70,abe 71 true 72 0 12,abd 71 true 73 72,oh 71 true 74 (.bin .neq 73 (ci 10)),aa6 75 71 74,cb 76 75,abe 76 true 77 0 12,abd 76 true 78 77,oh 76 true 79 (.bin .neq 78 (ci 11)),aa6 80 76 79] (.cond 80 (.exit 5) .skip)) (so [cb 82 3,i5 83 2 12,cf 84 83,oo 85 (.we true none abm 82 84),cb 81 85,abk 86 81 0,abk 87 81 1,cb 13 86,cb 14 87] (so [cb 88 4,cb 89 11,aa8 90 1 88 89,cf 91 90,cb 15 91] (.seq (so [i5 92 2 12,cf 93 92,oo 94 (.bin .eql 93 (.c abn)),cb 95 94,abf 95 false 96 14,Pe 97 95 96,cb 98 97,abf 98 false 99 6,abf 98 false 100 15,oh 98 false 101 (.idx 1 99 100),oh 98 false 102 (.eI 101),abe 98 false 103 2 12,abd 98 false 104 103,oh 98 false 105 (.we false none (.bool false) 102 104),Pe 106 98 105] (.cond 106 (.exit 5) .skip)) (so [cb 107 6,cb 108 15,aa8 109 1 107 108,oo 110 (.eI 109),i5 111 2 12,cf 112 111,on (.zr none 110 112 abo)] (.draw 2 [⟨cb 113 5,[],false⟩,⟨cb 114 15,[],false⟩,⟨cb 115 5,[],false⟩,⟨cb 116 15,[],false⟩,⟨aa8 117 1 115 116,[2,3],false⟩,⟨oo 118 (.eI 117),[4],false⟩,⟨i5 119 2 12,[],false⟩,⟨cf 120 119,[6],false⟩,⟨oo 121 (.bf 1 1 [abn] [(0,120)]),[7],false⟩,⟨oo 122 (.NP 1 16 118 121),[5,8],true⟩,⟨aa8 123 1 113 114,[0,1,0,1,2,3,4,5,6,7,8,9],false⟩,⟨on (.qI 123 122),[10,9,9,0,1,2,3,4,5,6,7,8,9],true⟩])))))))) (.ops [ON 124 63 1,cb 63 124]))))))) (so [cb 125 5,cb 2 125] .ret))))))))⟩
theorem AU:az Go.Proofs.Tryz.prog s9 tf:=ag (by kernel_rfl)
abbrev kU:FuncId:=124
def kV:aP:=⟨77,⟨false,SBs⟩,[(.tmp 2)],
 (so [abl 1 0,AN 2 false] (.seq (so [i5 10 0 1,i5 11 1 10,cf 12 11,Js 13 12,oo 14 (.bin .gtr 13 (ci 16))] (.cond 14 (so [AN 2 true] .ret) .skip)) (so [oo 15 (.kN (some .i64)),cb 3 15] (.seq (so [i5 16 0 1,i5 17 0 16,cf 18 17,Js 19 18,wt 20 0] (.block 0 (.loop (so [abb 21 20 19] (.seq (.cond 21 .skip (.exit 0)) (.seq (.block 1 (so [aa8 22 3 18 20,aa7 23 3 22,oo 5 (.alloc [abm,abn,abm]),aa9 3 5 23] (.ops [cb 24 3,i5 25 0 5,cf 26 25,oo 27 (.lkp false (some .i64) abm 24 26),ON 28 27 1,on (.oC (some .i64) 24 26 28)]))) (.ops [ON 29 20 1,cb 20 29]))))))) (.seq (so [cb 30 3,oo 31 (.lkp false (some .i64) abm 30 (ci 0)),oo 32 (.bin .gtr 31 (ci 16)),cb 33 32,abf 33 false 34 3,oh 33 false 35 (.lkp false (some .i64) abm 34 (ci 1)),oh 33 false 36 (.bin .gtr 35 (ci 8)),Pe 37 33 36,cb 38 37,abf 38 false 39 3,oh 38 false 40 (.lkp false (some .i64) abm 39 (ci 2)),oh 38 false 41 (.bin .gtr 40 (ci 8)),Pe 42 38 41,cb 43 42,abf 43 false 44 3,oh 43 false 45 (.lkp false (some .i64) abm 44 (ci 3)),oh 43 false 46 (.bin .gtr 45 (ci 8)),Pe 47 43 46] (.cond 47 (so [AN 2 true] .ret) .skip)) (.seq (so [i5 48 6 1,cf 49 48,Js 50 49,wt 51 0] (.block 2 (.loop (so [abb 52 51 50] (.seq (.cond 52 .skip (.exit 2)) (.seq (.block 3 (so [aa8 53 1 49 51,cf 54 53,cb 7 54] (so [cb 55 7,Js 56 55,oo 57 (.bin .gtr 56 (ci 16))] (.cond 57 (so [AN 2 true] .ret) .skip)))) (.ops [ON 58 51 1,cb 51 58]))))))) (.seq (so [i5 59 0 1,i5 60 2 59,cf 61 60,Js 62 61,wt 63 0] (.block 4 (.loop (so [abb 64 63 62] (.seq (.cond 64 .skip (.exit 4)) (.seq (.block 5 (so [aa8 65 5 61 63,aa7 66 5 65,oo 9 (.alloc [abm,abm,abn,abn,.nil]),aa9 5 9 66] (so [i5 67 0 9,cf 68 67,i9 69 68 10,cb 70 69,abe 70 true 71 4 9,abd 70 true 72 71,oh 70 true 73 (.len false 72),oh 70 true 74 (.bin .gtr 73 (ci 16)),aa6 75 70 74] (.cond 75 (so [AN 2 true] .ret) .skip)))) (.ops [ON 76 63 1,cb 63 76]))))))) (so [AN 2 false] .ret))))))))⟩
theorem sa:az Go.Proofs.Tryz.prog kU kV:=ag (by kernel_rfl)
abbrev kW:FuncId:=125
def kX:aP:=⟨61,⟨false,SBs⟩,[(.tmp 2)],
 (so [abl 1 0,AN 2 false] (.seq (so [i5 10 3 1,cf 11 10,oo 12 (.Ef 11),i5 13 0 1,i5 14 0 13,cf 15 14,Js 16 15,abb 17 12 16,cb 18 17,abe 18 false 19 4 1,abd 18 false 20 19,oh 18 false 21 (.Ef 20),abe 18 false 22 0 1,abe 18 false 23 1 22,abd 18 false 24 23,oh 18 false 25 (.len false 24),oh 18 false 26 (.bin .lss 21 25),Pe 27 18 26] (.cond 27 (so [AN 2 true] .ret) .skip)) (.seq (so [i5 28 0 1,i5 29 1 28,cf 30 29,Js 31 30,wt 32 0] (.block 0 (.loop (so [abb 33 32 31] (.seq (.cond 33 .skip (.exit 0)) (.seq (.block 1 (so [aa8 34 3 30 32,aa7 35 3 34,oo 4 (.alloc [abn,.nil,abm]),aa9 3 4 35] (so [oo 36 (.kN none),cb 5 36] (so [i5 37 1 4,cf 38 37,Js 39 38,wt 40 0] (.block 2 (.loop (so [abb 41 40 39] (.seq (.cond 41 .skip (.exit 2)) (.seq (.block 3 (so [aa8 42 1 38 40,cf 43 42,cb 7 43] (so [i5 45 3 1,cf 46 45,cb 47 7,oo 48 (.lkp true none abm 46 47),cb 44 48,abk 49 44 0,abk 50 44 1,cb 8 49,cb 9 50] (.seq (so [cb 51 9,cb 52 51,abf 52 false 53 5,abf 52 false 54 7,oh 52 false 55 (.lkp false none (.bool false) 53 54),Pe 56 52 55] (.cond 56 (so [AN 2 true] .ret) .skip)) (.ops [cb 57 5,cb 58 7,on (.oC none 57 58 abo)]))))) (.ops [ON 59 40 1,cb 40 59])))))))))) (.ops [ON 60 32 1,cb 32 60]))))))) (so [AN 2 false] .ret))))⟩
theorem sb:az Go.Proofs.Tryz.prog kW kX:=ag (by kernel_rfl)
abbrev lY:FuncId:=126
def lZ:aP:=⟨127,⟨false,[76,118,119,169,117,164,165,166,167,168,170,186,187,204,205,206,214,215,216,217,218,223,224,228,229,121,124,125,126,127,128,189,191,193,192,207,172,78,79,131,195,208,196,199,130,175,176,177,173,50,83,53,54,89,55,135,136,137,138,139,140,141,143,144,145,22,25,26,27,28,29,30,31,32,35,57,23,62,1000000]⟩,[(.tmp 2)],
 (so [abl 1 0,AN 2 false] (.seq (so [i5 19 4 1,oo 20 (.eI 19),oo 21 (.we true none abm 20 (.c (.str [109,97,105,110]))),cb 18 21,abk 22 18 0,abk 23 18 1,cb 3 22,cb 4 23] (so [cb 24 4,oo 25 (.not 24)] (.cond 25 (so [AN 2 true] .ret) .skip))) (so [i5 26 6 1,oo 27 (.eI 26),Js 28 27,oo 29 (.zq 8 .cv 28 28),cb 5 29] (.seq (so [i5 30 6 1,oo 31 (.eI 30),Js 32 31,wt 33 0] (.block 0 (.loop (so [abb 34 33 32] (.seq (.cond 34 .skip (.exit 0)) (.seq (.block 1 (so [cb 35 33,aa8 36 1 31 33,oo 37 (.eI 36),cb 6 35,cb 7 37] (so [cb 38 5,cb 39 6,oo 40 (.kN none),aa8 41 1 38 39,on (.qI 41 40)] (so [cb 42 7,Js 43 42,wt 44 0] (.block 2 (.loop (so [abb 45 44 43] (.seq (.cond 45 .skip (.exit 2)) (.seq (.block 3 (so [aa8 46 1 42 44,cf 47 46,cb 9 47] (.ops [cb 48 5,cb 49 6,aa8 50 1 48 49,oo 51 (.eI 50),cb 52 9,on (.zr none 51 52 abo)]))) (.ops [ON 53 44 1,cb 44 53])))))))))) (.ops [ON 54 33 1,cb 33 54]))))))) (.seq (so [i5 55 0 1,i5 56 2 55,oo 57 (.eI 56),Js 58 57,wt 59 0] (.block 4 (.loop (so [abb 60 59 58] (.seq (.cond 60 .skip (.exit 4)) (.seq (.block 5 (so [cb 61 59,aa8 62 5 57 59,aa7 63 5 62,oo 11 (.alloc [abm,abm,abn,abn,.nil]),cb 10 61,aa9 5 11 63] (so [i5 65 3 1,oo 66 (.eI 65),i5 67 2 11,cf 68 67,oo 69 (.we true none abm 66 68),cb 64 69,abk 70 64 0,abk 71 64 1,cb 12 70,cb 13 71] (so [i5 73 4 1,oo 74 (.eI 73),i5 75 3 11,cf 76 75,oo 77 (.we true none abm 74 76),cb 72 77,abk 78 72 0,abk 79 72 1,cb 14 78,cb 15 79] (so [i5 80 0 11,cf 81 80] (.block 6 (.seq (so [i9 83 81 10,cb 82 83] (.cond 82 .skip (.ops [i9 84 81 11,cb 82 84]))) (.cond 82 (so [cb 85 15,oo 86 (.not 85)] (.cond 86 (so [AN 2 true] .ret) .skip)) (so [i9 88 81 8,cb 87 88] (.cond 87 (so [cb 89 13,oo 90 (.not 89)] (.cond 90 (so [AN 2 true] .ret) .skip)) (so [i9 92 81 2,cb 91 92] (.cond 91 (so [cb 93 13,oo 94 (.not 93),cb 95 94,abf 95 true 96 5,abe 95 true 97 5 1,oh 95 true 98 (.eI 97),abf 95 true 99 10,oh 95 true 100 (.idx 1 98 99),abd 95 true 101 100,oh 95 true 102 (.idx 1 96 101),oh 95 true 103 (.eI 102),abe 95 true 104 2 11,abd 95 true 105 104,oh 95 true 106 (.we false none (.bool false) 103 105),oh 95 true 107 (.not 106),aa6 108 95 107] (.cond 108 (so [AN 2 true] .ret) .skip)) .skip)))))))))))) (.ops [ON 109 59 1,cb 59 109]))))))) (.seq (so [i5 110 0 1,i5 111 0 110,oo 112 (.eI 111),Js 113 112,wt 114 0] (.block 7 (.loop (so [abb 115 114 113] (.seq (.cond 115 .skip (.exit 7)) (.seq (.block 8 (so [aa8 116 3 112 114,aa7 117 3 116,oo 17 (.alloc [abm,abn,abm]),aa9 3 17 117] (so [i5 118 0 17,cf 119 118,oo 120 (.bin .lss 119 (ci 0)),cb 121 120,abe 121 false 122 0 17,abd 121 false 123 122,oh 121 false 124 (.bin .gtr 123 (ci 3)),Pe 125 121 124] (.cond 125 (so [AN 2 true] .ret) .skip)))) (.ops [ON 126 114 1,cb 114 126]))))))) (so [AN 2 false] .ret)))))))⟩
theorem tg:az Go.Proofs.Tryz.prog lY lZ:=ag (by kernel_rfl)
abbrev l4:FuncId:=127
def l5:aP:=⟨51,⟨false,SBs⟩,[(.tmp 2)],
 (so [abl 1 0,AN 2 false] (.seq (so [i5 9 0 1,i5 10 2 9,cf 11 10,Js 12 11,wt 13 0] (.block 0 (.loop (so [abb 14 13 12] (.seq (.cond 14 .skip (.exit 0)) (.seq (.block 1 (so [aa8 15 5 11 13,aa7 16 5 15,oo 4 (.alloc [abm,abm,abn,abn,.nil]),aa9 5 4 16] (so [i5 18 3 1,cf 19 18,i5 20 2 4,cf 21 20,oo 22 (.lkp true none abm 19 21),cb 17 22,abk 23 17 0,abk 24 17 1,cb 5 23,cb 6 24] (so [i5 25 0 4,cf 26 25] (.block 2 (.seq (so [i9 28 26 2,cb 27 28] (.cond 27 .skip (.ops [i9 29 26 9,cb 27 29]))) (.cond 27 (so [cb 30 6,cb 31 30,abf 31 true 32 5,oh 31 true 33 (.bin .neq 32 (ci 0)),aa6 34 31 33] (.cond 34 (so [AN 2 true] .ret) .skip)) (.seq (so [i9 36 26 10,cb 35 36] (.cond 35 .skip (.ops [i9 37 26 11,cb 35 37]))) (.cond 35 (so [cb 38 6] (.cond 38 (so [AN 2 true] .ret) .skip)) (so [i9 40 26 8,cb 39 40] (.cond 39 (so [cb 42 5,i5 43 3 4,cf 44 43,abh 45 174 [42,44],cb 41 45,abk 46 41 0,abk 47 41 1,cb 7 46,cb 8 47] (so [cb 48 8,oo 49 (.not 48)] (.cond 49 (so [AN 2 true] .ret) .skip))) .skip))))))))))) (.ops [ON 50 13 1,cb 13 50]))))))) (so [AN 2 false] .ret)))⟩
theorem ti:az Go.Proofs.Tryz.prog l4 l5:=ag (by kernel_rfl)
abbrev l6:FuncId:=128
def l7:aP:=⟨78,⟨false,SBs⟩,[(.tmp 2)],
 (so [abl 1 0,AN 2 false] (.seq (so [i5 6 0 1,i5 7 1 6,cf 8 7,i5 9 4 1,cf 10 9,oo 11 (.lkp false none abm 10 (.c (.str [109,97,105,110]))),aa8 12 3 8 11,i5 13 1 12,cf 14 13,Js 15 14,oo 16 (.bin .gtr 15 (ci 0))] (.cond 16 (so [AN 2 true] .ret) .skip)) (.seq (so [i5 17 0 1,i5 18 2 17,cf 19 18,Js 20 19,wt 21 0] (.block 0 (.loop (so [abb 22 21 20] (.seq (.cond 22 .skip (.exit 0)) (.seq (.block 1 (so [aa8 23 5 19 21,aa7 24 5 23,oo 4 (.alloc [abm,abm,abn,abn,.nil]),aa9 5 4 24] (so [i5 25 4 4,cf 26 25,Js 27 26,cb 5 27] (.seq (so [i5 28 0 4,cf 29 28] (.block 2 (so [i9 31 29 10,cb 30 31] (.cond 30 (.ops [i5 32 0 1,i5 33 1 32,cf 34 33,i5 35 4 1,cf 36 35,i5 37 3 4,cf 38 37,oo 39 (.lkp false none abm 36 38),aa8 40 3 34 39,i5 41 1 40,cf 42 41,Js 43 42,cb 5 43]) (so [i9 45 29 11,cb 44 45] (.cond 44 (so [i5 46 0 1,i5 47 1 46,cf 48 47,i5 49 4 1,cf 50 49,i5 51 3 4,cf 52 51,oo 53 (.lkp false none abm 50 52),aa8 54 3 48 53,i5 55 1 54,cf 56 55,Js 57 56,oo 58 (.bin .neq 57 (ci 1))] (.cond 58 (so [AN 2 true] .ret) .skip)) (so [i9 60 29 8,cb 59 60] (.cond 59 (.ops [i5 62 3 1,cf 63 62,i5 64 2 4,cf 65 64,oo 66 (.lkp false none abm 63 65),i5 67 3 4,cf 68 67,abh 69 174 [66,68],cb 61 69,abk 70 61 0,abk 71 61 1,cb 5 70]) .skip)))))))) (so [i5 72 4 4,cf 73 72,Js 74 73,cb 75 5,oo 76 (.bin .neq 74 75)] (.cond 76 (so [AN 2 true] .ret) .skip)))))) (.ops [ON 77 21 1,cb 21 77]))))))) (so [AN 2 false] .ret))))⟩
theorem tj:az Go.Proofs.Tryz.prog l6 l7:=ag (by kernel_rfl)
abbrev tm:FuncId:=129
def tn:aP:=⟨24,⟨false,SBs⟩,[(.tmp 4)],
 (so [abl 2 0,oo 4 (.mov (.c .nil))] (.seq (so [cb 5 1,oo 6 (.bin .lss 5 (ci 0)),cb 7 6,abf 7 false 8 1,abe 7 false 9 1 2,abd 7 false 10 9,oh 7 false 11 (.len false 10),oh 7 false 12 (.bin .geq 8 11),Pe 13 7 12,cb 14 13,oh 14 false 15 (.load true 3 2),oh 14 false 16 (.call 120 [15]),oh 14 false 17 (.not 16),Pe 18 14 17] (.cond 18 (so [oo 4 (.mov (.c .nil))] .ret) .skip)) (so [aa7 19 3 2,abh 20 123 [19],cb 21 1,aa8 22 1 20 21,cf 23 22,cb 4 23] .ret)))⟩
theorem AV:az Go.Proofs.Tryz.prog tm tn:=ag (by kernel_rfl)
abbrev kY:FuncId:=130
def kZ:aP:=⟨40,⟨false,SBs⟩,[],
 (so [cb 7 0,oo 8 (.aN 7),i5 9 0 8,cf 10 9,cb 11 1,aa8 12 5 10 11,aa7 13 5 12,oo 4 (.alloc [abm,abm,abn,abn,.nil]),aa9 5 4 13] (.seq (so [i5 14 0 4,cf 15 14] (.block 0 (so [i9 17 15 13,cb 16 17] (.cond 16 (so [cb 18 0,aa7 19 5 4,abj 20 175 [18,19]] .ret) (so [i9 22 15 14,cb 21 22] (.cond 21 (so [cb 23 0,aa7 24 5 4,abj 25 176 [23,24]] .ret) .skip)))))) (.seq (so [i5 26 4 4,cf 27 26,Js 28 27,wt 29 0] (.block 1 (.loop (so [abb 30 29 28] (.seq (.cond 30 .skip (.exit 1)) (.seq (.block 2 (so [aa8 31 1 27 29,cf 32 31,cb 6 32] (.ops [cb 33 0,cb 34 6,abj 35 130 [33,34]]))) (.ops [ON 36 29 1,cb 29 36]))))))) (.ops [cb 37 0,aa7 38 5 4,abj 39 177 [37,38]]))))⟩
theorem sc:az Go.Proofs.Tryz.prog kY kZ:=ag (by kernel_rfl)
abbrev l8:FuncId:=131
def l9:aP:=⟨24,⟨true,SBs⟩,[],
 (.ops [cb 10 0,cb 11 0,oo 12 (.aN 11),i5 13 6 12,cf 14 13,cb 15 1,cb 16 2,cb 17 3,cb 18 4,oo 19 (.build [abm,abm,abm,abm] [(0,(1,15)),(1,(1,16)),(2,(1,17)),(3,(1,18))]),oo 20 (.bf 4 1 [abm,abm,abm,abm] [(0,19)]),oo 21 (.app true 4 32 14 20),oo 22 (.aN 10),i5 23 6 22,aa9 1 23 21])⟩
theorem tq:az Go.Proofs.Tryz.prog l8 l9:=ag (by kernel_rfl)
abbrev eV:FuncId:=132
def qk:aP:=⟨32,⟨false,SBs⟩,[(.tmp 2),(.tmp 3)],
 (so [abl 1 0,wt 2 0,wt 3 0] (.seq (so [i5 4 0 1,cf 5 4] (.block 0 (.seq (so [i9 7 5 1,cb 6 7] (.cond 6 .skip (so [i9 8 5 2,cb 6 8] (.cond 6 .skip (.ops [i9 9 5 4,cb 6 9]))))) (.cond 6 (so [wt 2 0,wt 3 1] .ret) (.seq (so [i9 11 5 3,cb 10 11] (.cond 10 .skip (so [i9 12 5 5,cb 10 12] (.cond 10 .skip (so [i9 13 5 12,cb 10 13] (.cond 10 .skip (so [i9 14 5 16,cb 10 14] (.cond 10 .skip (so [i9 15 5 17,cb 10 15] (.cond 10 .skip (.ops [i9 16 5 18,cb 10 16]))))))))))) (.cond 10 (so [wt 2 1,wt 3 0] .ret) (.seq (so [i9 18 5 6,cb 17 18] (.cond 17 .skip (so [i9 19 5 7,cb 17 19] (.cond 17 .skip (so [i9 20 5 8,cb 17 20] (.cond 17 .skip (so [i9 21 5 9,cb 17 21] (.cond 17 .skip (so [i9 22 5 10,cb 17 22] (.cond 17 .skip (.ops [i9 23 5 19,cb 17 23]))))))))))) (.cond 17 (so [wt 2 2,wt 3 1] .ret) (so [i9 25 5 11,cb 24 25] (.cond 24 (so [i5 26 3 1,cf 27 26,cb 2 27,wt 3 1] .ret) (so [i9 29 5 13,cb 28 29] (.cond 28 (so [i5 30 2 1,cf 31 30,cb 2 31,wt 3 0] .ret) .skip)))))))))))) (so [wt 2 0,wt 3 0] .ret)))⟩
theorem aY:az Go.Proofs.Tryz.prog eV qk:=ag (by kernel_rfl)
abbrev eW:FuncId:=133
def ql:aP:=⟨24,⟨false,SBs⟩,[(.tmp 4)],
 (so [abl 2 0,oo 4 (.mov (.c .nil))] (.seq (so [i5 5 0 2,cf 6 5] (.block 0 (so [i9 8 6 15,cb 7 8] (.cond 7 (so [i5 9 1 2,cf 10 9,oo 11 (.bf 1 1 [abm] [(0,10)]),cb 4 11] .ret) (so [i9 13 6 16,cb 12 13] (.cond 12 (so [cb 14 1,ON 15 14 1,i5 16 1 2,cf 17 16,oo 18 (.bf 1 2 [abm] [(0,15),(1,17)]),cb 4 18] .ret) (so [i9 20 6 17,cb 19 20] (.cond 19 (so [oo 4 (.mov (.c .nil))] .ret) .skip)))))))) (so [cb 21 1,ON 22 21 1,oo 23 (.bf 1 1 [abm] [(0,22)]),cb 4 23] .ret)))⟩
theorem eQ:az Go.Proofs.Tryz.prog eW ql:=ag (by kernel_rfl)
abbrev eX:FuncId:=134
def qm:aP:=⟨44,⟨false,SBs⟩,[(.tmp 4)],
 (so [abl 2 0,abl 3 1,AN 4 false] (so [wt 5 0,wt 6 1] (.seq (so [i5 7 1 3,cf 8 7] (.block 0 (.seq (so [i9 10 8 1,cb 9 10] (.cond 9 .skip (.ops [i9 11 8 3,cb 9 11]))) (.cond 9 (.ops [i5 12 2 2,cf 13 12,cb 5 13]) (so [i9 15 8 2,cb 14 15] (.cond 14 (.ops [i5 16 2 2,cf 17 16,cb 5 17,wt 6 2]) (so [i9 19 8 4,cb 18 19] (.cond 18 (.ops [i5 20 3 2,cf 21 20,cb 5 21]) (so [i9 23 8 5,cb 22 23] (.cond 22 (.ops [i5 24 3 2,cf 25 24,cb 5 25,wt 6 0]) (so [i9 27 8 6,cb 26 27] (.cond 26 (.ops [i5 28 4 2,cf 29 28,cb 5 29]) (so [i9 31 8 7,cb 30 31] (.cond 30 (.ops [i5 32 4 2,cf 33 32,cb 5 33,wt 6 0]) .skip)))))))))))))) (so [i5 34 2 3,cf 35 34,cb 36 5,abh 37 48 [35,36],cb 38 37,abe 38 true 39 3 3,abd 38 true 40 39,abf 38 true 41 6,oh 38 true 42 (.bin .eql 40 41),aa6 43 38 42,cb 4 43] .ret))))⟩
theorem cu:az Go.Proofs.Tryz.prog eX qm:=ag (by kernel_rfl)
abbrev qn:FuncId:=135
def y5:aP:=⟨25,⟨true,SBs⟩,[],
 (so [cb 4 0,cb 5 0,oo 6 (.aN 5),i5 7 9 6,i5 8 5 7,cf 9 8,Js 10 9,oo 11 (.bin .lss 10 (ci 100)),abj 12 55 [4,11]] (.ops [cb 13 0,cb 14 0,oo 15 (.aN 14),i5 16 9 15,i5 17 5 16,cf 18 17,cb 19 1,oo 20 (.bf 1 1 [abm] [(0,19)]),oo 21 (.app true 1 8 18 20),oo 22 (.aN 13),i5 23 9 22,i5 24 5 23,aa9 1 24 21]))⟩
theorem du:az Go.Proofs.Tryz.prog qn y5:=ag (by kernel_rfl)
abbrev oY:FuncId:=136
def xR:aP:=⟨10,⟨true,SBs⟩,[],
 (.ops [cb 2 0,cb 3 0,oo 4 (.aN 3),i5 5 9 4,i5 6 3 5,cf 7 6,ON 8 7 1,abj 9 144 [2,8]])⟩
theorem c9:az Go.Proofs.Tryz.prog oY xR:=ag (by kernel_rfl)
abbrev oZ:FuncId:=137
def xT:aP:=⟨36,⟨true,SBs⟩,[(.tmp 4)],
 (so [AN 4 false] (so [cb 7 0,cb 8 1,cb 9 0,oo 10 (.aN 9),i5 11 9 10,i5 12 4 11,cf 13 12,Js 14 13,abh 15 56 [8,14],abj 16 55 [7,15]] (.seq (so [cb 17 0,oo 18 (.aN 17),i5 19 9 18,i5 20 6 19,cf 21 20,Js 22 21,wt 23 0] (.block 0 (.loop (so [abb 24 23 22] (.seq (.cond 24 .skip (.exit 0)) (.seq (.block 1 (so [aa8 25 2 21 23,aa7 26 2 25,oo 6 (.alloc [abm,abm]),aa9 2 6 26] (so [i5 27 1 6,cf 28 27,cb 29 1,oo 30 (.bin .eql 28 29)] (.cond 30 (so [cb 31 0,oo 32 (.build [abm,abm,abm,abm,abm,abm,abm,.nil] [(0,(1,(ci 5)))]),oo 33 (.aN 31),i5 34 19 33,aa9 8 34 32] (so [AN 4 true] .ret)) .skip)))) (.ops [ON 35 23 1,cb 23 35]))))))) (so [AN 4 false] .ret))))⟩
theorem vU:az Go.Proofs.Tryz.prog oZ xT:=ag (by kernel_rfl)
abbrev qo:FuncId:=138
def y6:aP:=⟨7,⟨true,SBs⟩,[(.tmp 2)],
 (so [wt 2 0] (so [cb 3 0,oo 4 (.sub 140 [3,(ci 1)]),oo 5 (.idx 1 4 (ci 0)),cf 6 5,cb 2 6] .ret))⟩
theorem xU:az Go.Proofs.Tryz.prog qo y6:=ag (by kernel_rfl)
abbrev eR:FuncId:=139
def Et:aP:=⟨20,⟨true,SBs⟩,[],
 (so [abl 4 1] (so [cb 6 0,oo 7 (.sub 140 [6,(ci 2)]),cb 5 7] (.seq (.draw 2 [⟨cb 8 0,[],false⟩,⟨cf 9 2,[],false⟩,⟨cb 10 5,[],false⟩,⟨oo 11 (.idx 1 10 (ci 0)),[2],false⟩,⟨cf 12 11,[3],false⟩,⟨cb 13 5,[],false⟩,⟨oo 14 (.idx 1 13 (ci 1)),[5],false⟩,⟨cf 15 14,[6],false⟩,⟨oo 16 (.fF 9 [12,15]),[1,4,7],true⟩,⟨abj 17 135 [8,16],[0,8,8],true⟩]) (.ops [cb 18 0,abj 19 136 [18]]))))⟩
theorem eY:az Go.Proofs.Tryz.prog eR Et:=ag (by kernel_rfl)
abbrev xW:FuncId:=140
def xX:aP:=⟨45,⟨true,SBs⟩,[(.tmp 4)],
 (so [oo 4 (.mov (.c .nil))] (so [cb 7 0,cb 8 1,cb 9 0,oo 10 (.aN 9),i5 11 9 10,i5 12 5 11,cf 13 12,Js 14 13,oo 15 (.bin .leq 8 14),abj 16 55 [7,15]] (so [cb 17 0,oo 18 (.aN 17),i5 19 9 18,i5 20 5 19,cf 21 20,Js 22 21,cb 23 1,oo 24 (.bin .sub 22 23),cb 5 24] (so [cb 25 0,oo 26 (.aN 25),i5 27 9 26,i5 28 5 27,cf 29 28,cb 30 5,oo 31 (.sl 1 29 (some 30) none),oo 32 (.app true 1 8 (.c .nil) 31),cb 6 32] (so [cb 33 0,cb 34 0,oo 35 (.aN 34),i5 36 9 35,i5 37 5 36,cf 38 37,cb 39 5,oo 40 (.sl 1 38 none (some 39)),oo 41 (.aN 33),i5 42 9 41,i5 43 5 42,aa9 1 43 40] (so [cb 44 6,cb 4 44] .ret))))))⟩
theorem b9:az Go.Proofs.Tryz.prog xW xX:=ag (by kernel_rfl)
abbrev mb:FuncId:=141
def mc:aP:=⟨50,⟨true,SBs⟩,[(.tmp 4),(.tmp 5)],
 (so [wt 4 0,wt 5 0] (.seq (so [cb 6 1] (.block 0 (.seq (so [i9 8 6 1,cb 7 8] (.cond 7 .skip (.ops [i9 9 6 3,cb 7 9]))) (.cond 7 (so [cb 10 0,oo 11 (.aN 10),i5 12 0 11,i5 13 2 12,cf 14 13,cb 4 14,wt 5 1] .ret) (so [i9 16 6 2,cb 15 16] (.cond 15 (so [cb 17 0,oo 18 (.aN 17),i5 19 0 18,i5 20 2 19,cf 21 20,cb 4 21,wt 5 2] .ret) (so [i9 23 6 4,cb 22 23] (.cond 22 (so [cb 24 0,oo 25 (.aN 24),i5 26 0 25,i5 27 3 26,cf 28 27,cb 4 28,wt 5 1] .ret) (so [i9 30 6 5,cb 29 30] (.cond 29 (so [cb 31 0,oo 32 (.aN 31),i5 33 0 32,i5 34 3 33,cf 35 34,cb 4 35,wt 5 0] .ret) (so [i9 37 6 6,cb 36 37] (.cond 36 (so [cb 38 0,oo 39 (.aN 38),i5 40 0 39,i5 41 4 40,cf 42 41,cb 4 42,wt 5 1] .ret) (so [i9 44 6 7,cb 43 44] (.cond 43 (so [cb 45 0,oo 46 (.aN 45),i5 47 0 46,i5 48 4 47,cf 49 48,cb 4 49,wt 5 0] .ret) .skip)))))))))))))) (so [wt 4 0,wt 5 0] .ret)))⟩
theorem tr:az Go.Proofs.Tryz.prog mb mc:=ag (by kernel_rfl)
abbrev I2:FuncId:=142
def Ro:aP:=⟨5,⟨false,SBs⟩,[(.tmp 2)],
 (so [wt 2 0] (so [cb 3 0,oo 4 (.bin .and 3 (ci 65535)),cb 2 4] .ret))⟩
theorem O5:az Go.Proofs.Tryz.prog I2 Ro:=ag (by kernel_rfl)
abbrev o5:FuncId:=143
def xY:aP:=⟨14,⟨true,SBs⟩,[(.tmp 2)],
 (so [AN 2 false] (.seq (so [cb 3 0,oo 4 (.aN 3),i5 5 9 4,i5 6 6 5,cf 7 6,Js 8 7,i9 9 8 0] (.cond 9 (so [AN 2 false] .ret) .skip)) (so [cb 10 0,oo 11 (.build [abm,abm,abm,abm,abm,abm,abm,.nil] [(0,(1,(ci 5)))]),oo 12 (.aN 10),i5 13 19 12,aa9 8 13 11] (so [AN 2 true] .ret))))⟩
theorem vV:az Go.Proofs.Tryz.prog o5 xY:=ag (by kernel_rfl)
abbrev o6:FuncId:=144
def xZ:aP:=⟨18,⟨true,SBs⟩,[],
 (so [cb 4 0,oo 5 (.aN 4),i5 6 9 5,i5 7 8 6,cf 8 7,ON 9 8 1,oo 10 (.aN 4),i5 11 9 10,i5 12 8 11,aa9 1 12 9] (.ops [cb 13 0,cb 14 1,oo 15 (.aN 13),i5 16 9 15,i5 17 3 16,aa9 1 17 14]))⟩
theorem da:az Go.Proofs.Tryz.prog o6 xZ:=ag (by kernel_rfl)
abbrev nH:FuncId:=145
def vW:aP:=⟨16,⟨true,SBs⟩,[(.tmp 4)],
 (so [wt 4 0] (so [cb 5 0,cb 6 1,cb 7 0,oo 8 (.aN 7),i5 9 6 8,i5 10 2 9,cf 11 10,Js 12 11,abh 13 56 [6,12],abj 14 55 [5,13]] (so [cb 15 1,cb 4 15] .ret)))⟩
theorem uH:az Go.Proofs.Tryz.prog nH vW:=ag (by kernel_rfl)
abbrev iM:FuncId:=156
def Dj:aP:=⟨20,⟨false,SBs⟩,[(.tmp 4)],
 (so [wt 4 0] (.seq (so [cb 7 0,oo 8 (.rng 7)] (.block 0 (.loop (so [oo 9 (.nxt 8),abk 10 9 0] (.seq (.cond 10 .skip (.exit 0)) (.block 1 (so [abk 11 9 1,abk 12 9 2,cb 5 11,cb 6 12] (so [cb 13 1,cb 14 6,oo 15 (.fF 13 [14]),oo 16 (.not 15)] (.cond 16 (so [cb 17 5,cb 4 17] .ret) .skip))))))))) (so [cb 18 0,oo 19 (.len true 18),cb 4 19] .ret)))⟩
theorem zO:az Go.Proofs.Tryz.prog iM Dj:=ag (by kernel_rfl)
abbrev jC:FuncId:=157
def x5:aP:=⟨17,⟨false,SBs⟩,[(.tmp 2)],
 (so [AN 2 false] (so [cb 3 0,oo 4 (.bin .geq 3 (.c (.int .i32 97))),cb 5 4,abf 5 true 6 0,oh 5 true 7 (.bin .leq 6 (.c (.int .i32 122))),aa6 8 5 7,cb 9 8,abf 9 false 10 0,oh 9 false 11 (.bin .geq 10 (.c (.int .i32 65))),abf 9 false 12 11,abf 12 true 13 0,oh 12 true 14 (.bin .leq 13 (.c (.int .i32 90))),oh 9 false 15 (.pick 12 14 abp),Pe 16 9 15,cb 2 16] .ret))⟩
theorem pG:az Go.Proofs.Tryz.prog jC x5:=ag (by kernel_rfl)
abbrev jD:FuncId:=158
def x6:aP:=⟨13,⟨false,SBs⟩,[(.tmp 2)],
 (so [AN 2 false] (so [cb 3 0,abh 4 157 [3],cb 5 4,abf 5 false 6 0,oh 5 false 7 (.call 159 [6]),Pe 8 5 7,cb 9 8,abf 9 false 10 0,oh 9 false 11 (.bin .eql 10 (.c (.int .i32 95))),Pe 12 9 11,cb 2 12] .ret))⟩
theorem pI:az Go.Proofs.Tryz.prog jD x6:=ag (by kernel_rfl)
abbrev lg:FuncId:=159
def zP:aP:=⟨9,⟨false,SBs⟩,[(.tmp 2)],
 (so [AN 2 false] (so [cb 3 0,oo 4 (.bin .geq 3 (.c (.int .i32 48))),cb 5 4,abf 5 true 6 0,oh 5 true 7 (.bin .leq 6 (.c (.int .i32 57))),aa6 8 5 7,cb 2 8] .ret))⟩
theorem rl:az Go.Proofs.Tryz.prog lg zP:=ag (by kernel_rfl)
abbrev gn:FuncId:=160
def tt:aP:=⟨9,⟨false,SBs⟩,[(.tmp 2)],
 (so [AN 2 false] (so [cb 3 0,abh 4 157 [3],cb 5 4,abf 5 false 6 0,oh 5 false 7 (.bin .eql 6 (.c (.int .i32 95))),Pe 8 5 7,cb 2 8] .ret))⟩
theorem lN:az Go.Proofs.Tryz.prog gn tt:=ag (by kernel_rfl)
abbrev tu:FuncId:=161
def zQ:aP:=⟨13,⟨false,SBs⟩,[(.tmp 2)],
 (so [wt 2 0] (so [cb 6 0,abh 7 183 [6],cb 5 7,abk 8 5 0,abk 9 5 1,cb 3 8,cb 4 9] (.seq (so [cb 10 4,oo 11 (.eqi true 10)] (.cond 11 (so [wt 2 0] .ret) .skip)) (so [cb 12 3,cb 2 12] .ret))))⟩
theorem x7:az Go.Proofs.Tryz.prog tu zQ:=ag (by kernel_rfl)
abbrev mf:FuncId:=164
def mg:aP:=⟨50,⟨false,SBs⟩,[(.cell 4 true 4)],
 (so [oo 4 (.alloc [abm,abn,abm,abm])] (.seq (so [cb 5 0,oo 6 (.aN 5),i5 7 1 6,cf 8 7,cb 9 0,oo 10 (.aN 9),i5 11 0 10,cf 12 11,Js 13 12,oo 14 (.bin .eql 8 13),cb 15 14,abf 15 false 16 0,oh 15 false 17 (.aN 16),abe 15 false 18 0 17,abd 15 false 19 18,abf 15 false 20 0,oh 15 false 21 (.aN 20),abe 15 false 22 1 21,abd 15 false 23 22,oh 15 false 24 (.idx 4 19 23),abe 15 false 25 0 24,abd 15 false 26 25,abf 15 false 27 1,oh 15 false 28 (.bin .neq 26 27),Pe 29 15 28] (.cond 29 (.ops [oo 30 (.build [] []),oo 31 (.yB 213 30),on (.panic 31)]) .skip)) (so [cb 32 0,oo 33 (.aN 32),i5 34 1 33,cf 35 34,ON 36 35 1,oo 37 (.aN 32),i5 38 1 37,aa9 1 38 36] (so [cb 39 0,oo 40 (.aN 39),i5 41 0 40,cf 42 41,cb 43 0,oo 44 (.aN 43),i5 45 1 44,cf 46 45,oo 47 (.bin .sub 46 (ci 1)),aa8 48 4 42 47,aa7 49 4 48,aa9 4 4 49] .ret))))⟩
theorem tw:az Go.Proofs.Tryz.prog mf mg:=ag (by kernel_rfl)
abbrev mh:FuncId:=165
def mj:aP:=⟨25,⟨false,SBs⟩,[(.tmp 2)],
 (so [oo 2 (.mov (.c abn))] (so [cb 4 0,oo 5 (.sub 164 [4,(ci 1)]),oo 6 (.yC false 1 1 5),cb 3 6] (.seq (so [cb 7 3] (.block 0 (.seq (so [oo 9 (.bin .eql 7 (.c (.str [99,101,108,108]))),cb 8 9] (.cond 8 .skip (so [oo 10 (.bin .eql 7 (.c (.str [109,97,112]))),cb 8 10] (.cond 8 .skip (so [oo 11 (.bin .eql 7 (.c (.str [115,116,97,99,107]))),cb 8 11] (.cond 8 .skip (so [oo 12 (.bin .eql 7 (.c (.str [99,104,97,110]))),cb 8 12] (.cond 8 .skip (so [oo 13 (.bin .eql 7 (.c (.str [102,117,110,99]))),cb 8 13] (.cond 8 .skip (so [oo 14 (.bin .eql 7 (.c (.str [115,112,97,119,110]))),cb 8 14] (.cond 8 .skip (so [oo 15 (.bin .eql 7 (.c (.str [112,97,114]))),cb 8 15] (.cond 8 .skip (so [oo 16 (.bin .eql 7 (.c (.str [115,121,110,99]))),cb 8 16] (.cond 8 .skip (so [oo 17 (.bin .eql 7 (.c (.str [105,102]))),cb 8 17] (.cond 8 .skip (so [oo 18 (.bin .eql 7 (.c (.str [101,108,115,101]))),cb 8 18] (.cond 8 .skip (so [oo 19 (.bin .eql 7 (.c (.str [119,104,105,108,101]))),cb 8 19] (.cond 8 .skip (so [oo 20 (.bin .eql 7 (.c (.str [114,101,116,117,114,110]))),cb 8 20] (.cond 8 .skip (.ops [oo 21 (.bin .eql 7 (.c (.str [97,115,115,101,114,116]))),cb 8 21]))))))))))))))))))))))))) (.cond 8 (.ops [oo 22 (.build [] []),oo 23 (.yB 213 22),on (.panic 23)]) .skip)))) (so [cb 24 3,cb 2 24] .ret))))⟩
theorem tz:az Go.Proofs.Tryz.prog mh mj:=ag (by kernel_rfl)
abbrev mq:FuncId:=166
def mr:aP:=⟨16,⟨false,SBs⟩,[(.tmp 4)],
 (so [AN 4 false] (.seq (so [cb 5 0,abj 6 117 [5],cb 7 1,oo 8 (.bin .neq 6 7)] (.cond 8 (so [AN 4 false] .ret) .skip)) (so [cb 9 0,oo 10 (.aN 9),i5 11 1 10,cf 12 11,ON 13 12 1,oo 14 (.aN 9),i5 15 1 14,aa9 1 15 13] (so [AN 4 true] .ret))))⟩
theorem tA:az Go.Proofs.Tryz.prog mq mr:=ag (by kernel_rfl)
abbrev mA:FuncId:=167
def mB:aP:=⟨10,⟨false,SBs⟩,[],
 (so [cb 4 0,cb 5 1,abj 6 166 [4,5],oo 7 (.not 6)] (.cond 7 (.ops [oo 8 (.build [] []),oo 9 (.yB 213 8),on (.panic 9)]) .skip))⟩
theorem tB:az Go.Proofs.Tryz.prog mA mB:=ag (by kernel_rfl)
abbrev nI:FuncId:=168
def nJ:aP:=⟨16,⟨false,SBs⟩,[],
 (so [cb 4 0,oo 5 (.sub 167 [4,(.c (.str [40]))])] (.seq (so [cb 6 0,oo 7 (.sub 166 [6,(.c (.str [41]))])] (.cond 7 .ret .skip)) (so [cb 8 1,oo 9 (.fF 8 [])] (.seq (.block 0 (.loop (.seq (so [cb 10 0,oo 11 (.sub 166 [10,(.c (.str [44]))])] (.cond 11 .skip (.exit 0))) (.block 1 (.ops [cb 12 1,oo 13 (.fF 12 [])]))))) (.ops [cb 14 0,oo 15 (.sub 167 [14,(.c (.str [41]))])])))))⟩
theorem uI:az Go.Proofs.Tryz.prog nI nJ:=ag (by kernel_rfl)
abbrev gU:FuncId:=169
def gV:aP:=⟨9,⟨false,SBs⟩,[],
 (.draw 3 [⟨i5 2 1 0,[],false⟩,⟨cf 3 2,[0],false⟩,⟨cf 4 1,[],false⟩,⟨abj 5 165 [4],[2],true⟩,⟨oo 6 (.bf 1 1 [abn] [(0,5)]),[3],false⟩,⟨oo 7 (.app false 1 16 3 6),[1,4,3],true⟩,⟨i5 8 1 0,[0,1,2,3,4,5],false⟩,⟨aa9 1 8 7,[6,5,5,0,1,2,3,4,5],true⟩])⟩
theorem nK:az Go.Proofs.Tryz.prog gU gV:=ag (by kernel_rfl)
abbrev lh:FuncId:=170
def li:aP:=⟨18,⟨false,SBs⟩,[(.tmp 2)],
 (so [wt 2 0] (so [cb 4 0,oo 5 (.sub 167 [4,(.c (.str [123]))])] (so [oo 3 (.mov (.c .nil))] (.seq (.block 0 (.loop (.seq (so [cb 6 0,oo 7 (.sub 166 [6,(.c (.str [125]))]),oo 8 (.not 7)] (.cond 8 .skip (.exit 0))) (.block 1 (.ops [cb 9 3,cb 10 0,abj 11 186 [10],oo 12 (.bf 1 1 [abm] [(0,11)]),oo 13 (.app false 1 8 9 12),cb 3 13]))))) (so [cb 14 0,cb 15 3,oo 16 (.build [abm,abm,abn,abn,.nil] [(0,(1,(ci 18))),(4,(1,15))]),abj 17 187 [14,16],cb 2 17] .ret)))))⟩
theorem sd:az Go.Proofs.Tryz.prog lh li:=ag (by kernel_rfl)
abbrev tC:FuncId:=171
def tD:aP:=⟨107,⟨false,SBs⟩,[(.tmp 4)],
 (so [abl 3 1,AN 4 false] (so [oo 5 (.alloc [.nil])] (.seq (so [i5 10 4 3,cf 11 10,Js 12 11,wt 13 0] (.block 0 (.loop (so [abb 14 13 12] (.seq (.cond 14 .skip (.exit 0)) (.seq (.block 1 (so [aa8 15 1 11 13,cf 16 15,cb 7 16] (.ops [cf 17 5,cb 18 0,cb 19 7,aa8 20 5 18 19,i5 21 0 20,cf 22 21,abh 23 188 [22],oo 24 (.bf 1 1 [abm] [(0,23)]),oo 25 (.app false 1 8 17 24),aa9 1 5 25]))) (.ops [ON 26 13 1,cb 13 26]))))))) (so [oo 27 (.kl 189 [] [5]),cb 8 27] (so [oo 28 (.kl 191 [] [5]),cb 9 28] (.seq (so [i5 29 0 3,cf 30 29] (.block 2 (so [i9 32 30 1,cb 31 32] (.cond 31 (so [cb 33 8,oo 34 (.fF 33 [(.c .nil)]),cb 35 34,abe 35 true 36 1 3,abd 35 true 37 36,oh 35 true 38 (.bin .geq 37 (ci 0)),aa6 39 35 38,cb 40 39,abe 40 true 41 1 3,abd 40 true 42 41,oh 40 true 43 (.bin .lss 42 (ci 4294967296)),aa6 44 40 43,cb 4 44] .ret) (.seq (so [i9 46 30 2,cb 45 46] (.cond 45 .skip (.ops [i9 47 30 12,cb 45 47]))) (.cond 45 (so [cb 48 8,oo 49 (.fF 48 [(.c .nil)]),cb 4 49] .ret) (.seq (so [i9 51 30 3,cb 50 51] (.cond 50 .skip (so [i9 52 30 4,cb 50 52] (.cond 50 .skip (so [i9 53 30 5,cb 50 53] (.cond 50 .skip (so [i9 54 30 6,cb 50 54] (.cond 50 .skip (so [i9 55 30 7,cb 50 55] (.cond 50 .skip (.ops [i9 56 30 11,cb 50 56]))))))))))) (.cond 50 (so [cb 57 8,oo 58 (.bf 1 2 [abm] [(0,(ci 1)),(1,(ci 1))]),oo 59 (.fF 57 [58]),cb 4 59] .ret) (.seq (so [i9 61 30 8,cb 60 61] (.cond 60 .skip (.ops [i9 62 30 10,cb 60 62]))) (.cond 60 (so [cb 63 9,oo 64 (.fF 63 [(ci 1)]),cb 4 64] .ret) (.seq (so [i9 66 30 9,cb 65 66] (.cond 65 .skip (so [i9 67 30 15,cb 65 67] (.cond 65 .skip (.ops [i9 68 30 16,cb 65 68]))))) (.cond 65 (so [cb 69 8,oo 70 (.bf 1 1 [abm] [(0,(ci 1))]),oo 71 (.fF 69 [70]),cb 4 71] .ret) (so [i9 73 30 17,cb 72 73] (.cond 72 (so [cb 74 8,oo 75 (.bf 1 1 [abm] [(0,(ci 1))]),oo 76 (.fF 74 [75]),cb 77 76,abf 77 true 78 0,abe 77 true 79 4 3,abd 77 true 80 79,oh 77 true 81 (.idx 1 80 (ci 0)),abd 77 true 82 81,oh 77 true 83 (.idx 5 78 82),abe 77 true 84 0 83,abd 77 true 85 84,abg 77 true 86 85 8,aa6 87 77 86,cb 4 87] .ret) (so [i9 89 30 13,cb 88 89] (.cond 88 (so [cb 90 8,oo 91 (.bf 1 2 [abm] [(0,(ci 1)),(1,(ci 3))]),oo 92 (.fF 90 [91]),cb 93 92,abf 93 false 94 8,oh 93 false 95 (.bf 1 3 [abm] [(0,(ci 1)),(1,(ci 3)),(2,(ci 3))]),oh 93 false 96 (.fF 94 [95]),Pe 97 93 96,cb 4 97] .ret) (so [i9 99 30 14,cb 98 99] (.cond 98 (so [cb 100 8,oo 101 (.bf 1 2 [abm] [(0,(ci 1)),(1,(ci 3))]),oo 102 (.fF 100 [101]),cb 4 102] .ret) (so [i9 104 30 18,cb 103 104] (.cond 103 (so [cb 105 9,oo 106 (.fF 105 [(ci 2)]),cb 4 106] .ret) .skip)))))))))))))))))))) (so [AN 4 false] .ret)))))))⟩
theorem AW:az Go.Proofs.Tryz.prog tC tD:=ag (by kernel_rfl)
abbrev o7:FuncId:=172
def o8:aP:=⟨4,⟨false,SBs⟩,[(.tmp 2)],
 (so [abl 1 0,oo 2 (.mov (.c .nilFunc))] (so [oo 3 (.kl 194 [] [1]),cb 2 3] .ret))⟩
theorem nL:az Go.Proofs.Tryz.prog o7 o8:=ag (by kernel_rfl)
abbrev qp:FuncId:=173
def qq:aP:=⟨8,⟨false,SBs⟩,[(.tmp 2)],
 (so [oo 2 (.mov (.c .nil))] (.seq (so [cb 3 0,oo 4 (.eqn false 3)] (.cond 4 (so [oo 2 (.mov (.c .nil))] .ret) .skip)) (so [oo 5 (.bf 1 0 [abn] []),cb 6 0,oo 7 (.app false 1 16 5 6),cb 2 7] .ret)))⟩
theorem x8:az Go.Proofs.Tryz.prog qp qq:=ag (by kernel_rfl)
abbrev vk:FuncId:=174
def vm:aP:=⟨29,⟨false,SBs⟩,[(.tmp 4),(.tmp 5)],
 (so [wt 4 0,AN 5 false] (.seq (so [cb 6 0] (.block 0 (so [i9 8 6 1,cb 7 8] (.cond 7 (so [cb 9 1] (.block 1 (.seq (so [oo 11 (.bin .eql 9 (.c (.str [103,101,116]))),cb 10 11] (.cond 10 .skip (.ops [oo 12 (.bin .eql 9 (.c (.str [100,101,108]))),cb 10 12]))) (.cond 10 (so [wt 4 1,AN 5 true] .ret) (so [oo 14 (.bin .eql 9 (.c (.str [112,117,116]))),cb 13 14] (.cond 13 (so [wt 4 2,AN 5 true] .ret) .skip)))))) (so [i9 16 6 2,cb 15 16] (.cond 15 (so [cb 17 1] (.block 2 (so [oo 19 (.bin .eql 17 (.c (.str [112,117,115,104]))),cb 18 19] (.cond 18 (so [wt 4 1,AN 5 true] .ret) (so [oo 21 (.bin .eql 17 (.c (.str [112,111,112]))),cb 20 21] (.cond 20 (so [wt 4 0,AN 5 true] .ret) .skip)))))) (so [i9 23 6 3,cb 22 23] (.cond 22 (so [cb 24 1] (.block 3 (so [oo 26 (.bin .eql 24 (.c (.str [115,101,110,100]))),cb 25 26] (.cond 25 (so [wt 4 1,AN 5 true] .ret) (so [oo 28 (.bin .eql 24 (.c (.str [114,101,99,118]))),cb 27 28] (.cond 27 (so [wt 4 0,AN 5 true] .ret) .skip)))))) .skip)))))))) (so [wt 4 0,AN 5 false] .ret)))⟩
theorem Dk:az Go.Proofs.Tryz.prog vk vm:=ag (by kernel_rfl)
abbrev jE:FuncId:=175
def jF:aP:=⟨38,⟨false,SBs⟩,[],
 (so [abl 3 1] (so [cb 6 0,i5 7 4 3,cf 8 7,oo 9 (.idx 1 8 (ci 0)),cf 10 9,abj 11 130 [6,10]] (so [cb 12 0,oo 13 (.sub 195 [12,(ci 16)]),cb 4 13] (so [cb 14 0,i5 15 4 3,cf 16 15,oo 17 (.idx 1 16 (ci 1)),cf 18 17,abj 19 130 [14,18]] (.seq (so [i5 20 4 3,cf 21 20,Js 22 21,oo 23 (.bin .lss 22 (ci 3))] (.cond 23 (so [cb 24 4,oo 25 (.fF 24 [])] .ret) .skip)) (so [cb 26 0,oo 27 (.sub 195 [26,(ci 15)]),cb 5 27] (so [cb 28 4,oo 29 (.fF 28 [])] (so [cb 30 0,i5 31 4 3,cf 32 31,oo 33 (.idx 1 32 (ci 2)),cf 34 33,abj 35 130 [30,34]] (.ops [cb 36 5,oo 37 (.fF 36 [])])))))))))⟩
theorem qt:az Go.Proofs.Tryz.prog jE jF:=ag (by kernel_rfl)
abbrev lj:FuncId:=176
def ll:aP:=⟨30,⟨false,SBs⟩,[],
 (so [abl 3 1] (so [cb 6 0,oo 7 (.aN 6),i5 8 6 7,cf 9 8,Js 10 9,cb 4 10] (so [cb 11 0,i5 12 4 3,cf 13 12,oo 14 (.idx 1 13 (ci 0)),cf 15 14,abj 16 130 [11,15]] (so [cb 17 0,oo 18 (.sub 195 [17,(ci 16)]),cb 5 18] (so [cb 19 0,i5 20 4 3,cf 21 20,oo 22 (.idx 1 21 (ci 1)),cf 23 22,abj 24 130 [19,23]] (so [cb 25 0,cb 26 4,oo 27 (.sub 131 [25,(ci 15),26,(ci 0),(ci 0)])] (.ops [cb 28 5,oo 29 (.fF 28 [])])))))))⟩
theorem sg:az Go.Proofs.Tryz.prog lj ll:=ag (by kernel_rfl)
abbrev ln:FuncId:=177
def lq:aP:=⟨125,⟨false,SBs⟩,[],
 (so [abl 3 1] (.seq (.draw 2 [⟨cb 7 0,[],false⟩,⟨oo 8 (.aN 7),[0],false⟩,⟨i5 9 1 8,[1],false⟩,⟨i5 10 0 9,[2],false⟩,⟨cf 11 10,[3],false⟩,⟨i5 12 2 3,[],false⟩,⟨cf 13 12,[5],false⟩,⟨oo 14 (.lkp true none (.agg [abm,abm]) 11 13),[4,6],false⟩,⟨cb 6 14,[7],false⟩,⟨abk 15 6 0,[8],false⟩,⟨abk 16 6 1,[8],false⟩,⟨oo 4 (.alloc [abm,abm]),[],true⟩,⟨aa9 2 4 15,[11,9,0,1,2,3,4,5,6,7,8,9,11],true⟩,⟨cb 5 16,[10,12,0,1,2,3,4,5,6,7,8,9,10,11,12],false⟩]) (so [i5 17 0 3,cf 18 17] (.block 0 (so [i9 20 18 1,cb 19 20] (.cond 19 (.ops [cb 21 0,i5 22 1 3,cf 23 22,oo 24 (.sub 131 [21,(ci 1),23,(ci 0),(ci 0)])]) (so [i9 26 18 2,cb 25 26] (.cond 25 (so [cb 27 5] (.cond 27 (.ops [cb 28 0,i5 29 1 4,cf 30 29,oo 31 (.sub 131 [28,(ci 4),30,(ci 0),(ci 0)])]) (.ops [cb 32 0,cb 33 0,i5 34 2 3,cf 35 34,abj 36 196 [33,35],oo 37 (.sub 131 [32,(ci 2),36,(ci 0),(ci 0)])]))) (.seq (so [i9 39 18 3,cb 38 39] (.cond 38 .skip (so [i9 40 18 4,cb 38 40] (.cond 38 .skip (so [i9 41 18 5,cb 38 41] (.cond 38 .skip (so [i9 42 18 6,cb 38 42] (.cond 38 .skip (.ops [i9 43 18 7,cb 38 43]))))))))) (.cond 38 (.ops [cb 44 0,i5 45 0 3,cf 46 45,abh 47 197 [46],oo 48 (.sub 131 [44,47,(ci 0),(ci 0),(ci 0)])]) (so [i9 50 18 8,cb 49 50] (.cond 49 (.ops [cb 51 0,i5 52 3 3,cf 53 52,abh 54 198 [53],i5 55 1 4,cf 56 55,i5 57 4 3,cf 58 57,Js 59 58,oo 60 (.sub 131 [51,(ci 11),54,56,59])]) (so [i9 62 18 9,cb 61 62] (.cond 61 (so [cb 63 5] (.cond 63 (.ops [cb 64 0,i5 65 1 4,cf 66 65,oo 67 (.sub 131 [64,(ci 5),66,(ci 0),(ci 0)])]) (.ops [cb 68 0,cb 69 0,i5 70 2 3,cf 71 70,abj 72 196 [69,71],oo 73 (.sub 131 [68,(ci 3),72,(ci 0),(ci 0)])]))) (so [i9 75 18 10,cb 74 75] (.cond 74 (.draw 2 [⟨cb 76 0,[],false⟩,⟨cb 77 0,[],false⟩,⟨oo 78 (.aN 77),[1],false⟩,⟨i5 79 1 78,[2],false⟩,⟨i5 80 1 79,[3],false⟩,⟨cf 81 80,[4],false⟩,⟨i5 82 3 3,[],false⟩,⟨cf 83 82,[6],false⟩,⟨oo 84 (.lkp false none abm 81 83),[5,7],false⟩,⟨i5 85 4 3,[],false⟩,⟨cf 86 85,[9],false⟩,⟨Js 87 86,[10],false⟩,⟨cb 88 0,[],false⟩,⟨i5 89 2 3,[],false⟩,⟨cf 90 89,[13],false⟩,⟨abj 91 199 [88,90],[12,14],true⟩,⟨oo 92 (.sub 131 [76,(ci 13),84,87,91]),[0,8,11,15,15],true⟩]) (so [i9 94 18 11,cb 93 94] (.cond 93 (.draw 2 [⟨cb 95 0,[],false⟩,⟨cb 96 0,[],false⟩,⟨oo 97 (.aN 96),[1],false⟩,⟨i5 98 1 97,[2],false⟩,⟨i5 99 2 98,[3],false⟩,⟨cf 100 99,[4],false⟩,⟨i5 101 3 3,[],false⟩,⟨cf 102 101,[6],false⟩,⟨oo 103 (.lkp false none abm 100 102),[5,7],false⟩,⟨cb 104 0,[],false⟩,⟨i5 105 2 3,[],false⟩,⟨cf 106 105,[10],false⟩,⟨abj 107 199 [104,106],[9,11],true⟩,⟨oo 108 (.sub 131 [95,(ci 13),103,(ci 2),107]),[0,8,12,12],true⟩]) (so [i9 110 18 12,cb 109 110] (.cond 109 (.ops [cb 111 0,oo 112 (.sub 131 [111,(ci 14),(ci 0),(ci 0),(ci 0)])]) (so [i9 114 18 15,cb 113 114] (.cond 113 (.ops [cb 115 0,oo 116 (.sub 131 [115,(ci 17),(ci 0),(ci 0),(ci 0)])]) (so [i9 118 18 16,cb 117 118] (.cond 117 (.ops [cb 119 0,oo 120 (.sub 131 [119,(ci 18),(ci 0),(ci 0),(ci 0)])]) (so [i9 122 18 17,cb 121 122] (.cond 121 (.ops [cb 123 0,oo 124 (.sub 131 [123,(ci 12),(ci 0),(ci 0),(ci 0)])]) .skip))))))))))))))))))))))))))⟩
theorem si:az Go.Proofs.Tryz.prog ln lq:=ag (by kernel_rfl)
abbrev iw:FuncId:=186
def ix:aP:=⟨31,⟨false,SBs⟩,[(.tmp 2)],
 (so [wt 2 0] (.seq (so [cb 6 0,abj 7 117 [6]] (.block 0 (so [oo 9 (.bin .eql 7 (.c (.str [105,102]))),cb 8 9] (.cond 8 (so [cb 10 0,abj 11 204 [10],cb 2 11] .ret) (so [oo 13 (.bin .eql 7 (.c (.str [119,104,105,108,101]))),cb 12 13] (.cond 12 (so [cb 14 0,oo 15 (.sub 167 [14,(.c (.str [119,104,105,108,101]))])] (so [cb 16 0,abj 17 205 [16],cb 3 17] (so [cb 18 0,abj 19 170 [18],cb 4 19] (so [cb 20 0,cb 21 3,cb 22 4,oo 23 (.bf 1 2 [abm] [(0,21),(1,22)]),oo 24 (.build [abm,abm,abn,abn,.nil] [(0,(1,(ci 14))),(4,(1,23))]),abj 25 187 [20,24],cb 2 25] .ret)))) .skip)))))) (so [cb 26 0,abj 27 206 [26],cb 5 27] (so [cb 28 0,oo 29 (.sub 167 [28,(.c (.str [59]))])] (so [cb 30 5,cb 2 30] .ret)))))⟩
theorem oD:az Go.Proofs.Tryz.prog iw ix:=ag (by kernel_rfl)
abbrev nM:FuncId:=187
def nN:aP:=⟨21,⟨false,SBs⟩,[(.tmp 4)],
 (so [abl 3 1,wt 4 0] (.seq (.draw 2 [⟨cb 5 0,[],false⟩,⟨cb 6 0,[],false⟩,⟨oo 7 (.aN 6),[1],false⟩,⟨i5 8 2 7,[2],false⟩,⟨cf 9 8,[3],false⟩,⟨aa7 10 5 3,[],false⟩,⟨oo 11 (.bf 5 1 [abm,abm,abn,abn,.nil] [(0,10)]),[5],false⟩,⟨oo 12 (.app false 5 72 9 11),[4,6],true⟩,⟨oo 13 (.aN 5),[0,0,1,2,3,4,5,6,7],false⟩,⟨i5 14 2 13,[8,0,1,2,3,4,5,6,7],false⟩,⟨aa9 1 14 12,[9,7,7,0,1,2,3,4,5,6,7],true⟩]) (so [cb 15 0,oo 16 (.aN 15),i5 17 2 16,cf 18 17,Js 19 18,oo 20 (.bin .sub 19 (ci 1)),cb 4 20] .ret)))⟩
theorem uJ:az Go.Proofs.Tryz.prog nM nN:=ag (by kernel_rfl)
abbrev ya:FuncId:=188
def yb:aP:=⟨25,⟨false,SBs⟩,[(.tmp 2)],
 (so [wt 2 0] (.seq (so [cb 3 0] (.block 0 (.seq (so [i9 5 3 1,cb 4 5] (.cond 4 .skip (so [i9 6 3 2,cb 4 6] (.cond 4 .skip (so [i9 7 3 3,cb 4 7] (.cond 4 .skip (so [i9 8 3 4,cb 4 8] (.cond 4 .skip (so [i9 9 3 5,cb 4 9] (.cond 4 .skip (so [i9 10 3 6,cb 4 10] (.cond 4 .skip (so [i9 11 3 7,cb 4 11] (.cond 4 .skip (.ops [i9 12 3 8,cb 4 12]))))))))))))))) (.cond 4 (so [wt 2 1] .ret) (.seq (so [i9 14 3 9,cb 13 14] (.cond 13 .skip (so [i9 15 3 10,cb 13 15] (.cond 13 .skip (so [i9 16 3 11,cb 13 16] (.cond 13 .skip (so [i9 17 3 12,cb 13 17] (.cond 13 .skip (so [i9 18 3 13,cb 13 18] (.cond 13 .skip (so [i9 19 3 14,cb 13 19] (.cond 13 .skip (so [i9 20 3 15,cb 13 20] (.cond 13 .skip (so [i9 21 3 16,cb 13 21] (.cond 13 .skip (.ops [i9 22 3 17,cb 13 22]))))))))))))))))) (.cond 13 (so [wt 2 2] .ret) (so [i9 24 3 18,cb 23 24] (.cond 23 (so [wt 2 3] .ret) .skip)))))))) (so [wt 2 0] .ret)))⟩
theorem Eu:az Go.Proofs.Tryz.prog ya yb:=ag (by kernel_rfl)
abbrev qu:FuncId:=189
def qw:aP:=⟨7,⟨false,SBs⟩,[(.tmp 3)],
 (so [AN 3 false] (so [cf 4 1,cb 5 0,abh 6 190 [4,5],cb 3 6] .ret))⟩
theorem yc:az Go.Proofs.Tryz.prog qu qw:=ag (by kernel_rfl)
abbrev tG:FuncId:=190
def tH:aP:=⟨26,⟨false,SBs⟩,[(.tmp 4)],
 (so [AN 4 false] (.seq (so [cb 6 0,Js 7 6,cb 8 1,Js 9 8,oo 10 (.bin .neq 7 9)] (.cond 10 (so [AN 4 false] .ret) .skip)) (.seq (so [cb 11 0,Js 12 11,wt 13 0] (.block 0 (.loop (so [abb 14 13 12] (.seq (.cond 14 .skip (.exit 0)) (.seq (.block 1 (so [cb 15 13,cb 5 15] (so [cb 16 0,cb 17 5,aa8 18 1 16 17,cf 19 18,cb 20 1,cb 21 5,aa8 22 1 20 21,cf 23 22,oo 24 (.bin .neq 19 23)] (.cond 24 (so [AN 4 false] .ret) .skip)))) (.ops [ON 25 13 1,cb 13 25]))))))) (so [AN 4 true] .ret))))⟩
theorem AX:az Go.Proofs.Tryz.prog tG tH:=ag (by kernel_rfl)
abbrev qx:FuncId:=191
def qy:aP:=⟨8,⟨false,SBs⟩,[(.tmp 3)],
 (so [abl 2 0,AN 3 false] (so [cf 4 1,oo 5 (.kl 193 [] [2]),abj 6 192 [4,5],oo 7 (.not 6),cb 3 7] .ret))⟩
theorem yd:az Go.Proofs.Tryz.prog qx qy:=ag (by kernel_rfl)
abbrev j6:FuncId:=192
def j7:aP:=⟨9,⟨false,SBs⟩,[(.tmp 4)],
 (so [AN 4 false] (so [cb 5 0,cb 6 1,abj 7 207 [5,6],oo 8 (.bin .geq 7 (ci 0)),cb 4 8] .ret))⟩
theorem rn:az Go.Proofs.Tryz.prog j6 j7:=ag (by kernel_rfl)
abbrev nO:FuncId:=193
def nP:aP:=⟨7,⟨false,SBs⟩,[(.tmp 3)],
 (so [AN 3 false] (so [cb 4 0,cf 5 1,oo 6 (.bin .neq 4 5),cb 3 6] .ret))⟩
theorem uK:az Go.Proofs.Tryz.prog nO nP:=ag (by kernel_rfl)
abbrev cm:FuncId:=194
def mC:aP:=⟨19,⟨false,SBs⟩,[],
 (so [cf 4 1,Js 5 4,oo 6 (.bin .sub 5 (ci 1)),cb 3 6] (.block 0 (.loop (.seq (so [cb 7 3,oo 8 (.bin .geq 7 (ci 0))] (.cond 8 .skip (.exit 0))) (.seq (.block 1 (so [cb 11 0,cb 12 3,cf 13 1,cb 14 3,aa8 15 5 13 14,aa7 16 5 15,oo 17 (.fF 11 [12,16]),oo 18 (.not 17)] (.cond 18 .ret .skip))) (.ops [cb 9 3,oo 10 (.bin .sub 9 (ci 1)),cb 3 10]))))))⟩
theorem tI:az Go.Proofs.Tryz.prog cm mC:=ag (by kernel_rfl)
abbrev lr:FuncId:=195
def lu:aP:=⟨15,⟨false,SBs⟩,[(.tmp 4)],
 (so [abl 2 0,oo 4 (.mov (.c .nilFunc))] (so [cf 6 2,oo 7 (.aN 6),i5 8 6 7,cf 9 8,Js 10 9,oo 5 (.alloc [abm]),aa9 1 5 10] (so [cf 11 2,cb 12 1,oo 13 (.sub 131 [11,12,(ci 0),(ci 0),(ci 0)])] (so [oo 14 (.kl 208 [] [2,5]),cb 4 14] .ret))))⟩
theorem sj:az Go.Proofs.Tryz.prog lr lu:=ag (by kernel_rfl)
abbrev j8:FuncId:=196
def j9:aP:=⟨18,⟨false,SBs⟩,[(.tmp 4)],
 (so [wt 4 0] (.seq (so [cb 8 0,oo 9 (.aN 8),i5 10 5 9,cf 11 10,cb 12 1,oo 13 (.lkp true none abm 11 12),cb 7 13,abk 14 7 0,abk 15 7 1,cb 5 14,cb 6 15] (so [cb 16 6] (.cond 16 (so [cb 17 5,cb 4 17] .ret) .skip))) (so [wt 4 (-1)] .ret)))⟩
theorem rq:az Go.Proofs.Tryz.prog j8 j9:=ag (by kernel_rfl)
abbrev o9:FuncId:=197
def pa:aP:=⟨12,⟨false,SBs⟩,[(.tmp 2)],
 (so [wt 2 0] (.seq (so [cb 3 0] (.block 0 (so [i9 5 3 3,cb 4 5] (.cond 4 (so [wt 2 6] .ret) (so [i9 7 3 4,cb 6 7] (.cond 6 (so [wt 2 7] .ret) (so [i9 9 3 5,cb 8 9] (.cond 8 (so [wt 2 8] .ret) (so [i9 11 3 6,cb 10 11] (.cond 10 (so [wt 2 9] .ret) .skip)))))))))) (so [wt 2 10] .ret)))⟩
theorem vX:az Go.Proofs.Tryz.prog o9 pa:=ag (by kernel_rfl)
abbrev mD:FuncId:=198
def mE:aP:=⟨9,⟨false,SBs⟩,[(.tmp 2)],
 (so [wt 2 0] (so [oo 4 (.kN none),on (.oC none 4 (.c (.str [103,101,116])) (ci 1)),on (.oC none 4 (.c (.str [112,117,116])) (ci 2)),on (.oC none 4 (.c (.str [100,101,108])) (ci 3)),on (.oC none 4 (.c (.str [112,117,115,104])) (ci 4)),on (.oC none 4 (.c (.str [112,111,112])) (ci 5)),on (.oC none 4 (.c (.str [115,101,110,100])) (ci 6)),on (.oC none 4 (.c (.str [114,101,99,118])) (ci 7)),cb 5 4,cb 3 5] (so [cb 6 3,cb 7 0,oo 8 (.lkp false none abm 6 7),cb 2 8] .ret)))⟩
theorem tJ:az Go.Proofs.Tryz.prog mD mE:=ag (by kernel_rfl)
abbrev lv:FuncId:=199
def lw:aP:=⟨10,⟨false,SBs⟩,[(.tmp 4)],
 (so [wt 4 0] (.seq (so [cb 5 1,oo 6 (.bin .eql 5 (.c abn))] (.cond 6 (so [wt 4 (-1)] .ret) .skip)) (so [cb 7 0,cb 8 1,abj 9 196 [7,8],cb 4 9] .ret)))⟩
theorem sk:az Go.Proofs.Tryz.prog lv lw:=ag (by kernel_rfl)
abbrev ka:FuncId:=204
def kb:aP:=⟨25,⟨false,SBs⟩,[(.tmp 2)],
 (so [wt 2 0] (so [cb 4 0,oo 5 (.sub 167 [4,(.c (.str [105,102]))])] (so [cb 6 0,abj 7 205 [6],oo 8 (.bf 1 1 [abm] [(0,7)]),cb 3 8] (so [cb 9 3,cb 10 0,abj 11 170 [10],oo 12 (.bf 1 1 [abm] [(0,11)]),oo 13 (.app false 1 8 9 12),cb 3 13] (.seq (so [cb 14 0,oo 15 (.sub 166 [14,(.c (.str [101,108,115,101]))])] (.cond 15 (.ops [cb 16 3,cb 17 0,abj 18 170 [17],oo 19 (.bf 1 1 [abm] [(0,18)]),oo 20 (.app false 1 8 16 19),cb 3 20]) .skip)) (so [cb 21 0,cb 22 3,oo 23 (.build [abm,abm,abn,abn,.nil] [(0,(1,(ci 13))),(4,(1,22))]),abj 24 187 [21,23],cb 2 24] .ret))))))⟩
theorem rx:az Go.Proofs.Tryz.prog ka kb:=ag (by kernel_rfl)
abbrev gW:FuncId:=205
def gX:aP:=⟨23,⟨false,SBs⟩,[(.tmp 2)],
 (so [wt 2 0] (so [cb 4 0,abj 5 214 [4],cb 3 5] (.seq (so [cb 6 0,abj 7 117 [6]] (.block 0 (so [oo 9 (.bin .eql 7 (.c (.str [60]))),cb 8 9] (.cond 8 (so [cb 10 0,cb 11 3,cb 12 0,oo 13 (.kl 214 [12] []),oo 14 (.sub 215 [10,(ci 6),11,13]),cb 2 14] .ret) (so [oo 16 (.bin .eql 7 (.c (.str [61,61]))),cb 15 16] (.cond 15 (so [cb 17 0,cb 18 3,cb 19 0,oo 20 (.kl 214 [19] []),oo 21 (.sub 215 [17,(ci 7),18,20]),cb 2 21] .ret) .skip)))))) (so [cb 22 3,cb 2 22] .ret))))⟩
theorem nQ:az Go.Proofs.Tryz.prog gW gX:=ag (by kernel_rfl)
abbrev kc:FuncId:=206
def kd:aP:=⟨62,⟨false,SBs⟩,[(.tmp 2)],
 (so [wt 2 0] (.seq (so [cb 6 0,abj 7 117 [6]] (.block 0 (.seq (so [oo 9 (.bin .eql 7 (.c (.str [115,112,97,119,110]))),cb 8 9] (.cond 8 .skip (.ops [oo 10 (.bin .eql 7 (.c (.str [112,97,114]))),cb 8 10]))) (.cond 8 (so [cb 11 0,oo 12 (.sub 216 [11,(.c abn)]),cb 2 12] .ret) (so [oo 14 (.bin .eql 7 (.c (.str [115,121,110,99]))),cb 13 14] (.cond 13 (so [cb 15 0,oo 16 (.sub 167 [15,(.c (.str [115,121,110,99]))])] (so [cb 17 0,oo 18 (.build [abm,abm,abn,abn,.nil] [(0,(1,(ci 12)))]),abj 19 187 [17,18],cb 2 19] .ret)) (so [oo 21 (.bin .eql 7 (.c (.str [114,101,116,117,114,110]))),cb 20 21] (.cond 20 (so [cb 22 0,oo 23 (.sub 217 [22,(ci 15)]),cb 2 23] .ret) (so [oo 25 (.bin .eql 7 (.c (.str [97,115,115,101,114,116]))),cb 24 25] (.cond 24 (so [cb 26 0,oo 27 (.sub 217 [26,(ci 16)]),cb 2 27] .ret) .skip)))))))))) (so [cb 28 0,abj 29 165 [28],cb 3 29] (.seq (so [cb 30 0,abj 31 117 [30],oo 32 (.bin .eql 31 (.c (.str [46])))] (.cond 32 (so [cb 33 0,cb 34 3,abj 35 218 [33,34],cb 4 35] (so [cb 36 0,cb 37 4,oo 38 (.bf 1 1 [abm] [(0,37)]),oo 39 (.build [abm,abm,abn,abn,.nil] [(0,(1,(ci 17))),(4,(1,38))]),abj 40 187 [36,39],cb 2 40] .ret)) .skip)) (so [cb 41 0,oo 42 (.sub 167 [41,(.c (.str [61]))])] (.seq (so [cb 43 0,abj 44 117 [43],oo 45 (.bin .eql 44 (.c (.str [115,112,97,119,110]))),cb 46 45,abf 46 false 47 0,oh 46 false 48 (.sub 117 [47]),oh 46 false 49 (.bin .eql 48 (.c (.str [112,97,114]))),Pe 50 46 49] (.cond 50 (so [cb 51 0,cb 52 3,abj 53 216 [51,52],cb 2 53] .ret) .skip)) (so [cb 54 0,abj 55 205 [54],cb 5 55] (so [cb 56 0,cb 57 3,cb 58 5,oo 59 (.bf 1 1 [abm] [(0,58)]),oo 60 (.build [abm,abm,abn,abn,.nil] [(0,(1,(ci 9))),(2,(1,57)),(4,(1,59))]),abj 61 187 [56,60],cb 2 61] .ret))))))))⟩
theorem ry:az Go.Proofs.Tryz.prog kc kd:=ag (by kernel_rfl)
abbrev nR:FuncId:=207
def nS:aP:=⟨19,⟨false,SBs⟩,[(.tmp 4)],
 (so [wt 4 0] (.seq (so [cb 6 0,Js 7 6,wt 8 0] (.block 0 (.loop (so [abb 9 8 7] (.seq (.cond 9 .skip (.exit 0)) (.seq (.block 1 (so [cb 10 8,cb 5 10] (so [cb 11 1,cb 12 0,cb 13 5,aa8 14 1 12 13,cf 15 14,oo 16 (.fF 11 [15])] (.cond 16 (so [cb 17 5,cb 4 17] .ret) .skip)))) (.ops [ON 18 8 1,cb 8 18]))))))) (so [wt 4 (-1)] .ret)))⟩
theorem uL:az Go.Proofs.Tryz.prog nR nS:=ag (by kernel_rfl)
abbrev jG:FuncId:=208
def jH:aP:=⟨14,⟨false,SBs⟩,[],
 (.ops [cf 2 0,oo 3 (.aN 2),i5 4 6 3,cf 5 4,cf 6 1,cf 7 0,oo 8 (.aN 7),i5 9 6 8,cf 10 9,Js 11 10,aa8 12 4 5 6,i5 13 1 12,aa9 1 13 11])⟩
theorem qz:az Go.Proofs.Tryz.prog jG jH:=ag (by kernel_rfl)
abbrev nT:FuncId:=214
def nU:aP:=⟨23,⟨false,SBs⟩,[(.tmp 2)],
 (so [wt 2 0] (so [cb 4 0,abj 5 223 [4],cb 3 5] (.block 0 (.loop (.block 1 (so [cb 6 0,abj 7 117 [6]] (.block 2 (so [oo 10 (.bin .eql 7 (.c (.str [43]))),cb 9 10] (.cond 9 (.ops [cb 11 0,cb 12 3,cb 13 0,oo 14 (.kl 223 [13] []),oo 15 (.sub 215 [11,(ci 3),12,14]),cb 3 15]) (so [oo 17 (.bin .eql 7 (.c (.str [45]))),cb 16 17] (.cond 16 (.ops [cb 18 0,cb 19 3,cb 20 0,oo 21 (.kl 223 [20] []),oo 22 (.sub 215 [18,(ci 4),19,21]),cb 3 22]) (so [cb 8 3,cb 2 8] .ret))))))))))))⟩
theorem uM:az Go.Proofs.Tryz.prog nT nU:=ag (by kernel_rfl)
abbrev mF:FuncId:=215
def mG:aP:=⟨26,⟨false,SBs⟩,[(.tmp 8)],
 (so [wt 8 0] (so [cb 10 0,oo 11 (.aN 10),i5 12 1 11,cf 13 12,ON 14 13 1,oo 15 (.aN 10),i5 16 1 15,aa9 1 16 14] (so [cb 17 3,oo 18 (.fF 17 []),cb 9 18] (so [cb 19 0,cb 20 1,cb 21 2,cb 22 9,oo 23 (.bf 1 2 [abm] [(0,21),(1,22)]),oo 24 (.build [abm,abm,abn,abn,.nil] [(0,(1,20)),(4,(1,23))]),abj 25 187 [19,24],cb 8 25] .ret))))⟩
theorem tK:az Go.Proofs.Tryz.prog mF mG:=ag (by kernel_rfl)
abbrev lx:FuncId:=216
def ly:aP:=⟨33,⟨false,SBs⟩,[(.tmp 4)],
 (so [wt 4 0] (so [wt 5 10] (.seq (so [cb 7 0,oo 8 (.sub 166 [7,(.c (.str [115,112,97,119,110]))]),oo 9 (.not 8)] (.cond 9 (so [cb 10 0,oo 11 (.sub 167 [10,(.c (.str [112,97,114]))])] (.ops [wt 5 11])) .skip)) (so [cb 12 5,cb 13 1,cb 14 0,abj 15 165 [14],oo 16 (.build [abm,abm,abn,abn,.nil] [(0,(1,12)),(2,(1,13)),(3,(1,15))]),oo 6 (.alloc [abm,abm,abn,abn,.nil]),aa9 5 6 16] (so [cb 17 0,abj 18 224 [17],i5 19 4 6,aa9 1 19 18] (.seq (so [cb 20 5,i9 21 20 11,cb 22 21,abe 22 true 23 4 6,abd 22 true 24 23,oh 22 true 25 (.len false 24),oh 22 true 26 (.bin .neq 25 (ci 2)),aa6 27 22 26] (.cond 27 (.ops [oo 28 (.build [] []),oo 29 (.yB 213 28),on (.panic 29)]) .skip)) (so [cb 30 0,aa7 31 5 6,abj 32 187 [30,31],cb 4 32] .ret)))))))⟩
theorem sn:az Go.Proofs.Tryz.prog lx ly:=ag (by kernel_rfl)
abbrev nV:FuncId:=217
def nW:aP:=⟨21,⟨false,SBs⟩,[(.tmp 4)],
 (so [wt 4 0] (so [cb 6 0,oo 7 (.aN 6),i5 8 1 7,cf 9 8,ON 10 9 1,oo 11 (.aN 6),i5 12 1 11,aa9 1 12 10] (so [cb 13 0,abj 14 205 [13],cb 5 14] (so [cb 15 0,cb 16 1,cb 17 5,oo 18 (.bf 1 1 [abm] [(0,17)]),oo 19 (.build [abm,abm,abn,abn,.nil] [(0,(1,16)),(4,(1,18))]),abj 20 187 [15,19],cb 4 20] .ret))))⟩
theorem uN:az Go.Proofs.Tryz.prog nV nW:=ag (by kernel_rfl)
abbrev mH:FuncId:=218
def mI:aP:=⟨18,⟨false,SBs⟩,[(.tmp 4)],
 (so [wt 4 0] (so [cb 6 0,oo 7 (.sub 167 [6,(.c (.str [46]))])] (so [cb 8 1,cb 9 0,abj 10 165 [9],oo 11 (.build [abm,abm,abn,abn,.nil] [(0,(1,(ci 8))),(2,(1,8)),(3,(1,10))]),oo 5 (.alloc [abm,abm,abn,abn,.nil]),aa9 5 5 11] (so [cb 12 0,abj 13 224 [12],i5 14 4 5,aa9 1 14 13] (so [cb 15 0,aa7 16 5 5,abj 17 187 [15,16],cb 4 17] .ret)))))⟩
theorem tL:az Go.Proofs.Tryz.prog mH mI:=ag (by kernel_rfl)
abbrev jI:FuncId:=223
def jJ:aP:=⟨15,⟨false,SBs⟩,[(.tmp 2)],
 (so [wt 2 0] (so [cb 4 0,abj 5 228 [4],cb 3 5] (.seq (.block 0 (.loop (.seq (so [cb 6 0,abj 7 117 [6],oo 8 (.bin .eql 7 (.c (.str [42])))] (.cond 8 .skip (.exit 0))) (.block 1 (.ops [cb 9 0,cb 10 3,cb 11 0,oo 12 (.kl 228 [11] []),oo 13 (.sub 215 [9,(ci 5),10,12]),cb 3 13]))))) (so [cb 14 3,cb 2 14] .ret))))⟩
theorem qA:az Go.Proofs.Tryz.prog jI jJ:=ag (by kernel_rfl)
abbrev iy:FuncId:=224
def iz:aP:=⟨8,⟨false,SBs⟩,[(.tmp 2)],
 (so [abl 1 0,oo 2 (.mov (.c .nil))] (so [oo 3 (.alloc [.nil])] (so [cf 4 1,oo 5 (.kl 229 [] [3,1]),abj 6 168 [4,5]] (so [cf 7 3,cb 2 7] .ret))))⟩
theorem oG:az Go.Proofs.Tryz.prog iy iz:=ag (by kernel_rfl)
abbrev jK:FuncId:=228
def jL:aP:=⟨54,⟨false,SBs⟩,[(.tmp 2)],
 (so [wt 2 0] (.seq (so [cb 5 0,oo 6 (.sub 166 [5,(.c (.str [40]))])] (.cond 6 (so [cb 7 0,abj 8 205 [7],cb 3 8] (so [cb 9 0,oo 10 (.sub 167 [9,(.c (.str [41]))])] (so [cb 11 3,cb 2 11] .ret))) .skip)) (.seq (so [cb 12 0,oo 13 (.aN 12),i5 14 1 13,cf 15 14,cb 16 0,oo 17 (.aN 16),i5 18 0 17,cf 19 18,Js 20 19,abb 21 15 20,cb 22 21,abf 22 true 23 0,oh 22 true 24 (.aN 23),abe 22 true 25 0 24,abd 22 true 26 25,abf 22 true 27 0,oh 22 true 28 (.aN 27),abe 22 true 29 1 28,abd 22 true 30 29,oh 22 true 31 (.idx 4 26 30),abe 22 true 32 0 31,abd 22 true 33 32,abg 22 true 34 33 2,aa6 35 22 34] (.cond 35 (so [cb 36 0,cb 37 0,oo 38 (.sub 164 [37,(ci 2)]),oo 39 (.yC false 1 2 38),oo 40 (.build [abm,abm,abn,abn,.nil] [(0,(1,(ci 1))),(1,(1,39))]),abj 41 187 [36,40],cb 2 41] .ret) .skip)) (so [cb 42 0,abj 43 165 [42],cb 4 43] (.seq (so [cb 44 0,abj 45 117 [44],oo 46 (.bin .eql 45 (.c (.str [46])))] (.cond 46 (so [cb 47 0,cb 48 4,abj 49 218 [47,48],cb 2 49] .ret) .skip)) (so [cb 50 0,cb 51 4,oo 52 (.build [abm,abm,abn,abn,.nil] [(0,(1,(ci 2))),(2,(1,51))]),abj 53 187 [50,52],cb 2 53] .ret))))))⟩
theorem qB:az Go.Proofs.Tryz.prog jK jL:=ag (by kernel_rfl)
abbrev gq:FuncId:=229
def gw:aP:=⟨7,⟨false,SBs⟩,[],
 (.draw 3 [⟨cf 2 0,[],false⟩,⟨cf 3 1,[],false⟩,⟨abj 4 205 [3],[1],true⟩,⟨oo 5 (.bf 1 1 [abm] [(0,4)]),[2],false⟩,⟨oo 6 (.app false 1 8 2 5),[0,3,2],true⟩,⟨aa9 1 0 6,[4,4,0,1,2,3,4],true⟩])⟩
theorem mX:az Go.Proofs.Tryz.prog gq gw:=ag (by kernel_rfl)
end Uw.Tryz
set_option maxRecDepth 100000
namespace Uw.Tryz
open Go Uw
def rz:aP:=⟨203,⟨true,SBs⟩,[(.tmp 2)],
 (so [abl 1 0,AN 2 false] (.seq (so [aa7 17 6 1,abh 18 6 [17],oo 19 (.not 18)] (.cond 19 (so [abh 20 8 [],cb 2 20] .ret) .skip)) (so [aa7 21 6 1,abh 22 9 [21],oo 3 (.alloc [abm,abm,.nil,.nil,.nil,.nil,.nil,.nil,abm,abm,.nil]),aa9 11 3 22] (.seq (so [i5 23 0 3,cf 24 23,oo 25 (.bin .neq 24 (ci 0)),cb 26 25,abe 26 false 27 7 3,abd 26 false 28 27,oh 26 false 29 (.len false 28),oh 26 false 30 (.bin .gtr 29 (ci 400)),Pe 31 26 30] (.cond 31 (so [abh 32 8 [],cb 2 32] .ret) .skip)) (so [wt 4 1] (so [i5 33 7 3,cf 34 33,Js 35 34,oo 36 (.bin .mul (ci 4) 35),ON 37 36 4,oo 38 (.Ax true 1 8 [abm] 37 37),oo 5 (.alloc [.nil]),aa9 1 5 38] (so [cf 39 5,oo 40 (.idx 1 39 (ci 0)),on (.store 1 40 (ci 2))] (so [oo 41 (.kl 14 [] [5]),cb 6 41] (so [wt 7 0,wt 8 0] (.seq (so [i5 42 7 3,cf 43 42,Js 44 43,wt 45 0] (.block 0 (.loop (so [abb 46 45 44] (.seq (.cond 46 .skip (.exit 0)) (.seq (.block 1 (so [aa8 47 5 43 45,aa7 48 5 47,oo 10 (.alloc [abm,abm,abm,abm,abm]),aa9 5 10 48] (so [cb 49 6,i5 50 1 10,cf 51 50,oo 52 (.fF 49 [51,(ci 2),(ci 3)]),cb 11 52] (.seq (so [i5 53 0 10,cf 54 53] (.block 2 (so [i9 56 54 1,cb 55 56] (.cond 55 (so [cb 57 7,ON 58 57 1,cb 7 58] (so [cb 59 11,cb 60 59,abf 60 true 61 6,abe 60 true 62 2 10,abd 60 true 63 62,oh 60 true 64 (.fF 61 [63,(ci 0),(ci 2)]),aa6 65 60 64,cb 66 65,abf 66 true 67 6,abe 66 true 68 3 10,abd 66 true 69 68,oh 66 true 70 (.fF 67 [69,(ci 0),(ci 2)]),aa6 71 66 70,cb 72 71,abe 72 true 73 2 10,abd 72 true 74 73,abf 72 true 75 4,oh 72 true 76 (.bin .eql 74 75),aa6 77 72 76,cb 78 77,abe 78 true 79 3 10,abd 78 true 80 79,abf 78 true 81 4,oh 78 true 82 (.bin .add 81 (ci 1)),oh 78 true 83 (.bin .eql 80 82),aa6 84 78 83,cb 11 84] (so [cb 85 4,ON 86 85 2,cb 4 86] (.seq (so [i5 87 4 10,cf 88 87,cb 89 4,oo 90 (.bin .eql 88 89)] (.cond 90 (so [cb 91 11,cb 92 91,abf 92 true 93 6,abe 92 true 94 4 10,abd 92 true 95 94,oh 92 true 96 (.fF 93 [95,(ci 0),(ci 1)]),aa6 97 92 96,cb 11 97] (.ops [cb 98 4,ON 99 98 1,cb 4 99])) .skip)) (.ops [cb 100 11,cb 101 100,abe 101 true 102 4 10,abd 101 true 103 102,oh 101 true 104 (.bin .geq 103 (ci 0)),aa6 105 101 104,cb 106 105,abe 106 true 107 4 10,abd 106 true 108 107,abf 106 true 109 4,oh 106 true 110 (.bin .lss 108 109),aa6 111 106 110,cb 112 111,abd 112 true 113 5,abe 112 true 114 4 10,abd 112 true 115 114,oh 112 true 116 (.idx 1 113 115),abd 112 true 117 116,abg 112 true 118 117 1,aa6 119 112 118,cb 11 119]))))) (so [i9 121 54 2,cb 120 121] (.cond 120 (so [cb 122 8,ON 123 122 1,cb 8 123] (.ops [cb 124 11,cb 125 124,abe 125 true 126 4 10,abd 125 true 127 126,oh 125 true 128 (.bin .geq 127 (ci 0)),aa6 129 125 128,cb 130 129,abe 130 true 131 4 10,abd 130 true 132 131,abf 130 true 133 4,oh 130 true 134 (.bin .lss 132 133),aa6 135 130 134,cb 136 135,abd 136 true 137 5,abe 136 true 138 4 10,abd 136 true 139 138,oh 136 true 140 (.idx 1 137 139),abd 136 true 141 140,abg 136 true 142 141 1,aa6 143 136 142,cb 11 143])) (so [i9 145 54 3,cb 144 145] (.cond 144 (.ops [cb 146 11,cb 147 146,abf 147 true 148 6,abe 147 true 149 4 10,abd 147 true 150 149,oh 147 true 151 (.fF 148 [150,(ci 1),(ci 2)]),aa6 152 147 151,cb 11 152]) (so [AN 2 false] .ret))))))))) (so [cb 153 11,oo 154 (.not 153)] (.cond 154 (so [AN 2 false] .ret) .skip)))))) (.ops [ON 155 45 1,cb 45 155]))))))) (so [wt 12 0] (.seq (so [cf 156 5,Js 157 156,wt 158 0] (.block 3 (.loop (so [abb 159 158 157] (.seq (.cond 159 .skip (.exit 3)) (.seq (.block 4 (so [aa8 160 1 156 158,cf 161 160,cb 14 161] (.seq (so [cb 162 14,i9 163 162 1] (.cond 163 (so [AN 2 false] .ret) .skip)) (so [cb 164 14,i9 165 164 2] (.cond 165 (.ops [cb 166 12,ON 167 166 1,cb 12 167]) .skip))))) (.ops [ON 168 158 1,cb 158 168]))))))) (.seq (so [i5 169 6 3,cf 170 169,Js 171 170,wt 172 0] (.block 5 (.loop (so [abb 173 172 171] (.seq (.cond 173 .skip (.exit 5)) (.seq (.block 6 (so [aa8 174 10 170 172,aa7 175 10 174,oo 16 (.alloc [abm,.nil,abm,abm,abm,abm,abm,abm,abm,(.bool false)]),aa9 10 16 175] (so [i5 176 0 16,cf 177 176,oo 178 (.bin .lss 177 (ci 0)),cb 179 178,abe 179 false 180 0 16,abd 179 false 181 180,abf 179 false 182 4,oh 179 false 183 (.bin .geq 181 182),Pe 184 179 183] (.cond 184 (so [AN 2 false] .ret) .skip)))) (.ops [ON 185 172 1,cb 172 185]))))))) (so [abh 186 8 [],cb 187 186,abf 187 true 188 7,abf 187 true 189 8,oh 187 true 190 (.bin .eql 188 189),aa6 191 187 190,cb 192 191,abe 192 true 193 9 3,abd 192 true 194 193,abf 192 true 195 7,oh 192 true 196 (.bin .add 195 (ci 1)),oh 192 true 197 (.bin .eql 194 196),aa6 198 192 197,cb 199 198,abf 199 true 200 12,abg 199 true 201 200 1,aa6 202 199 201,cb 2 202] .ret))))))))))))))⟩
theorem dU:az Go.Proofs.Tryz.prog kS rz:=ag (by kernel_rfl)
end Uw.Tryz
