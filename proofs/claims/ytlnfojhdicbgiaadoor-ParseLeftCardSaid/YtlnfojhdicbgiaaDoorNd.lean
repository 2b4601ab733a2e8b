/- Nd: Tg Th Tj Tk (merged by merge2.py from the working texts). -/
import Derived.Test.YtlnfojhdicbgiaaDoorNc
import Derived.Test.YtlnfojhdicbgiaaDoorBu
import Derived.WalkKit
import Derived.BigCall
import Derived.Test.YtlnfojhdicbgiaaDoorN6
import Derived.Test.YtlnfojhdicbgiaaDoorNb
set_option maxRecDepth 4000
set_option maxHeartbeats 2000000
set_option linter.unusedSimpArgs false
set_option linter.unnecessarySimpa false
set_option linter.unusedVariables false
set_option linter.unusedSectionVars false
namespace Uw.Tryd
open Go Uw
theorem w_set (D F : List (List Dat)) (NS : List Nod) (s : Str) (q0 q1 : Nat) (p p1 p2 : Nat → Bool) (ws ws1 ws2 ws3 : List Str)
   (h1 : SatE P0 n_parse_writer_node [.ptr 0 0, .d (I q0)] (wrN D F NS p ws) (.agg [.d (I 9), .d (I 0), .d (.str s), .d (.str []), .d (intsD [(q1 : Int)])]) (wrN D F NS p1 ws))
   (h2 : SatE P0 n_parse_writer_put [.ptr 0 0, .d (.slice 1 (rowT [s, [61]]) true)] (wrN D F NS p1 ws) (.tuple []) (wrN D F NS p1 ws1))
   (h3 : SatE P0 n_parse_writer_expression [.ptr 0 0, .d (I q1), .d (I 0)] (wrN D F NS p1 ws1) (.tuple []) (wrN D F NS p2 ws2))
   (h4 : SatE P0 n_parse_writer_put [.ptr 0 0, .d (.slice 1 (rowT [[59]]) true)] (wrN D F NS p2 ws2) (.tuple []) (wrN D F NS p2 ws3)) :
   SatE P0 n_parse_writer_statement [.ptr 0 0, .d (I q0)] (wrN D F NS p ws) (.tuple []) (wrN D F NS p2 ws3) := by
 have he0 : ([(q1 : Int)].map fun i => [I i])[Int.toNat 0]? = some [I q1] := rfl
 refine SatE_by is_parse_writer_statement rfl ?_
 ((repeat' first|refine aw ?_|refine bw (fun _=>?_) fun _=>?_))
 refine WT_frE 3 [0, 1, 2] h1 ?_
 ((repeat' first|refine aw ?_|refine bw (fun _=>?_) fun _=>?_))
 refine WT_frE 4 [0, 1, 2] h2 ?_
 ((repeat' first|refine aw ?_|refine bw (fun _=>?_) fun _=>?_))
 refine WT_frE 4 [0, 1, 2] h3 ?_
 ((repeat' first|refine aw ?_|refine bw (fun _=>?_) fun _=>?_))
 refine WT_frE 4 [0, 1, 2] h4 ?_
 ((repeat' first|refine aw ?_|refine bw (fun _=>?_) fun _=>?_))
 exact WT_eend 3 rfl rfl (by exact Uw.wW)
theorem w_one15 (D F : List (List Dat)) (NS : List Nod) (q0 q1 : Nat) (p p1 p2 : Nat → Bool) (ws ws1 ws2 ws3 : List Str)
   (h1 : SatE P0 n_parse_writer_node [.ptr 0 0, .d (I q0)] (wrN D F NS p ws) (.agg [.d (I 15), .d (I 0), .d (.str []), .d (.str []), .d (intsD [(q1 : Int)])]) (wrN D F NS p1 ws))
   (h2 : SatE P0 n_parse_writer_put [.ptr 0 0, .d (.slice 1 (rowT [sReturn]) true)] (wrN D F NS p1 ws) (.tuple []) (wrN D F NS p1 ws1))
   (h3 : SatE P0 n_parse_writer_expression [.ptr 0 0, .d (I q1), .d (I 0)] (wrN D F NS p1 ws1) (.tuple []) (wrN D F NS p2 ws2))
   (h4 : SatE P0 n_parse_writer_put [.ptr 0 0, .d (.slice 1 (rowT [[59]]) true)] (wrN D F NS p2 ws2) (.tuple []) (wrN D F NS p2 ws3)) :
   SatE P0 n_parse_writer_statement [.ptr 0 0, .d (I q0)] (wrN D F NS p ws) (.tuple []) (wrN D F NS p2 ws3) := by
 have he0 : ([(q1 : Int)].map fun i => [I i])[Int.toNat 0]? = some [I q1] := rfl
 unfold sReturn at *
 refine SatE_by is_parse_writer_statement rfl ?_
 ((repeat' first|refine aw ?_|refine bw (fun _=>?_) fun _=>?_))
 refine WT_frE 3 [0, 1, 2] h1 ?_
 ((repeat' first|refine aw ?_|refine bw (fun _=>?_) fun _=>?_))
 refine WT_frE 4 [0, 1, 2] h2 ?_
 ((repeat' first|refine aw ?_|refine bw (fun _=>?_) fun _=>?_))
 refine WT_frE 4 [0, 1, 2] h3 ?_
 ((repeat' first|refine aw ?_|refine bw (fun _=>?_) fun _=>?_))
 refine WT_frE 4 [0, 1, 2] h4 ?_
 ((repeat' first|refine aw ?_|refine bw (fun _=>?_) fun _=>?_))
 exact WT_eend 3 rfl rfl (by exact Uw.wW)
theorem w_one16 (D F : List (List Dat)) (NS : List Nod) (q0 q1 : Nat) (p p1 p2 : Nat → Bool) (ws ws1 ws2 ws3 : List Str)
   (h1 : SatE P0 n_parse_writer_node [.ptr 0 0, .d (I q0)] (wrN D F NS p ws) (.agg [.d (I 16), .d (I 0), .d (.str []), .d (.str []), .d (intsD [(q1 : Int)])]) (wrN D F NS p1 ws))
   (h2 : SatE P0 n_parse_writer_put [.ptr 0 0, .d (.slice 1 (rowT [sAssert]) true)] (wrN D F NS p1 ws) (.tuple []) (wrN D F NS p1 ws1))
   (h3 : SatE P0 n_parse_writer_expression [.ptr 0 0, .d (I q1), .d (I 0)] (wrN D F NS p1 ws1) (.tuple []) (wrN D F NS p2 ws2))
   (h4 : SatE P0 n_parse_writer_put [.ptr 0 0, .d (.slice 1 (rowT [[59]]) true)] (wrN D F NS p2 ws2) (.tuple []) (wrN D F NS p2 ws3)) :
   SatE P0 n_parse_writer_statement [.ptr 0 0, .d (I q0)] (wrN D F NS p ws) (.tuple []) (wrN D F NS p2 ws3) := by
 have he0 : ([(q1 : Int)].map fun i => [I i])[Int.toNat 0]? = some [I q1] := rfl
 unfold sAssert at *
 refine SatE_by is_parse_writer_statement rfl ?_
 ((repeat' first|refine aw ?_|refine bw (fun _=>?_) fun _=>?_))
 refine WT_frE 3 [0, 1, 2] h1 ?_
 ((repeat' first|refine aw ?_|refine bw (fun _=>?_) fun _=>?_))
 refine WT_frE 4 [0, 1, 2] h2 ?_
 ((repeat' first|refine aw ?_|refine bw (fun _=>?_) fun _=>?_))
 refine WT_frE 4 [0, 1, 2] h3 ?_
 ((repeat' first|refine aw ?_|refine bw (fun _=>?_) fun _=>?_))
 refine WT_frE 4 [0, 1, 2] h4 ?_
 ((repeat' first|refine aw ?_|refine bw (fun _=>?_) fun _=>?_))
 exact WT_eend 3 rfl rfl (by exact Uw.wW)
theorem w_act (D F : List (List Dat)) (NS : List Nod) (q0 q1 : Nat) (p p1 p2 : Nat → Bool) (ws ws1 ws2 ws3 : List Str)
   (h1 : SatE P0 n_parse_writer_node [.ptr 0 0, .d (I q0)] (wrN D F NS p ws) (.agg [.d (I 17), .d (I 0), .d (.str []), .d (.str []), .d (intsD [(q1 : Int)])]) (wrN D F NS p1 ws))
   (h3 : SatE P0 n_parse_writer_expression [.ptr 0 0, .d (I q1), .d (I 0)] (wrN D F NS p1 ws) (.tuple []) (wrN D F NS p2 ws2))
   (h4 : SatE P0 n_parse_writer_put [.ptr 0 0, .d (.slice 1 (rowT [[59]]) true)] (wrN D F NS p2 ws2) (.tuple []) (wrN D F NS p2 ws3)) :
   SatE P0 n_parse_writer_statement [.ptr 0 0, .d (I q0)] (wrN D F NS p ws) (.tuple []) (wrN D F NS p2 ws3) := by
 have he0 : ([(q1 : Int)].map fun i => [I i])[Int.toNat 0]? = some [I q1] := rfl
 refine SatE_by is_parse_writer_statement rfl ?_
 ((repeat' first|refine aw ?_|refine bw (fun _=>?_) fun _=>?_))
 refine WT_frE 3 [0, 1, 2] h1 ?_
 ((repeat' first|refine aw ?_|refine bw (fun _=>?_) fun _=>?_))
 refine WT_frE 4 [0, 1, 2] h3 ?_
 ((repeat' first|refine aw ?_|refine bw (fun _=>?_) fun _=>?_))
 refine WT_frE 4 [0, 1, 2] h4 ?_
 ((repeat' first|refine aw ?_|refine bw (fun _=>?_) fun _=>?_))
 exact WT_eend 3 rfl rfl (by exact Uw.wW)
theorem w_sync (D F : List (List Dat)) (NS : List Nod) (q0 : Nat) (p p1 : Nat → Bool) (ws ws1 ws2 : List Str)
   (h1 : SatE P0 n_parse_writer_node [.ptr 0 0, .d (I q0)] (wrN D F NS p ws) (.agg [.d (I 12), .d (I 0), .d (.str []), .d (.str []), .d (intsD [])]) (wrN D F NS p1 ws))
   (h2 : SatE P0 n_parse_writer_put [.ptr 0 0, .d (.slice 1 (rowT [sSync]) true)] (wrN D F NS p1 ws) (.tuple []) (wrN D F NS p1 ws1))
   (h3 : SatE P0 n_parse_writer_put [.ptr 0 0, .d (.slice 1 (rowT [[59]]) true)] (wrN D F NS p1 ws1) (.tuple []) (wrN D F NS p1 ws2)) :
   SatE P0 n_parse_writer_statement [.ptr 0 0, .d (I q0)] (wrN D F NS p ws) (.tuple []) (wrN D F NS p1 ws2) := by
 unfold sSync at *
 refine SatE_by is_parse_writer_statement rfl ?_
 ((repeat' first|refine aw ?_|refine bw (fun _=>?_) fun _=>?_))
 refine WT_frE 3 [0, 1, 2] h1 ?_
 ((repeat' first|refine aw ?_|refine bw (fun _=>?_) fun _=>?_))
 refine WT_frE 4 [0, 1, 2] h2 ?_
 ((repeat' first|refine aw ?_|refine bw (fun _=>?_) fun _=>?_))
 refine WT_frE 4 [0, 1, 2] h3 ?_
 ((repeat' first|refine aw ?_|refine bw (fun _=>?_) fun _=>?_))
 exact WT_eend 3 rfl rfl (by exact Uw.wW)
theorem w_task10 (D F : List (List Dat)) (NS : List Nod) (to f : Str) (ps : List Int) (q0 : Nat) (p p1 p2 : Nat → Bool) (ws ws1 ws2 ws3 : List Str)
   (h1 : SatE P0 n_parse_writer_node [.ptr 0 0, .d (I q0)] (wrN D F NS p ws) (.agg [.d (I 10), .d (I 0), .d (.str to), .d (.str f), .d (intsD ps)]) (wrN D F NS p1 ws))
   (h2 : SatE P0 n_parse_writer_child [.ptr 0 0, .agg [.d (I 10), .d (I 0), .d (.str to), .d (.str f), .d (intsD ps)]] (wrN D F NS p1 ws) (.tuple []) (wrN D F NS p2 ws2))
   (h3 : SatE P0 n_parse_writer_put [.ptr 0 0, .d (.slice 1 (rowT [[59]]) true)] (wrN D F NS p2 ws2) (.tuple []) (wrN D F NS p2 ws3)) :
   SatE P0 n_parse_writer_statement [.ptr 0 0, .d (I q0)] (wrN D F NS p ws) (.tuple []) (wrN D F NS p2 ws3) := by
 refine SatE_by is_parse_writer_statement rfl ?_
 ((repeat' first|refine aw ?_|refine bw (fun _=>?_) fun _=>?_))
 refine WT_frE 3 [0, 1, 2] h1 ?_
 ((repeat' first|refine aw ?_|refine bw (fun _=>?_) fun _=>?_))
 refine WT_frE 4 [0, 1, 2] h2 ?_
 ((repeat' first|refine aw ?_|refine bw (fun _=>?_) fun _=>?_))
 refine WT_frE 4 [0, 1, 2] h3 ?_
 ((repeat' first|refine aw ?_|refine bw (fun _=>?_) fun _=>?_))
 exact WT_eend 3 rfl rfl (by exact Uw.wW)
theorem w_task11 (D F : List (List Dat)) (NS : List Nod) (to f : Str) (ps : List Int) (q0 : Nat) (p p1 p2 : Nat → Bool) (ws ws1 ws2 ws3 : List Str)
   (h1 : SatE P0 n_parse_writer_node [.ptr 0 0, .d (I q0)] (wrN D F NS p ws) (.agg [.d (I 11), .d (I 0), .d (.str to), .d (.str f), .d (intsD ps)]) (wrN D F NS p1 ws))
   (h2 : SatE P0 n_parse_writer_child [.ptr 0 0, .agg [.d (I 11), .d (I 0), .d (.str to), .d (.str f), .d (intsD ps)]] (wrN D F NS p1 ws) (.tuple []) (wrN D F NS p2 ws2))
   (h3 : SatE P0 n_parse_writer_put [.ptr 0 0, .d (.slice 1 (rowT [[59]]) true)] (wrN D F NS p2 ws2) (.tuple []) (wrN D F NS p2 ws3)) :
   SatE P0 n_parse_writer_statement [.ptr 0 0, .d (I q0)] (wrN D F NS p ws) (.tuple []) (wrN D F NS p2 ws3) := by
 refine SatE_by is_parse_writer_statement rfl ?_
 ((repeat' first|refine aw ?_|refine bw (fun _=>?_) fun _=>?_))
 refine WT_frE 3 [0, 1, 2] h1 ?_
 ((repeat' first|refine aw ?_|refine bw (fun _=>?_) fun _=>?_))
 refine WT_frE 4 [0, 1, 2] h2 ?_
 ((repeat' first|refine aw ?_|refine bw (fun _=>?_) fun _=>?_))
 refine WT_frE 4 [0, 1, 2] h3 ?_
 ((repeat' first|refine aw ?_|refine bw (fun _=>?_) fun _=>?_))
 exact WT_eend 3 rfl rfl (by exact Uw.wW)
theorem w_loop (D F : List (List Dat)) (NS : List Nod) (q0 q1 q2 : Nat) (p p1 p2 p3 : Nat → Bool) (ws ws1 ws2 ws3 : List Str)
   (h1 : SatE P0 n_parse_writer_node [.ptr 0 0, .d (I q0)] (wrN D F NS p ws) (.agg [.d (I 14), .d (I 0), .d (.str []), .d (.str []), .d (intsD [(q1 : Int), (q2 : Int)])]) (wrN D F NS p1 ws))
   (h2 : SatE P0 n_parse_writer_put [.ptr 0 0, .d (.slice 1 (rowT [sWhile]) true)] (wrN D F NS p1 ws) (.tuple []) (wrN D F NS p1 ws1))
   (h3 : SatE P0 n_parse_writer_expression [.ptr 0 0, .d (I q1), .d (I 0)] (wrN D F NS p1 ws1) (.tuple []) (wrN D F NS p2 ws2))
   (h4 : SatE P0 n_parse_writer_block [.ptr 0 0, .d (I q2)] (wrN D F NS p2 ws2) (.tuple []) (wrN D F NS p3 ws3)) :
   SatE P0 n_parse_writer_statement [.ptr 0 0, .d (I q0)] (wrN D F NS p ws) (.tuple []) (wrN D F NS p3 ws3) := by
 have hlen : ([(q1 : Int), (q2 : Int)].map fun i => [I i]).length = 2 := rfl
 have he0 : ([(q1 : Int), (q2 : Int)].map fun i => [I i])[Int.toNat 0]? = some [I q1] := rfl
 have he1 : ([(q1 : Int), (q2 : Int)].map fun i => [I i])[Int.toNat 1]? = some [I q2] := rfl
 unfold sWhile at *
 refine SatE_by is_parse_writer_statement rfl ?_
 ((repeat' first|refine aw ?_|refine bw (fun _=>?_) fun _=>?_))
 refine WT_frE 3 [0, 1, 2] h1 ?_
 ((repeat' first|refine aw ?_|refine bw (fun _=>?_) fun _=>?_))
 refine WT_frE 4 [0, 1, 2] h2 ?_
 ((repeat' first|refine aw ?_|refine bw (fun _=>?_) fun _=>?_))
 refine WT_frE 4 [0, 1, 2] h3 ?_
 ((repeat' first|refine aw ?_|refine bw (fun _=>?_) fun _=>?_))
 refine WT_frE 4 [0, 1, 2] h4 ?_
 ((repeat' first|refine aw ?_|refine bw (fun _=>?_) fun _=>?_))
 exact WT_eret 3 rfl rfl (by exact Uw.wW)
theorem w_if1 (D F : List (List Dat)) (NS : List Nod) (q0 q1 q2 : Nat) (p p1 p2 p3 : Nat → Bool) (ws ws1 ws2 ws3 : List Str)
   (h1 : SatE P0 n_parse_writer_node [.ptr 0 0, .d (I q0)] (wrN D F NS p ws) (.agg [.d (I 13), .d (I 0), .d (.str []), .d (.str []), .d (intsD [(q1 : Int), (q2 : Int)])]) (wrN D F NS p1 ws))
   (h2 : SatE P0 n_parse_writer_put [.ptr 0 0, .d (.slice 1 (rowT [sIf]) true)] (wrN D F NS p1 ws) (.tuple []) (wrN D F NS p1 ws1))
   (h3 : SatE P0 n_parse_writer_expression [.ptr 0 0, .d (I q1), .d (I 0)] (wrN D F NS p1 ws1) (.tuple []) (wrN D F NS p2 ws2))
   (h4 : SatE P0 n_parse_writer_block [.ptr 0 0, .d (I q2)] (wrN D F NS p2 ws2) (.tuple []) (wrN D F NS p3 ws3)) :
   SatE P0 n_parse_writer_statement [.ptr 0 0, .d (I q0)] (wrN D F NS p ws) (.tuple []) (wrN D F NS p3 ws3) := by
 have hlen : ([(q1 : Int), (q2 : Int)].map fun i => [I i]).length = 2 := rfl
 have he0 : ([(q1 : Int), (q2 : Int)].map fun i => [I i])[Int.toNat 0]? = some [I q1] := rfl
 have he1 : ([(q1 : Int), (q2 : Int)].map fun i => [I i])[Int.toNat 1]? = some [I q2] := rfl
 unfold sIf at *
 refine SatE_by is_parse_writer_statement rfl ?_
 ((repeat' first|refine aw ?_|refine bw (fun _=>?_) fun _=>?_))
 refine WT_frE 3 [0, 1, 2] h1 ?_
 ((repeat' first|refine aw ?_|refine bw (fun _=>?_) fun _=>?_))
 refine WT_frE 4 [0, 1, 2] h2 ?_
 ((repeat' first|refine aw ?_|refine bw (fun _=>?_) fun _=>?_))
 refine WT_frE 4 [0, 1, 2] h3 ?_
 ((repeat' first|refine aw ?_|refine bw (fun _=>?_) fun _=>?_))
 refine WT_frE 4 [0, 1, 2] h4 ?_
 ((repeat' first|refine aw ?_|refine bw (fun _=>?_) fun _=>?_))
 exact WT_eret 3 rfl rfl (by exact Uw.wW)
theorem w_if2 (D F : List (List Dat)) (NS : List Nod) (q0 q1 q2 q3 : Nat) (p p1 p2 p3 p4 : Nat → Bool) (ws ws1 ws2 ws3 ws4 ws5 : List Str)
   (h1 : SatE P0 n_parse_writer_node [.ptr 0 0, .d (I q0)] (wrN D F NS p ws) (.agg [.d (I 13), .d (I 0), .d (.str []), .d (.str []), .d (intsD [(q1 : Int), (q2 : Int), (q3 : Int)])]) (wrN D F NS p1 ws))
   (h2 : SatE P0 n_parse_writer_put [.ptr 0 0, .d (.slice 1 (rowT [sIf]) true)] (wrN D F NS p1 ws) (.tuple []) (wrN D F NS p1 ws1))
   (h3 : SatE P0 n_parse_writer_expression [.ptr 0 0, .d (I q1), .d (I 0)] (wrN D F NS p1 ws1) (.tuple []) (wrN D F NS p2 ws2))
   (h4 : SatE P0 n_parse_writer_block [.ptr 0 0, .d (I q2)] (wrN D F NS p2 ws2) (.tuple []) (wrN D F NS p3 ws3))
   (h5 : SatE P0 n_parse_writer_put [.ptr 0 0, .d (.slice 1 (rowT [sElse]) true)] (wrN D F NS p3 ws3) (.tuple []) (wrN D F NS p3 ws4))
   (h6 : SatE P0 n_parse_writer_block [.ptr 0 0, .d (I q3)] (wrN D F NS p3 ws4) (.tuple []) (wrN D F NS p4 ws5)) :
   SatE P0 n_parse_writer_statement [.ptr 0 0, .d (I q0)] (wrN D F NS p ws) (.tuple []) (wrN D F NS p4 ws5) := by
 have hlen : ([(q1 : Int), (q2 : Int), (q3 : Int)].map fun i => [I i]).length = 3 := rfl
 have he0 : ([(q1 : Int), (q2 : Int), (q3 : Int)].map fun i => [I i])[Int.toNat 0]? = some [I q1] := rfl
 have he1 : ([(q1 : Int), (q2 : Int), (q3 : Int)].map fun i => [I i])[Int.toNat 1]? = some [I q2] := rfl
 have he2 : ([(q1 : Int), (q2 : Int), (q3 : Int)].map fun i => [I i])[Int.toNat 2]? = some [I q3] := rfl
 unfold sIf sElse at *
 refine SatE_by is_parse_writer_statement rfl ?_
 ((repeat' first|refine aw ?_|refine bw (fun _=>?_) fun _=>?_))
 refine WT_frE 3 [0, 1, 2] h1 ?_
 ((repeat' first|refine aw ?_|refine bw (fun _=>?_) fun _=>?_))
 refine WT_frE 4 [0, 1, 2] h2 ?_
 ((repeat' first|refine aw ?_|refine bw (fun _=>?_) fun _=>?_))
 refine WT_frE 4 [0, 1, 2] h3 ?_
 ((repeat' first|refine aw ?_|refine bw (fun _=>?_) fun _=>?_))
 refine WT_frE 4 [0, 1, 2] h4 ?_
 ((repeat' first|refine aw ?_|refine bw (fun _=>?_) fun _=>?_))
 refine WT_frE 4 [0, 1, 2] h5 ?_
 ((repeat' first|refine aw ?_|refine bw (fun _=>?_) fun _=>?_))
 refine WT_frE 4 [0, 1, 2] h6 ?_
 ((repeat' first|refine aw ?_|refine bw (fun _=>?_) fun _=>?_))
 exact WT_eret 3 rfl rfl (by exact Uw.wW)
theorem cStm_set (D F : List (List Dat)) (NS : List Nod) (hN : NS.length < 100000) (s : Str) (e : Ex) (he : CEx D F NS e) : CStm D F NS (Stm.set s e) := by
 intro b p ws ha hp hw
 have hsz : (Stm.set s e).sz = e.sz + 1 := rfl
 have ha1 : At NS b (e.flat b ++ [⟨9, 0, s, [], [b + e.sz - 1]⟩]) := ha
 have hx1 := e.sz_pos
 have hroot := ha1.right.one
 rw [Ex.flat_len] at hroot
 have h1 := node_ok D F NS hN p ws (b + e.sz) _ hroot (hp _ (by omega) (by rw [hsz]; omega))
 have e1 : b + (Stm.set s e).sz - 1 = b + e.sz := by rw [hsz]; omega
 have e2 : orR p b (Stm.set s e).sz = orR (setP p (b + e.sz)) b e.sz := by rw [hsz, orR_root]
 have hf1 : Free (setP p (b + e.sz)) b e.sz := fun i h1 h2 => by rw [setP_not (by omega)]; exact hp i h1 (by rw [hsz]; omega)
 have hl := wEx_len e 0
 rw [hsz] at hw
 rw [e1, e2, show ws ++ wStm (Stm.set s e) = ws ++ [s, [61]] ++ wEx e 0 ++ [[59]] by simp [wStm]]
 exact w_set D F NS s _ (b + e.sz - 1) p _ _ ws _ _ _ h1 (s_writer_put D F (nsL NS) _ ws [s, [61]] (by simp; omega)) (he b 0 _ _ ha1.left hf1 (by omega) (by simp; omega)) (s_writer_put D F (nsL NS) _ _ [[59]] (by simp; omega))
theorem cStm_ret (D F : List (List Dat)) (NS : List Nod) (hN : NS.length < 100000) (e : Ex) (he : CEx D F NS e) : CStm D F NS (Stm.one 15 e) := by
 intro b p ws ha hp hw
 have hsz : (Stm.one 15 e).sz = e.sz + 1 := rfl
 have ha1 : At NS b (e.flat b ++ [⟨15, 0, [], [], [b + e.sz - 1]⟩]) := ha
 have hx1 := e.sz_pos
 have hroot := ha1.right.one
 rw [Ex.flat_len] at hroot
 have h1 := node_ok D F NS hN p ws (b + e.sz) _ hroot (hp _ (by omega) (by rw [hsz]; omega))
 have e1 : b + (Stm.one 15 e).sz - 1 = b + e.sz := by rw [hsz]; omega
 have e2 : orR p b (Stm.one 15 e).sz = orR (setP p (b + e.sz)) b e.sz := by rw [hsz, orR_root]
 have hf1 : Free (setP p (b + e.sz)) b e.sz := fun i h1 h2 => by rw [setP_not (by omega)]; exact hp i h1 (by rw [hsz]; omega)
 have hl := wEx_len e 0
 rw [hsz] at hw
 rw [e1, e2, show ws ++ wStm (Stm.one 15 e) = ws ++ [sReturn] ++ wEx e 0 ++ [[59]] by simp [wStm]]
 exact w_one15 D F NS _ (b + e.sz - 1) p _ _ ws _ _ _ h1 (s_writer_put D F (nsL NS) _ ws [sReturn] (by simp; omega)) (he b 0 _ _ ha1.left hf1 (by omega) (by simp; omega)) (s_writer_put D F (nsL NS) _ _ [[59]] (by simp; omega))
theorem cStm_ass (D F : List (List Dat)) (NS : List Nod) (hN : NS.length < 100000) (e : Ex) (he : CEx D F NS e) : CStm D F NS (Stm.one 16 e) := by
 intro b p ws ha hp hw
 have hsz : (Stm.one 16 e).sz = e.sz + 1 := rfl
 have ha1 : At NS b (e.flat b ++ [⟨16, 0, [], [], [b + e.sz - 1]⟩]) := ha
 have hx1 := e.sz_pos
 have hroot := ha1.right.one
 rw [Ex.flat_len] at hroot
 have h1 := node_ok D F NS hN p ws (b + e.sz) _ hroot (hp _ (by omega) (by rw [hsz]; omega))
 have e1 : b + (Stm.one 16 e).sz - 1 = b + e.sz := by rw [hsz]; omega
 have e2 : orR p b (Stm.one 16 e).sz = orR (setP p (b + e.sz)) b e.sz := by rw [hsz, orR_root]
 have hf1 : Free (setP p (b + e.sz)) b e.sz := fun i h1 h2 => by rw [setP_not (by omega)]; exact hp i h1 (by rw [hsz]; omega)
 have hl := wEx_len e 0
 rw [hsz] at hw
 rw [e1, e2, show ws ++ wStm (Stm.one 16 e) = ws ++ [sAssert] ++ wEx e 0 ++ [[59]] by simp [wStm]]
 exact w_one16 D F NS _ (b + e.sz - 1) p _ _ ws _ _ _ h1 (s_writer_put D F (nsL NS) _ ws [sAssert] (by simp; omega)) (he b 0 _ _ ha1.left hf1 (by omega) (by simp; omega)) (s_writer_put D F (nsL NS) _ _ [[59]] (by simp; omega))
theorem cStm_act (D F : List (List Dat)) (NS : List Nod) (hN : NS.length < 100000) (o v : Str) (ar : Exs) (he : CEx D F NS (.call o v ar)) : CStm D F NS (.act o v ar) := by
 intro b p ws ha hp hw
 have hsz : (Stm.act o v ar).sz = ar.sz + 1 + 1 := rfl
 have ha1 : At NS b ((Ex.call o v ar).flat b ++ [⟨17, 0, [], [], [b + ar.sz + 1 - 1]⟩]) := ha
 have hez : (Ex.call o v ar).sz = ar.sz + 1 := rfl
 have hw1 : wStm (.act o v ar) = wEx (.call o v ar) 0 ++ [[59]] := rfl
 have hroot := ha1.right.one
 rw [Ex.flat_len] at hroot
 have hl := wEx_len (.call o v ar) 0
 rw [hw1]
 generalize Ex.call o v ar = e at *
 have h1 := node_ok D F NS hN p ws (b + e.sz) _ hroot (hp _ (by omega) (by rw [hsz]; omega))
 have e1 : b + (Stm.act o v ar).sz - 1 = b + e.sz := by rw [hsz]; omega
 have e2 : orR p b (Stm.act o v ar).sz = orR (setP p (b + e.sz)) b e.sz := by rw [hsz, ← hez, orR_root]
 have hf1 : Free (setP p (b + e.sz)) b e.sz := fun i h1 h2 => by rw [setP_not (by omega)]; exact hp i h1 (by rw [hsz]; omega)
 rw [hsz] at hw
 rw [show b + ar.sz + 1 - 1 = b + e.sz - 1 by omega] at h1
 rw [e1, e2, ← List.append_assoc]
 exact w_act D F NS _ (b + e.sz - 1) p _ _ ws ws _ _ h1 (he b 0 _ _ ha1.left hf1 (by omega) (by omega)) (s_writer_put D F (nsL NS) _ _ [[59]] (by simp; omega))
theorem cStm_sync (D F : List (List Dat)) (NS : List Nod) (hN : NS.length < 100000) : CStm D F NS .sync := by
 intro b p ws ha hp hw
 have ha1 : At NS b [⟨12, 0, [], [], []⟩] := ha
 have h1 := node_ok D F NS hN p ws b _ ha1.one (hp _ (by omega) (by show b < b + 1; omega))
 have hw : ws.length + 20 < 1000000 := hw
 rw [show b + Stm.sync.sz - 1 = b from rfl, show orR p b Stm.sync.sz = setP p b from (orR_one p b).symm, show ws ++ wStm .sync = ws ++ [sSync] ++ [[59]] by simp [wStm]]
 exact w_sync D F NS b p _ ws _ _ h1 (s_writer_put D F (nsL NS) _ ws [sSync] (by simp; omega)) (s_writer_put D F (nsL NS) _ _ [[59]] (by simp; omega))
theorem cStm_task (D F : List (List Dat)) (NS : List Nod) (hN : NS.length < 100000) (par : Bool) (to f : Str) (ar : Exs) (hc : CExs D F NS ar) : CStm D F NS (.task par to f ar) := by
 intro b p ws ha hp hw
 have hsz : (Stm.task par to f ar).sz = ar.sz + 1 := rfl
 have ha1 : At NS b (ar.flat b ++ [⟨if par then 11 else 10, 0, to, f, ar.places b⟩]) := ha
 have hroot := ha1.right.one
 rw [Exs.flat_len] at hroot
 have hlt : b + ar.sz < NS.length := (List.getElem?_eq_some_iff.1 hroot).1
 have h1 := node_ok D F NS hN p ws (b + ar.sz) _ hroot (hp _ (by omega) (by rw [hsz]; omega))
 have e1 : b + (Stm.task par to f ar).sz - 1 = b + ar.sz := by rw [hsz]; omega
 have e2 : orR p b (Stm.task par to f ar).sz = orR (setP p (b + ar.sz)) b ar.sz := by rw [hsz, orR_root]
 have hf1 : Free (setP p (b + ar.sz)) b ar.sz := fun i h1 h2 => by rw [setP_not (by omega)]; exact hp i h1 (by rw [hsz]; omega)
 have hl := wExs_len ar
 have hl2 : (wArgs ar).length = (wExs ar).length + 2 := by simp [wArgs]
 rw [hsz] at hw
 have hof : (Nod.nd ⟨if par then 11 else 10, 0, to, f, ar.places b⟩).of = intsN (ar.places b) := rfl
 rw [hof] at h1
 have hpre : (if to = [] then [] else [to, [61]] : List Str).length ≤ 2 := by split <;> simp
 rw [e1, e2, show ws ++ wStm (.task par to f ar) = (ws ++ (if to = [] then [] else [to, [61]])) ++ [if par then sPar else sSpawn, f] ++ wArgs ar ++ [[59]] by simp [wStm]]
 have h2 := c_child_w D F NS (setP p (b + ar.sz)) (orR (setP p (b + ar.sz)) b ar.sz) ws _ par to f (intsN (ar.places b))
   (s_writer_put D F (nsL NS) _ ws [to, [61]] (by simp; omega)) (s_writer_put D F (nsL NS) _ _ [if par then sPar else sSpawn, f] (by simp only [List.length_append, List.length_cons, List.length_nil]; omega))
   (c_arguments D F NS hN ar hc b _ _ ha1.left hf1 (by omega) (by simp only [List.length_append, List.length_cons, List.length_nil]; omega))
 have h3 := s_writer_put D F (nsL NS) (orR (setP p (b + ar.sz)) b ar.sz) ((ws ++ (if to = [] then [] else [to, [61]])) ++ [if par then sPar else sSpawn, f] ++ wArgs ar) [[59]] (by simp only [List.length_append, List.length_cons, List.length_nil]; omega)
 cases par
 · exact w_task10 D F NS to f _ _ p _ _ ws ws _ _ h1 h2 h3
 · exact w_task11 D F NS to f _ _ p _ _ ws ws _ _ h1 h2 h3
theorem cStm_loop (D F : List (List Dat)) (NS : List Nod) (hN : NS.length < 100000) (e : Ex) (x : Bl) (he : CEx D F NS e) (hx : CBlock D F NS x) : CStm D F NS (Stm.loop e x) := by
 intro b p ws ha hp hw
 have hsz : (Stm.loop e x).sz = e.sz + (x.sz + 1) + 1 := rfl
 have ha1 : At NS b (e.flat b ++ x.all (b + e.sz) ++ [⟨14, 0, [], [], [b + e.sz - 1, b + e.sz + (x.sz + 1) - 1]⟩]) := ha
 have hx1 := e.sz_pos
 have hroot := ha1.right.one
 rw [List.length_append, Ex.flat_len, Bl.all_len] at hroot
 have hax := ha1.left.left
 have hay := ha1.left.right
 rw [Ex.flat_len] at hay
 have h1 := node_ok D F NS hN p ws (b + (e.sz + (x.sz + 1))) _ hroot (hp _ (by omega) (by rw [hsz]; omega))
 have e1 : b + (Stm.loop e x).sz - 1 = b + (e.sz + (x.sz + 1)) := by rw [hsz]; omega
 have e2 : orR p b (Stm.loop e x).sz = orR (orR (setP p (b + (e.sz + (x.sz + 1)))) b e.sz) (b + e.sz) (x.sz + 1) := by rw [orR_two, hsz, orR_root]
 have hf1 : Free (setP p (b + (e.sz + (x.sz + 1)))) b e.sz := fun i h1 h2 => by rw [setP_not (by omega)]; exact hp i h1 (by rw [hsz]; omega)
 have hf2 : Free (orR (setP p (b + (e.sz + (x.sz + 1)))) b e.sz) (b + e.sz) (x.sz + 1) := fun i h1 h2 => by rw [orR_not (by omega), setP_not (by omega)]; exact hp i (by omega) (by rw [hsz]; omega)
 have hl := wEx_len e 0
 rw [hsz] at hw
 rw [e1, e2, show ws ++ wStm (Stm.loop e x) = ws ++ [sWhile] ++ wEx e 0 ++ wBlock x by simp [wStm, wBlock]]
 exact w_loop D F NS _ (b + e.sz - 1) (b + e.sz + x.sz) p _ _ _ ws _ _ _ h1 (s_writer_put D F (nsL NS) _ ws [sWhile] (by simp; omega)) (he b 0 _ _ hax hf1 (by omega) (by simp; omega)) (hx (b + e.sz) _ _ hay hf2 (by simp; omega))
theorem cStm_if1 (D F : List (List Dat)) (NS : List Nod) (hN : NS.length < 100000) (e : Ex) (x : Bl) (he : CEx D F NS e) (hx : CBlock D F NS x) : CStm D F NS (Stm.if1 e x) := by
 intro b p ws ha hp hw
 have hsz : (Stm.if1 e x).sz = e.sz + (x.sz + 1) + 1 := rfl
 have ha1 : At NS b (e.flat b ++ x.all (b + e.sz) ++ [⟨13, 0, [], [], [b + e.sz - 1, b + e.sz + (x.sz + 1) - 1]⟩]) := ha
 have hx1 := e.sz_pos
 have hroot := ha1.right.one
 rw [List.length_append, Ex.flat_len, Bl.all_len] at hroot
 have hax := ha1.left.left
 have hay := ha1.left.right
 rw [Ex.flat_len] at hay
 have h1 := node_ok D F NS hN p ws (b + (e.sz + (x.sz + 1))) _ hroot (hp _ (by omega) (by rw [hsz]; omega))
 have e1 : b + (Stm.if1 e x).sz - 1 = b + (e.sz + (x.sz + 1)) := by rw [hsz]; omega
 have e2 : orR p b (Stm.if1 e x).sz = orR (orR (setP p (b + (e.sz + (x.sz + 1)))) b e.sz) (b + e.sz) (x.sz + 1) := by rw [orR_two, hsz, orR_root]
 have hf1 : Free (setP p (b + (e.sz + (x.sz + 1)))) b e.sz := fun i h1 h2 => by rw [setP_not (by omega)]; exact hp i h1 (by rw [hsz]; omega)
 have hf2 : Free (orR (setP p (b + (e.sz + (x.sz + 1)))) b e.sz) (b + e.sz) (x.sz + 1) := fun i h1 h2 => by rw [orR_not (by omega), setP_not (by omega)]; exact hp i (by omega) (by rw [hsz]; omega)
 have hl := wEx_len e 0
 rw [hsz] at hw
 rw [e1, e2, show ws ++ wStm (Stm.if1 e x) = ws ++ [sIf] ++ wEx e 0 ++ wBlock x by simp [wStm, wBlock]]
 exact w_if1 D F NS _ (b + e.sz - 1) (b + e.sz + x.sz) p _ _ _ ws _ _ _ h1 (s_writer_put D F (nsL NS) _ ws [sIf] (by simp; omega)) (he b 0 _ _ hax hf1 (by omega) (by simp; omega)) (hx (b + e.sz) _ _ hay hf2 (by simp; omega))
theorem cStm_if2 (D F : List (List Dat)) (NS : List Nod) (hN : NS.length < 100000) (e : Ex) (x y : Bl) (he : CEx D F NS e) (hx : CBlock D F NS x) (hy : CBlock D F NS y) : CStm D F NS (.if2 e x y) := by
 intro b p ws ha hp hw
 have hsz : (Stm.if2 e x y).sz = e.sz + (x.sz + 1) + (y.sz + 1) + 1 := rfl
 have ha1 : At NS b (e.flat b ++ x.all (b + e.sz) ++ y.all (b + e.sz + (x.sz + 1)) ++ [⟨13, 0, [], [], [b + e.sz - 1, b + e.sz + (x.sz + 1) - 1, b + e.sz + (x.sz + 1) + (y.sz + 1) - 1]⟩]) := ha
 have hx1 := e.sz_pos
 have hroot := ha1.right.one
 rw [List.length_append, List.length_append, Ex.flat_len, Bl.all_len, Bl.all_len] at hroot
 have hax := ha1.left.left.left
 have hay := ha1.left.left.right
 rw [Ex.flat_len] at hay
 have haz := ha1.left.right
 rw [List.length_append, Ex.flat_len, Bl.all_len, ← Nat.add_assoc] at haz
 have h1 := node_ok D F NS hN p ws (b + (e.sz + (x.sz + 1) + (y.sz + 1))) _ hroot (hp _ (by omega) (by rw [hsz]; omega))
 have e1 : b + (Stm.if2 e x y).sz - 1 = b + (e.sz + (x.sz + 1) + (y.sz + 1)) := by rw [hsz]; omega
 have e2 : orR p b (Stm.if2 e x y).sz = orR (orR (orR (setP p (b + (e.sz + (x.sz + 1) + (y.sz + 1)))) b e.sz) (b + e.sz) (x.sz + 1)) (b + e.sz + (x.sz + 1)) (y.sz + 1) := by rw [orR_two, orR_two, hsz, show e.sz + (x.sz + 1 + (y.sz + 1)) = e.sz + (x.sz + 1) + (y.sz + 1) by omega, orR_root]
 have hf1 : Free (setP p (b + (e.sz + (x.sz + 1) + (y.sz + 1)))) b e.sz := fun i h1 h2 => by rw [setP_not (by omega)]; exact hp i h1 (by rw [hsz]; omega)
 have hf2 : Free (orR (setP p (b + (e.sz + (x.sz + 1) + (y.sz + 1)))) b e.sz) (b + e.sz) (x.sz + 1) := fun i h1 h2 => by rw [orR_not (by omega), setP_not (by omega)]; exact hp i (by omega) (by rw [hsz]; omega)
 have hf3 : Free (orR (orR (setP p (b + (e.sz + (x.sz + 1) + (y.sz + 1)))) b e.sz) (b + e.sz) (x.sz + 1)) (b + e.sz + (x.sz + 1)) (y.sz + 1) := fun i h1 h2 => by rw [orR_not (by omega), orR_not (by omega), setP_not (by omega)]; exact hp i (by omega) (by rw [hsz]; omega)
 have hl := wEx_len e 0
 have hlx := wBl_len x
 have hlx' : (wBlock x).length = (wBl x).length + 2 := by simp [wBlock]
 rw [hsz] at hw
 rw [e1, e2, show ws ++ wStm (.if2 e x y) = ws ++ [sIf] ++ wEx e 0 ++ wBlock x ++ [sElse] ++ wBlock y by simp [wStm, wBlock]]
 exact w_if2 D F NS _ (b + e.sz - 1) (b + e.sz + x.sz) (b + e.sz + (x.sz + 1) + y.sz) p _ _ _ _ ws _ _ _ _ _ h1 (s_writer_put D F (nsL NS) _ ws [sIf] (by simp; omega)) (he b 0 _ _ hax hf1 (by omega) (by simp; omega))
   (hx (b + e.sz) _ _ hay hf2 (by simp; omega)) (s_writer_put D F (nsL NS) _ _ [sElse] (by simp; omega)) (hy (b + e.sz + (x.sz + 1)) _ _ haz hf3 (by simp; omega))
mutual
theorem cEx_all (D F : List (List Dat)) (NS : List Nod) (hN : NS.length < 100000) : ∀ (e : Ex), e.good → CEx D F NS e
 | .num n, h => cEx_num D F NS hN n h
 | .name s, h => cEx_name D F NS hN s
 | .bin k x y, ⟨hk, hx, hy⟩ => cEx_bin D F NS hN k hk x y (cEx_all D F NS hN x hx) (cEx_all D F NS hN y hy)
 | .call o v ar, ⟨_, _, h⟩ => cEx_call D F NS hN o v ar (cExs_all D F NS hN ar h)
theorem cExs_all (D F : List (List Dat)) (NS : List Nod) (hN : NS.length < 100000) : ∀ (ar : Exs), ar.good → CExs D F NS ar
 | .nil, _ => trivial
 | .cons e r, ⟨h1, h2⟩ => ⟨cEx_all D F NS hN e h1, cExs_all D F NS hN r h2⟩
end
mutual
theorem cStm_all (D F : List (List Dat)) (NS : List Nod) (hN : NS.length < 100000) : ∀ (s : Stm), s.good → CStm D F NS s
 | .set s e, ⟨_, h⟩ => cStm_set D F NS hN s e (cEx_all D F NS hN e h)
 | .task par to f ar, ⟨_, _, h, _⟩ => cStm_task D F NS hN par to f ar (cExs_all D F NS hN ar h)
 | .sync, _ => cStm_sync D F NS hN
 | .if1 e a, ⟨h1, h2⟩ => cStm_if1 D F NS hN e a (cEx_all D F NS hN e h1) (c_block_w D F NS hN a (cBl_all D F NS hN a h2))
 | .if2 e a b, ⟨h1, h2, h3⟩ => cStm_if2 D F NS hN e a b (cEx_all D F NS hN e h1) (c_block_w D F NS hN a (cBl_all D F NS hN a h2)) (c_block_w D F NS hN b (cBl_all D F NS hN b h3))
 | .loop e a, ⟨h1, h2⟩ => cStm_loop D F NS hN e a (cEx_all D F NS hN e h1) (c_block_w D F NS hN a (cBl_all D F NS hN a h2))
 | .one k e, ⟨hk, h⟩ => hk.elim (fun hk => hk ▸ cStm_ret D F NS hN e (cEx_all D F NS hN e h)) (fun hk => hk ▸ cStm_ass D F NS hN e (cEx_all D F NS hN e h))
 | .act o v ar, ⟨h1, h2, h3⟩ => cStm_act D F NS hN o v ar (cEx_call D F NS hN o v ar (cExs_all D F NS hN ar h3))
theorem cBl_all (D F : List (List Dat)) (NS : List Nod) (hN : NS.length < 100000) : ∀ (x : Bl), x.good → CBl D F NS x
 | .nil, _ => trivial
 | .cons s r, ⟨h1, h2⟩ => ⟨cStm_all D F NS hN s h1, cBl_all D F NS hN r h2⟩
end
end Uw.Tryd
namespace Uw.Tryd
open Go Uw
theorem w_decl0 (ds fs ns : List (List Dat)) (p : Nat → Bool) (ws : List Str) (s : Str) (h : ws.length + 10 < 1000000) : SatE P0 n_parse_writer_decl [.ptr 0 0, .agg [.d (I 0), .d (.str s), .d (I 0)]] (wr ds fs ns p ws) (.tuple []) (wr ds fs ns p (ws ++ [sCell, s] ++ [[59]])) := by
 have h1 := s_writer_put ds fs ns p ws [sCell, s] (by simp; omega)
 have h2 := s_writer_put ds fs ns p (ws ++ [sCell, s]) [[59]] (by simp; omega)
 unfold sCell at *
 generalize ws ++ [_, s] = ws1 at *
 refine SatE_by is_parse_writer_decl rfl ?_
 ((repeat' first|refine aw ?_|refine bw (fun _=>?_) fun _=>?_))
 refine WT_frE 4 [0, 1, 2] h1 ?_
 ((repeat' first|refine aw ?_|refine bw (fun _=>?_) fun _=>?_))
 refine WT_frE 4 [0, 1, 2] h2 ?_
 ((repeat' first|refine aw ?_|refine bw (fun _=>?_) fun _=>?_))
 exact WT_eend 3 rfl rfl (by exact Uw.wW)
theorem w_decl0n (ds fs ns : List (List Dat)) (p : Nat → Bool) (ws : List Str) (s : Str) (n : Int) (hn : NumOk n) (hn0 : ¬ n = 0) (h : ws.length + 10 < 1000000) : SatE P0 n_parse_writer_decl [.ptr 0 0, .agg [.d (I 0), .d (.str s), .d (I n)]] (wr ds fs ns p ws) (.tuple []) (wr ds fs ns p (ws ++ [sCell, s] ++ [[61], Lib.itoa n] ++ [[59]])) := by
 have h1 := s_writer_put ds fs ns p ws [sCell, s] (by simp; omega)
 have h2 := s_writer_put ds fs ns p (ws ++ [sCell, s]) [[61], Lib.itoa n] (by simp; omega)
 have h3 := s_writer_put ds fs ns p (ws ++ [sCell, s] ++ [[61], Lib.itoa n]) [[59]] (by simp; omega)
 have hi := s_strconv_Itoa n (by have := hn.1; omega) (by have := hn.2; omega)
 have hn1 := hn.1
 have hn2 := hn.2
 clear hn
 unfold sCell at *
 generalize Lib.itoa n = t at *
 generalize ws ++ [_, s] ++ [_, t] = ws2 at *
 generalize ws ++ [_, s] = ws1 at *
 refine SatE_by is_parse_writer_decl rfl ?_
 ((repeat' first|refine aw ?_|refine bw (fun _=>?_) fun _=>?_))
 refine WT_frE 4 [0, 1, 2] h1 ?_
 ((repeat' first|refine aw ?_|refine bw (fun _=>?_) fun _=>?_))
 refine WT_frE 4 [0, 1, 2] h2 ?_
 ((repeat' first|refine aw ?_|refine bw (fun _=>?_) fun _=>?_))
 refine WT_frE 4 [0, 1, 2] h3 ?_
 ((repeat' first|refine aw ?_|refine bw (fun _=>?_) fun _=>?_))
 exact WT_eend 3 rfl rfl (by exact Uw.wW)
theorem w_decl1 (ds fs ns : List (List Dat)) (p : Nat → Bool) (ws : List Str) (s : Str) (k : Int) (hk : k = 1 ∨ k = 2 ∨ k = 3) (h : ws.length + 10 < 1000000) : SatE P0 n_parse_writer_decl [.ptr 0 0, .agg [.d (I k), .d (.str s), .d (I 0)]] (wr ds fs ns p ws) (.tuple []) (wr ds fs ns p (ws ++ [kindS k, s] ++ [[59]])) := by
 have h1 := s_writer_put ds fs ns p ws [kindS k, s] (by simp; omega)
 have h2 := s_writer_put ds fs ns p (ws ++ [kindS k, s]) [[59]] (by simp; omega)
 rcases hk with rfl | rfl | rfl
 · rw [show kindS 1 = [109, 97, 112] from rfl] at *
   generalize ws ++ [_, s] = ws1 at *
   refine SatE_by is_parse_writer_decl rfl ?_
   ((repeat' first|refine aw ?_|refine bw (fun _=>?_) fun _=>?_))
   refine WT_frE 4 [0, 1, 2] h1 ?_
   ((repeat' first|refine aw ?_|refine bw (fun _=>?_) fun _=>?_))
   refine WT_frE 4 [0, 1, 2] h2 ?_
   ((repeat' first|refine aw ?_|refine bw (fun _=>?_) fun _=>?_))
   exact WT_eend 3 rfl rfl (by exact Uw.wW)
 · rw [show kindS 2 = [115, 116, 97, 99, 107] from rfl] at *
   generalize ws ++ [_, s] = ws1 at *
   refine SatE_by is_parse_writer_decl rfl ?_
   ((repeat' first|refine aw ?_|refine bw (fun _=>?_) fun _=>?_))
   refine WT_frE 4 [0, 1, 2] h1 ?_
   ((repeat' first|refine aw ?_|refine bw (fun _=>?_) fun _=>?_))
   refine WT_frE 4 [0, 1, 2] h2 ?_
   ((repeat' first|refine aw ?_|refine bw (fun _=>?_) fun _=>?_))
   exact WT_eend 3 rfl rfl (by exact Uw.wW)
 · rw [show kindS 3 = [99, 104, 97, 110] from rfl] at *
   generalize ws ++ [_, s] = ws1 at *
   refine SatE_by is_parse_writer_decl rfl ?_
   ((repeat' first|refine aw ?_|refine bw (fun _=>?_) fun _=>?_))
   refine WT_frE 4 [0, 1, 2] h1 ?_
   ((repeat' first|refine aw ?_|refine bw (fun _=>?_) fun _=>?_))
   refine WT_frE 4 [0, 1, 2] h2 ?_
   ((repeat' first|refine aw ?_|refine bw (fun _=>?_) fun _=>?_))
   exact WT_eend 3 rfl rfl (by exact Uw.wW)
theorem w_decl (ds fs ns : List (List Dat)) (p : Nat → Bool) (ws : List Str) (d : Dec) (hd : d.good) (h : ws.length + 10 < 1000000) : SatE P0 n_parse_writer_decl [.ptr 0 0, .agg [.d (I d.kind), .d (.str d.name), .d (I d.n)]] (wr ds fs ns p ws) (.tuple []) (wr ds fs ns p (ws ++ wDec d)) := by
 obtain ⟨k, s, n⟩ := d
 obtain ⟨⟨h1, h2⟩, h3, h4, h5⟩ := hd
 simp only at h1 h2 h4 h5
 by_cases hk : k = 0
 · subst hk
   by_cases hn : n = 0
   · subst hn
     rw [show ws ++ wDec ⟨0, s, 0⟩ = ws ++ [sCell, s] ++ [[59]] by simp [wDec, kindS]]
     exact w_decl0 ds fs ns p ws s h
   · rw [show ws ++ wDec ⟨0, s, n⟩ = ws ++ [sCell, s] ++ [[61], Lib.itoa n] ++ [[59]] by simp [wDec, kindS, hn]]
     exact w_decl0n ds fs ns p ws s n h4 hn h
 · have hn := h5 hk
   subst hn
   rw [show ws ++ wDec ⟨k, s, 0⟩ = ws ++ [kindS k, s] ++ [[59]] by simp [wDec]]
   exact w_decl1 ds fs ns p ws s k (by omega) h
end Uw.Tryd
namespace Uw.Tryd
open Go Uw Go.Proofs Go.RowKit
theorem bytes_head (s : ByteArray) (h : 0 < s.size) : ∃ t, s.data.toList = s[0] :: t := by
 rcases s with ⟨⟨l⟩⟩
 cases l with
 | nil => exact absurd h (Nat.lt_irrefl 0)
 | cons c t => exact ⟨t, rfl⟩
set_option maxHeartbeats 4000000 in
set_option maxRecDepth 1000000 in
theorem long_walk (s : ByteArray) (w : World) : Calls Go.Proofs.Tryd.prog n_parse_long #[.string s] w fun e w' => e = .returned (.bool (longR s.data.toList)) ∧ w' = w := by
 show Calls _ 46 _ _ _
 by_cases h0 : s.size = 0
 · have hs : s = .empty := by
     rcases s with ⟨⟨l⟩⟩
     cases l with
     | nil => rfl
     | cons c t => exact absurd h0 (Nat.succ_ne_zero _)
   subst hs
   go_enter Tryd.func46, Tryd.ntmps46
   go_wp2
   go_ret
   exact ⟨rfl, rfl⟩
 · have h0' : 0 < s.size := by omega
   obtain ⟨t, hl⟩ := bytes_head s h0'
   have hem : s.toList.isEmpty = false := by rw [ByteArray.toList_eq, hl]; rfl
   have key : ∀ b : Bool, b = ((decide (97 ≤ (s[0]).toNat) && decide ((s[0]).toNat ≤ 122)) || (decide (65 ≤ (s[0]).toNat) && decide ((s[0]).toNat ≤ 90)) || (decide (48 ≤ (s[0]).toNat) && decide ((s[0]).toNat ≤ 57))) → (Ending.returned (.bool b) : Ending) = .returned (.bool (longR s.data.toList)) := by
     intro b h
     rw [h, hl]; rfl
   generalize longR s.data.toList = L at *
   clear hl t
   go_enter Tryd.func46, Tryd.ntmps46
   go_wp2
   all_goals
     go_ret
     refine ⟨key _ ?_, rfl⟩
     generalize (s[0]).toNat = n at *
     rw [Bool.eq_iff_iff]
     simp only [Bool.or_eq_true, Bool.and_eq_true, decide_eq_true_eq, Bool.false_eq_true, true_iff, false_iff]
     omega
theorem hidJ {p : Prop} (h : p) : Hid p := h
theorem joinR_cons (a s : Str) (r : List Str) : joinR a (s :: r) = (if longR a && longR s then [32] else []) ++ s ++ joinR s r := rfl
set_option maxHeartbeats 8000000 in
set_option maxRecDepth 1000000 in
theorem join_walk (bk o c : Nat) (xs : List ByteArray) (w : World)
   (hcells : ∀ (j : Nat) x, xs[j]? = some x → w.cell? ⟨bk, o + j, none⟩ = some (.string x))
   (hbk : bk < w.heap.size) (hN : xs.length ≤ 140737488355328) (hcap : xs.length ≤ c)
   (hlen : (joinR [] (xs.map fun s => s.data.toList)).length ≤ 140737488355328) :
   Calls Go.Proofs.Tryd.prog n_parse_join #[.slice (some ⟨bk, o, none⟩) xs.length c] w fun e w' => e = .returned (.string ⟨(joinR [] (xs.map fun s => s.data.toList)).toArray⟩) ∧ Below w.heap.size w w' := by
 show Calls _ 27 _ _ _
 have HC := hidJ hcells
 clear hcells
 have hJ : ([] : List UInt8) ++ joinR (ByteArray.empty.data.toList) ((xs.drop 0).map fun s => s.data.toList) = joinR [] (xs.map fun s => s.data.toList) := by simp
 generalize joinR [] (xs.map fun s => s.data.toList) = J at *
 have HJ := hidJ hJ
 have Hlen := hidJ hlen
 have H0 := hidJ (Lib.fresh_isBuilder 88 5 w)
 have Hb0 := hidJ ((Below.refl w.heap.size w).alloc (Nat.le_refl _) (.cells #[.pointer none, .slice none 0 0] 88))
 clear hJ hlen
 go_enter Tryd.func27, Tryd.ntmps27
 go_wp2_with fail
 go_loopw [4, 9] (fun a i wr => ∃ (k : Nat) (out : List UInt8) (ah : ByteArray), k ≤ xs.length ∧ a = .string ah ∧ i = .int .i64 k ∧ Hid (out ++ joinR ah.data.toList ((xs.drop k).map fun s => s.data.toList) = J) ∧ Hid (Lib.IsBuilder 88 5 w.heap.size w.heap.size (Lib.byteCells out) wr) ∧ Hid (Below w.heap.size w wr)) (fun _ i _ => xs.length - (intOf i).toNat)
 case atStart => exact ⟨0, [], .empty, Nat.zero_le _, rfl, rfl, HJ, H0, Hb0⟩
 case round =>
   obtain ⟨k, out, ah, hk, rfl, rfl, HJ, HB, HW⟩ := hrel
   by_cases hkn : k < xs.length
   · obtain ⟨x, hx⟩ : ∃ x, xs[k]? = some x := ⟨xs[k], List.getElem?_eq_getElem hkn⟩
     have hc : wr.cell? ⟨bk, o + k, none⟩ = some (.string x) := by
       rw [HW.out.cell (p := ⟨bk, o + k, none⟩) hbk]
       exact HC.out k x hx
     have hd : xs.drop k = x :: xs.drop (k + 1) := by
       rw [List.drop_eq_getElem_cons hkn]
       rw [List.getElem?_eq_getElem hkn] at hx
       injection hx with hx
       rw [hx]
     have hj := HJ.out
     rw [hd, List.map_cons, joinR_cons] at hj
     have hxs : x.data.toList.length = x.size := rfl
     have hl1 := Hlen.out
     rw [← hj] at hl1
     simp only [List.length_append] at hl1
     have hbl : (Lib.byteCells out).length = out.length := Lib.byteCells_length _
     have hBw : w.heap.size ≤ wr.heap.size := HW.out.size
     have LA := long_walk ah wr
     have LX := long_walk x wr
     generalize hL1 : longR ah.data.toList = L1 at *
     generalize hL2 : longR x.data.toList = L2 at *
     have Hj := hidJ hj
     have Hd := hidJ hd
     clear hx hd hj hL1 hL2
     cases L1 with
     | false =>
       go_wp2_with fail
       refine LA.mono ?_
       rintro e w1 ⟨rfl, rfl⟩
       go_wp2_with fail
       refine (Tryd.Builder_WriteString w.heap.size w.heap.size _ x _ HB.out (by rw [hbl]; omega) hBw).mono ?_
       rintro e w2 ⟨rfl, h2, b2⟩
       have H2 := hidJ (Or.inr h2 : Lib.IsBuilder 88 5 w.heap.size w.heap.size _ w2)
       have B2 := hidJ (HW.out.trans b2)
       rw [Lib.strCells_eq] at H2
       clear h2 b2
       go_wp2
       exact ⟨⟨k + 1, out ++ x.data.toList, x, by omega, rfl, by go_num, hidJ (by have := Hj.out; simpa using this), hidJ (by have := H2.out; simpa [Lib.IsBuilder, ← Lib.byteCells_append, Lib.byteCells] using this), B2⟩, by simp [intOf]; omega⟩
     | true =>
       cases L2 with
       | false =>
         go_wp2_with fail
         refine LA.mono ?_
         rintro e w1 ⟨rfl, rfl⟩
         go_wp2_with fail
         refine LX.mono ?_
         rintro e w2 ⟨rfl, rfl⟩
         go_wp2_with fail
         refine (Tryd.Builder_WriteString w.heap.size w.heap.size _ x _ HB.out (by rw [hbl]; omega) hBw).mono ?_
         rintro e w3 ⟨rfl, h2, b2⟩
         have H2 := hidJ (Or.inr h2 : Lib.IsBuilder 88 5 w.heap.size w.heap.size _ w3)
         have B2 := hidJ (HW.out.trans b2)
         rw [Lib.strCells_eq] at H2
         clear h2 b2
         go_wp2
         exact ⟨⟨k + 1, out ++ x.data.toList, x, by omega, rfl, by go_num, hidJ (by have := Hj.out; simpa using this), hidJ (by have := H2.out; simpa [Lib.IsBuilder, ← Lib.byteCells_append, Lib.byteCells] using this), B2⟩, by simp [intOf]; omega⟩
       | true =>
         go_wp2_with fail
         refine LA.mono ?_
         rintro e w1 ⟨rfl, rfl⟩
         go_wp2_with fail
         refine LX.mono ?_
         rintro e w2 ⟨rfl, rfl⟩
         go_wp2_with fail
         refine (Tryd.Builder_WriteByte w.heap.size w.heap.size _ 32 _ HB.out (by rw [hbl]; simp at hl1; omega) hBw).mono ?_
         rintro e w3 ⟨rfl, h3, b3⟩
         have H3 := hidJ h3
         have B3 := hidJ (HW.out.trans b3)
         have hBw3 : w.heap.size ≤ w3.heap.size := Nat.le_trans hBw b3.size
         clear h3 b3
         go_wp2_with fail
         refine (Tryd.Builder_WriteString w.heap.size w.heap.size _ x _ (Or.inr H3.out) (by rw [List.length_append, hbl]; simp at hl1 ⊢; omega) hBw3).mono ?_
         rintro e w4 ⟨rfl, h2, b2⟩
         have H2 := hidJ (Or.inr h2 : Lib.IsBuilder 88 5 w.heap.size w.heap.size _ w4)
         have B2 := hidJ (B3.out.trans b2)
         rw [Lib.strCells_eq] at H2
         clear h2 b2
         go_wp2
         exact ⟨⟨k + 1, out ++ [32] ++ x.data.toList, x, by omega, rfl, by go_num, hidJ (by have := Hj.out; simpa using this), hidJ (by have := H2.out; simpa [Lib.IsBuilder, ← Lib.byteCells_append, Lib.byteCells] using this), B2⟩, by simp [intOf]; omega⟩
   · have hke : k = xs.length := by omega
     subst hke
     have hj := HJ.out
     rw [List.drop_length, List.map_nil] at hj
     have hj : out = J := by rw [← hj]; simp [joinR]
     subst hj
     have hBw : w.heap.size ≤ wr.heap.size := HW.out.size
     go_wp2_with fail
     refine (Tryd.Builder_String_any w.heap.size w.heap.size out _ HB.out hBw).mono ?_
     rintro e w5 ⟨rfl, hb5⟩
     have Hb5 := hidJ (HW.out.trans hb5)
     clear hb5
     go_wp2
     go_ret
     exact ⟨rfl, Hb5.out⟩
set_option maxHeartbeats 8000000 in
set_option maxRecDepth 1000000 in
theorem join_none (a : Option Addr) (c : Nat) (w : World) :
   Calls Go.Proofs.Tryd.prog n_parse_join #[.slice a 0 c] w fun e w' => e = .returned (.string ⟨([] : List UInt8).toArray⟩) ∧ Below w.heap.size w w' := by
 show Calls _ 27 _ _ _
 have H0 := hidJ (Lib.fresh_isBuilder 88 5 w)
 have Hb0 := hidJ ((Below.refl w.heap.size w).alloc (Nat.le_refl _) (.cells #[.pointer none, .slice none 0 0] 88))
 go_enter Tryd.func27, Tryd.ntmps27
 go_wp2_with fail
 go_loopw [4, 9] (fun a i wr => a = .string .empty ∧ i = .int .i64 0 ∧ Hid (Lib.IsBuilder 88 5 w.heap.size w.heap.size (Lib.byteCells []) wr) ∧ Hid (Below w.heap.size w wr)) (fun _ _ _ => 0)
 case atStart => exact ⟨rfl, rfl, H0, Hb0⟩
 case round =>
   obtain ⟨rfl, rfl, HB, HW⟩ := hrel
   have hBw : w.heap.size ≤ wr.heap.size := HW.out.size
   go_wp2_with fail
   refine (Tryd.Builder_String_any w.heap.size w.heap.size [] _ HB.out hBw).mono ?_
   rintro e w5 ⟨rfl, hb5⟩
   have Hb5 := hidJ (HW.out.trans hb5)
   clear hb5
   go_wp2
   go_ret
   exact ⟨rfl, Hb5.out⟩
theorem s_parse_join (l : List Str) (z : Bool) (hN : l.length < 1000000) (hlen : (joinR [] l).length ≤ 140737488355328) :
   Ret P0 n_parse_join [.slice 1 (rowT l) z] (.str (joinR [] l)) := by
 intro w J vs hG hr
 obtain ⟨v, vs', rfl, hv, hr⟩ := hr
 simp only [RelL] at hr; subst hr
 have hml : (rowT l).length = l.length := by simp [rowT]
 have none : ∀ (a : Option Addr) (c : Nat), l = [] → Calls P0 n_parse_join #[.slice a 0 c] w fun e w' => ∃ v, e = .returned v ∧ RelI w' (fun b o => J b o ∨ (w.heap.size ≤ b ∧ b < w'.heap.size)) (.str (joinR [] l)) v ∧ Below w.heap.size w w' := by
   intro a c hl
   subst hl
   refine (join_none a c w).mono ?_
   rintro e w' ⟨rfl, hb⟩
   exact ⟨_, rfl, rfl, hb⟩
 rcases hv with ⟨⟨x, rfl, _⟩, hl⟩ | ⟨b, o, cap, rfl, h2, h3, h4⟩
 · exact none x 0 (by simpa [rowT] using hl)
 · cases hl : l with
   | nil =>
     have := none (some ⟨b, o, Option.none⟩) cap hl
     simpa [hl, rowT] using this
   | cons s0 r0 =>
     rw [← hl]
     have hc : ∀ (j : Nat) (s : List UInt8), l[j]? = some s → w.cell? ⟨b, o + j, Option.none⟩ = some (.string ⟨s.toArray⟩) := by
       intro j s hj
       obtain ⟨_, g⟩ := RelE.get h4 j [.str s] (by simp [rowT, hj])
       obtain ⟨v, g1, _, g2⟩ := RelC.get g 0 (.str s) rfl
       simp only [RelI] at g2; subst g2
       simpa using g1
     have hbk : b < w.heap.size := by
       have h0 := hc 0 s0 (by simp [hl])
       by_cases hlt : b < w.heap.size
       · exact hlt
       · have hn : w.heap[b]? = Option.none := Array.getElem?_eq_none (by omega)
         simp [World.cell?, hn] at h0
     have e1 : (l.map fun s => (⟨s.toArray⟩ : ByteArray)).map (fun s => s.data.toList) = l := by
       rw [List.map_map]; exact List.map_id'' (fun s => by simp) l
     have key := join_walk b o cap (l.map fun s => (⟨s.toArray⟩ : ByteArray)) w (by
       intro j x hj
       rw [List.getElem?_map, Option.map_eq_some_iff] at hj
       obtain ⟨s, h1, rfl⟩ := hj
       exact hc j s h1) hbk (by simp; omega) (by rw [List.length_map]; omega) (by rw [e1]; exact hlen)
     rw [e1] at key
     simp only [List.length_map, hml] at key ⊢
     refine key.mono ?_
     rintro e w' ⟨rfl, hb⟩
     exact ⟨_, rfl, rfl, hb⟩
end Uw.Tryd
namespace Uw.Tryd
open Go Uw
abbrev txH (D F N : List (List Dat)) (p : Nat → Bool) (ws : List Str) : Heap :=
 [(3, .var [.d (.slice 3 D false), .d (.slice 3 F false), .d (.slice 5 N false), .ref 2 0 0 (wroB N.length p).length, .ref 4 0 0 (rowT ws).length]), (2, .mt 1 0 (wroB N.length p)), (4, .arr 1 (rowT ws)), (1, .var [.d (.str [])]), (0, .var [.d (.slice 3 D false), .d (.slice 3 F false), .d (.slice 5 N false)])]
abbrev txH2 (D F N : List (List Dat)) (p : Nat → Bool) (ws : List Str) : Heap :=
 [(3, .var [.d (.slice 3 D false), .d (.slice 3 F false), .d (.slice 5 N false), .ref 2 0 0 (wroB N.length p).length, .ref 4 0 0 (rowT ws).length]), (2, .mt 1 0 (wroB N.length p)), (4, .arr 1 (rowT ws)), (1, .var [.d (.str [])])]
theorem wro_zero (m : Nat) : List.replicate m [Dat.bool false] = wroB m (fun _ => false) := by
 refine List.ext_getElem (by simp [wroB]) fun i h1 h2 => ?_
 simp [wroB]
theorem wProg_take (ds : List Dec) (j : Nat) (h : j < ds.length) : (ds.take (j + 1)).flatMap wDec = (ds.take j).flatMap wDec ++ wDec ds[j] := by
 rw [take_one ds j h, List.flatMap_append]; simp
theorem wFns_take (ds : List Fn) (j : Nat) (h : j < ds.length) : (ds.take (j + 1)).flatMap wFn = (ds.take j).flatMap wFn ++ wFn ds[j] := by
 rw [take_one ds j h, List.flatMap_append]; simp
theorem wDec_len (d : Dec) : (wDec d).length ≤ 5 ∧ 3 ≤ (wDec d).length := by
 unfold wDec
 split <;> simp
theorem tx_calm (h : Heap) (nx : Nat) : SatD P0 n_parse_Text_1 [.ptr 1 0] h nx none (fun h' nx' => h' = h ∧ nx' = nx) := by
 refine SatD_of_exec is_parse_Text_1 rfl ?_
 refine WT_f rfl ?_
 exact WT_done ⟨.inl rfl, rfl, rfl, rfl⟩
theorem At.mid (a l r : List Nod) : At (a ++ (l ++ r)) a.length l := fun j hj => by
 rw [List.getElem?_append_right (by omega), List.getElem?_append_left (by omega), List.getElem?_eq_getElem (by omega)]
 simp
theorem fun_at (fs : List Fn) (j : Nat) (h : j < fs.length) : (funsF fs 0)[j]? = some ⟨fs[j].name, fs[j].args, ((sizeF (fs.take j) + fs[j].body.sz : Nat) : Int)⟩ ∧ At (nodesF fs 0) (sizeF (fs.take j)) (fs[j].body.all (sizeF (fs.take j))) := by
 have e : fs = fs.take j ++ (fs[j] :: fs.drop (j + 1)) := by rw [← List.drop_eq_getElem_cons h, List.take_append_drop]
 have hl : (fs.take j).length = j := by simp; omega
 constructor
 · conv => lhs; rw [e]
   rw [funsF_app, List.getElem?_append_right (by rw [funsF_len, hl]; exact Nat.le_refl _), funsF_len, hl, Nat.sub_self, funsF, Nat.zero_add]
   rfl
 · have h2 := At.mid (nodesF (fs.take j) 0) (fs[j].body.all (sizeF (fs.take j))) (nodesF (fs.drop (j + 1)) (sizeF (fs.take j) + fs[j].sz))
   rw [nodesF_len] at h2
   have e2 : nodesF fs 0 = nodesF (fs.take j) 0 ++ (fs[j].body.all (sizeF (fs.take j)) ++ nodesF (fs.drop (j + 1)) (sizeF (fs.take j) + fs[j].sz)) := by
     conv => lhs; rw [e]
     rw [nodesF_app, nodesF, Nat.zero_add]
   rw [e2]; exact h2
theorem sizeF_take (fs : List Fn) (j : Nat) (h : j < fs.length) : sizeF (fs.take (j + 1)) = sizeF (fs.take j) + (fs[j].body.sz + 1) := by
 rw [take_one fs j h, sizeF_app]
 simp [sizeF, Fn.sz]
theorem wStrs_len (l : List Str) : l.length ≤ (wStrs l).length := by
 cases l with
 | nil => simp
 | cons a r =>
   have : ∀ (r : List Str), r.length ≤ (r.flatMap fun s => [[44], s]).length := by
     intro r
     induction r with
     | nil => simp
     | cons b r ih => rw [List.flatMap_cons, List.length_append, List.length_cons]; simp only [List.length_cons, List.length_nil]; omega
   have := this r
   simp only [wStrs, List.length_append, List.length_cons, List.length_nil]; omega
theorem wStrs_le (l : List Str) (i : Nat) : (wStrs (l.take i)).length ≤ (wStrs l).length := by
 cases l with
 | nil => simp
 | cons a r =>
   cases i with
   | zero => simp [wStrs]
   | succ i =>
     rw [List.take_succ_cons, wStrs, wStrs, List.length_append, List.length_append]
     conv => rhs; rw [← List.take_append_drop i r]
     rw [List.flatMap_append, List.length_append]; omega
theorem wStrs_take (l : List Str) (i : Nat) (h : i < l.length) : wStrs (l.take (i + 1)) = wStrs (l.take i) ++ (if i = 0 then [] else [[44]]) ++ [l[i]] := by
 cases l with
 | nil => simp at h
 | cons a r =>
   cases i with
   | zero => simp [wStrs]
   | succ i =>
     have h : i < r.length := by simpa using h
     rw [List.take_succ_cons, List.take_succ_cons, wStrs, wStrs, take_one r i h, List.flatMap_append]
     simp
theorem s_parse_Text0 (x : List Dec × List Fn) (hg : (∀ d ∈ x.1, d.good) ∧ ∀ f ∈ x.2, f.good) (hn : sizeF x.2 < 5000) (hw : (wProg x).length < 800000) (hj : (joinR [] (wProg x)).length ≤ 140737488355328) : Ret P0 n_parse_Text [pgD (pgOf x)] (.str (joinR [] (wProg x))) := by
 obtain ⟨ds, fs⟩ := x
 obtain ⟨hgd, hgf⟩ := hg
 simp only at hgd hgf hn
 have hwp : wProg (ds, fs) = ds.flatMap wDec ++ fs.flatMap wFn := rfl
 rw [hwp, List.length_append] at hw
 have hds : 3 * ds.length ≤ (ds.flatMap wDec).length := by
   clear hw hj hwp hgd
   induction ds with
   | nil => simp
   | cons d ds ih => have := wDec_len d; rw [List.flatMap_cons, List.length_append, List.length_cons]; omega
 have m1 : (((pgOf (ds, fs)).nodes).map ndL).length = sizeF fs := by simp [pgOf, nodesF_len]
 have m2 : (((pgOf (ds, fs)).decls).map decL).length = ds.length := by simp [pgOf]
 have m3 : (((pgOf (ds, fs)).funs).map fuL).length = fs.length := by simp [pgOf, funsF_len]
 have hfl : fs.length ≤ sizeF fs := by
   clear hw hj hwp hgf m1 m3 hn
   induction fs with
   | nil => simp
   | cons d ds ih => simp only [List.length_cons, sizeF, Fn.sz]; have := ih m2; omega
 generalize hD : (pgOf (ds, fs)).decls.map decL = D at *
 generalize hF : (pgOf (ds, fs)).funs.map fuL = F at *
 generalize hN : (pgOf (ds, fs)).nodes.map ndL = N at *
 rw [show pgD (pgOf (ds, fs)) = .agg [.slice 3 D false, .slice 3 F false, .slice 5 N false] by unfold pgD; rw [hD, hF, hN]]
 have hmk : (decide ((0 : Int) ≤ (N.length : Int)) && decide ((N.length : Int) ≤ (N.length : Int)) && decide ((N.length : Int) * ((1 : Nat) : Int) ≤ 70368744177664)) = true := by
   simp; omega
 have key : ∀ st, Weak st ⟨[(20, .d (I 0)), (19, .d (I D.length)), (18, .d (.slice 3 D false)), (3, .ptr 3 0), (2, .ptr 1 0), (1, .ptr 0 0)], [(3, .var [.d (.slice 3 D false), .d (.slice 3 F false), .d (.slice 5 N false), .ref 2 0 0 N.length, .ref 4 0 0 (rowT []).length]), (2, .mt 1 0 (List.replicate N.length [.bool false])), (4, .arr 1 (rowT [])), (1, .var [.d (.str [])]), (0, .var [.d (.slice 3 D false), .d (.slice 3 F false), .d (.slice 5 N false)])], 5, [.func n_parse_Text_1 [] [.ptr 1 0]], 0⟩ →
     Weak st ⟨[(20, .d (I ((0 : Nat) : Int))), (19, .d (I D.length)), (18, .d (.slice 3 D false)), (3, .ptr 3 0), (2, .ptr 1 0), (1, .ptr 0 0)], txH D F N (fun _ => false) ((ds.take 0).flatMap wDec), 5, [.func n_parse_Text_1 [] [.ptr 1 0]], 0⟩ := by
   intro st h
   rw [wro_zero] at h
   have e : (wroB N.length fun _ => false).length = N.length := by simp [wroB]
   unfold txH
   rw [e]
   exact h
 rw [hwp] at hj ⊢
 have hP0 : ∀ i, (fun _ : Nat => false) i = false := fun _ => rfl
 generalize (fun _ : Nat => false) = P00 at key hP0
 have hNS : nsL (nodesF fs 0) = N := by rw [← hN]; simp [nsL, pgOf]
 have hef : ∀ (j : Nat) (h : j < fs.length), F[(j : Int).toNat]? = some (fuL ⟨fs[j].name, fs[j].args, ((sizeF (fs.take j) + fs[j].body.sz : Nat) : Int)⟩) := by
   intro j h
   rw [← hF, show ((j : Nat) : Int).toNat = j by omega]
   show ((funsF fs 0).map fuL)[j]? = _
   rw [List.getElem?_map, (fun_at fs j h).1]; rfl
 have z0 : orR P00 0 (sizeF (fs.take 0)) = P00 := orR_zero P00 0
 have z1 : ds.flatMap wDec ++ (fs.take 0).flatMap wFn = ds.flatMap wDec := by simp
 have key2 : ∀ st, Weak st ⟨[(30, .d (I 0)), (29, .d (I F.length)), (28, .d (.slice 3 F false)), (3, .ptr 3 0), (2, .ptr 1 0)], [(3, .var [.d (.slice 3 D false), .d (.slice 3 F false), .d (.slice 5 N false), .ref 2 0 0 (wroB N.length P00).length, .ref 4 0 0 (rowT (ds.flatMap wDec)).length]), (2, .mt 1 0 (wroB N.length P00)), (4, .arr 1 (rowT (ds.flatMap wDec))), (1, .var [.d (.str [])])], 5, [.func n_parse_Text_1 [] [.ptr 1 0]], 0⟩ →
     Weak st ⟨[(30, .d (I ((0 : Nat) : Int))), (29, .d (I F.length)), (28, .d (.slice 3 F false)), (3, .ptr 3 0), (2, .ptr 1 0)], txH2 D F N (orR P00 0 (sizeF (fs.take 0))) (ds.flatMap wDec ++ (fs.take 0).flatMap wFn), 5, [.func n_parse_Text_1 [] [.ptr 1 0]], 0⟩ := by
   intro st h
   rw [z0, z1]
   exact h
 have hel : ∀ (j : Nat) (h : j < ds.length), D[(j : Int).toNat]? = some (decL ds[j]) := by
   intro j h
   rw [← hD, show ((j : Nat) : Int).toNat = j by omega]
   show (ds.map decL)[j]? = _
   rw [map_get _ _ _ h]
 refine Ret_of_execDW is_parse_Text_w rfl ?_
 ((repeat' first|refine aw ?_|refine bw (fun _=>?_) fun _=>?_))
 refine WT_draw ⟨[(3, .ptr 3 0), (2, .ptr 1 0), (1, .ptr 0 0)], [(3, .var [.d (.slice 3 D false), .d (.slice 3 F false), .d (.slice 5 N false), .ref 2 0 0 N.length, .d .nil]), (2, .mt 1 0 (List.replicate N.length [.bool false])), (1, .var [.d (.str [])]), (0, .var [.d (.slice 3 D false), .d (.slice 3 F false), .d (.slice 5 N false)])], 4, [.func n_parse_Text_1 [] [.ptr 1 0]], 0⟩ ?_ ?_
 · ((repeat' first|refine aw ?_|refine bw (fun _=>?_) fun _=>?_))
   refine WT_both ?_ ?_
   · ((repeat' first|refine aw ?_|refine bw (fun _=>?_) fun _=>?_))
     refine WT_done (.inl ⟨rfl, ?_⟩)
     exact Uw.wW
   · ((repeat' first|refine aw ?_|refine bw (fun _=>?_) fun _=>?_))
     refine WT_done (.inl ⟨rfl, ?_⟩)
     exact Weak.eqs [(3, 2), (2, 3)] (by kernel_rfl) (by kernel_rfl) (by kernel_rfl) (by kernel_rfl) (by kernel_rfl) (by kernel_rfl) (by kernel_rfl) (by kernel_rfl) (by kernel_rfl) (by kernel_rfl)
 ((repeat' first|refine aw ?_|refine bw (fun _=>?_) fun _=>?_))
 refine WT_loop (fun (j : Nat) => ⟨[(20, .d (I j)), (19, .d (I D.length)), (18, .d (.slice 3 D false)), (3, .ptr 3 0), (2, .ptr 1 0), (1, .ptr 0 0)], txH D F N P00 ((ds.take j).flatMap wDec), 5, [.func n_parse_Text_1 [] [.ptr 1 0]], 0⟩)
   (fun j => j ≤ ds.length) (fun j => ds.length - j) 0 (key _ (by exact Uw.wW)) (Nat.zero_le _) ?_
 · clear key
   intro j hj1
   by_cases h : j < ds.length
   · have he := hel j h
     have hlt : j < D.length := by omega
     have hwl : ((ds.take j).flatMap wDec).length ≤ (ds.flatMap wDec).length := by
       conv => rhs; rw [← List.take_append_drop j ds]
       rw [List.flatMap_append, List.length_append]; omega
     have hd := w_decl D F N P00 ((ds.take j).flatMap wDec) ds[j] (hgd _ (List.getElem_mem _)) (by omega)
     rw [← wProg_take ds j h] at hd
     clear hel
     generalize (ds.take j).flatMap wDec = w1 at *
     ((repeat' first|refine aw ?_|refine bw (fun _=>?_) fun _=>?_))
     refine WT_frE 6 [3, 2, 4] hd ?_
     ((repeat' first|refine aw ?_|refine bw (fun _=>?_) fun _=>?_))
     exact WT_again (j + 1) (by omega) (by show _ < _; omega) (by exact Uw.wW)
   · have hj0 : j = ds.length := by omega
     subst hj0
     rw [List.take_length]
     have hlt : ¬ ds.length < D.length := by omega
     clear hel
     ((repeat' first|refine aw ?_|refine bw (fun _=>?_) fun _=>?_))
     refine WT_break ?_
     ((repeat' first|refine aw ?_|refine bw (fun _=>?_) fun _=>?_))
     refine WT_loop (fun (j : Nat) => ⟨[(30, .d (I j)), (29, .d (I F.length)), (28, .d (.slice 3 F false)), (3, .ptr 3 0), (2, .ptr 1 0)], txH2 D F N (orR P00 0 (sizeF (fs.take j))) (ds.flatMap wDec ++ (fs.take j).flatMap wFn), 5, [.func n_parse_Text_1 [] [.ptr 1 0]], 0⟩)
       (fun j => j ≤ fs.length) (fun j => fs.length - j) 0 (key2 _ (by exact Uw.wW)) (Nat.zero_le _) ?_
     clear key2 z0 z1 hj1 h hlt
     intro j hj1
     by_cases h : j < fs.length
     · have he := hef j h
       have hlt : j < F.length := by omega
       have hwl : ((fs.take (j + 1)).flatMap wFn).length ≤ (fs.flatMap wFn).length := by
         conv => rhs; rw [← List.take_append_drop (j + 1) fs]
         rw [List.flatMap_append, List.length_append]; omega
       have hwn := wFns_take fs j h
       have hsn := sizeF_take fs j h
       have hat := (fun_at fs j h).2
       have hgj := (hgf _ (List.getElem_mem h)).body
       clear hef hgf
       generalize fs[j] = f at *
       have hwf : (wFn f).length = 3 + (wStrs f.args).length + 1 + (wBlock f.body).length := by simp [wFn]; omega
       rw [hwn, List.length_append] at hwl
       have hba := wStrs_len f.args
       have hsz : sizeF (fs.take j) + (f.body.sz + 1) ≤ sizeF fs := by
         rw [← hsn]
         conv => rhs; rw [← List.take_append_drop (j + 1) fs]
         rw [sizeF_app]; omega
       have hsj : sizeF (fs.take (j + 1)) < 5000 := by omega
       generalize hwj : ds.flatMap wDec ++ (fs.take j).flatMap wFn = wj at *
       have hwjl : wj.length + (wFn f).length < 800000 := by rw [← hwj, List.length_append]; omega
       generalize hpj : orR P00 0 (sizeF (fs.take j)) = pj at *
       have h1 := s_writer_put D F N pj wj [[102, 117, 110, 99], f.name, [40]] (by simp; omega)
       have he : F[(j : Int).toNat]? = some [.str f.name, .slice 1 (rowT f.args) false, I ((sizeF (fs.take j) + f.body.sz : Nat) : Int)] := he
       have hlen : (rowT f.args).length = f.args.length := by simp [rowT]
       have hea : ∀ (i : Nat) (h : i < f.args.length), (rowT f.args)[(i : Int).toNat]? = some [.str f.args[i]] := by
         intro i h
         rw [show ((i : Nat) : Int).toNat = i by omega, rowT, map_get _ _ _ h]
       have y1 : wj ++ [[102, 117, 110, 99], f.name, [40]] ++ wStrs (f.args.take 0) = wj ++ [[102, 117, 110, 99], f.name, [40]] := by simp [wStrs]
       have key3 : ∀ st, Weak st ⟨[(41, .d (I 0)), (40, .d (I (rowT f.args).length)), (39, .d (.slice 1 (rowT f.args) false)), (7, .ptr 5 0), (30, .d (I j)), (29, .d (I F.length)), (28, .d (.slice 3 F false)), (3, .ptr 3 0), (2, .ptr 1 0)],
             (5, .var [.d (.str f.name), .d (.slice 1 (rowT f.args) false), .d (I ((sizeF (fs.take j) + f.body.sz : Nat) : Int))]) :: txH2 D F N pj (wj ++ [[102, 117, 110, 99], f.name, [40]]), 6, [.func n_parse_Text_1 [] [.ptr 1 0]], 0⟩ →
           Weak st ⟨[(41, .d (I ((0 : Nat) : Int))), (40, .d (I (rowT f.args).length)), (39, .d (.slice 1 (rowT f.args) false)), (7, .ptr 5 0), (30, .d (I j)), (29, .d (I F.length)), (28, .d (.slice 3 F false)), (3, .ptr 3 0), (2, .ptr 1 0)],
             (5, .var [.d (.str f.name), .d (.slice 1 (rowT f.args) false), .d (I ((sizeF (fs.take j) + f.body.sz : Nat) : Int))]) :: txH2 D F N pj (wj ++ [[102, 117, 110, 99], f.name, [40]] ++ wStrs (f.args.take 0)), 6, [.func n_parse_Text_1 [] [.ptr 1 0]], 0⟩ := by
         intro st h
         rw [y1]
         exact h
       ((repeat' first|refine aw ?_|refine bw (fun _=>?_) fun _=>?_))
       refine WT_frE 6 [3, 2, 4] h1 ?_
       ((repeat' first|refine aw ?_|refine bw (fun _=>?_) fun _=>?_))
       refine WT_loop (fun (i : Nat) => ⟨[(41, .d (I i)), (40, .d (I (rowT f.args).length)), (39, .d (.slice 1 (rowT f.args) false)), (7, .ptr 5 0), (30, .d (I j)), (29, .d (I F.length)), (28, .d (.slice 3 F false)), (3, .ptr 3 0), (2, .ptr 1 0)],
             (5, .var [.d (.str f.name), .d (.slice 1 (rowT f.args) false), .d (I ((sizeF (fs.take j) + f.body.sz : Nat) : Int))]) :: txH2 D F N pj (wj ++ [[102, 117, 110, 99], f.name, [40]] ++ wStrs (f.args.take i)), 6, [.func n_parse_Text_1 [] [.ptr 1 0]], 0⟩)
         (fun i => i ≤ f.args.length) (fun i => f.args.length - i) 0 (key3 _ (by exact Uw.wW)) (Nat.zero_le _) ?_
       clear key3 y1 he
       intro i hi
       by_cases hia : i < f.args.length
       · have he := hea i hia
         have hilt : i < (rowT f.args).length := by omega
         have hst := wStrs_take f.args i hia
         have hsl := wStrs_le f.args (i + 1)
         rw [hst] at hsl
         simp only [List.length_append, List.length_cons, List.length_nil] at hsl
         by_cases hi0 : i = 0
         · subst hi0
           have h2 := s_writer_put D F N pj (wj ++ [[102, 117, 110, 99], f.name, [40]] ++ wStrs (f.args.take 0)) [f.args[0]] (by simp only [List.length_append, List.length_cons, List.length_nil]; omega)
           rw [if_pos rfl, List.append_nil] at hst
           rw [List.append_assoc _ (wStrs _), ← hst] at h2
           clear hea hst
           ((repeat' first|refine aw ?_|refine bw (fun _=>?_) fun _=>?_))
           refine WT_frE 6 [3, 2, 4] h2 ?_
           ((repeat' first|refine aw ?_|refine bw (fun _=>?_) fun _=>?_))
           exact WT_again 1 (by omega) (by show _ < _; omega) (by exact Uw.wW)
         · have h0 := s_writer_put D F N pj (wj ++ [[102, 117, 110, 99], f.name, [40]] ++ wStrs (f.args.take i)) [[44]] (by simp; rw [if_neg hi0] at hsl; simp at hsl; omega)
           have h2 := s_writer_put D F N pj (wj ++ [[102, 117, 110, 99], f.name, [40]] ++ wStrs (f.args.take i) ++ [[44]]) [f.args[i]] (by simp; rw [if_neg hi0] at hsl; simp at hsl; omega)
           rw [if_neg hi0] at hst
           have e : wj ++ [[102, 117, 110, 99], f.name, [40]] ++ wStrs (f.args.take i) ++ [[44]] ++ [f.args[i]] = wj ++ [[102, 117, 110, 99], f.name, [40]] ++ wStrs (f.args.take (i + 1)) := by rw [hst]; simp
           rw [e] at h2
           clear hea hst e
           ((repeat' first|refine aw ?_|refine bw (fun _=>?_) fun _=>?_))
           refine WT_frE 6 [3, 2, 4] h0 ?_
           ((repeat' first|refine aw ?_|refine bw (fun _=>?_) fun _=>?_))
           refine WT_frE 6 [3, 2, 4] h2 ?_
           ((repeat' first|refine aw ?_|refine bw (fun _=>?_) fun _=>?_))
           exact WT_again (i + 1) (by omega) (by show _ < _; omega) (by exact Uw.wW)
       · have hi0 : i = f.args.length := by omega
         subst hi0
         rw [List.take_length]
         have hnlt : ¬ f.args.length < (rowT f.args).length := by omega
         have h3 := s_writer_put D F N pj (wj ++ [[102, 117, 110, 99], f.name, [40]] ++ wStrs f.args) [[41]] (by simp; omega)
         have h4 := c_block_w D F (nodesF fs 0) (by rw [nodesF_len]; omega) f.body (cBl_all D F (nodesF fs 0) (by rw [nodesF_len]; omega) f.body hgj) (sizeF (fs.take j)) pj (wj ++ [[102, 117, 110, 99], f.name, [40]] ++ wStrs f.args ++ [[41]]) hat
           (fun i h1 h2 => by rw [← hpj, orR_not (by omega)]; exact hP0 i) (by simp; omega)
         have e : wj ++ [[102, 117, 110, 99], f.name, [40]] ++ wStrs f.args ++ [[41]] ++ wBlock f.body = ds.flatMap wDec ++ (fs.take (j + 1)).flatMap wFn := by
           rw [hwn, ← List.append_assoc, hwj]; simp [wFn, sFunc]
         have e2 : orR pj (sizeF (fs.take j)) (f.body.sz + 1) = orR P00 0 (sizeF (fs.take (j + 1))) := by
           have := orR_two P00 0 (sizeF (fs.take j)) (f.body.sz + 1)
           rw [Nat.zero_add, hpj] at this
           rw [this, hsn]
         unfold wrN at h4
         rw [hNS, e, e2] at h4
         clear hea e e2 hwn
         ((repeat' first|refine aw ?_|refine bw (fun _=>?_) fun _=>?_))
         refine WT_break ?_
         ((repeat' first|refine aw ?_|refine bw (fun _=>?_) fun _=>?_))
         refine WT_frE 6 [3, 2, 4] h3 ?_
         ((repeat' first|refine aw ?_|refine bw (fun _=>?_) fun _=>?_))
         refine WT_frE 6 [3, 2, 4] h4 ?_
         ((repeat' first|refine aw ?_|refine bw (fun _=>?_) fun _=>?_))
         exact WT_again (j + 1) (by omega) (by show _ < _; omega) (by exact Uw.wW)
     · have hj0 : j = fs.length := by omega
       subst hj0
       have hnlt : ¬ fs.length < F.length := by omega
       have hjn := s_parse_join (ds.flatMap wDec ++ fs.flatMap wFn) false (by rw [List.length_append]; omega) hj
       rw [List.take_length]
       clear hef
       generalize joinR [] (ds.flatMap wDec ++ fs.flatMap wFn) = TX at *
       generalize orR P00 0 (sizeF fs) = pj at *
       generalize ds.flatMap wDec ++ fs.flatMap wFn = w2 at *
       have e : List.take (rowT w2).length (List.drop 0 (rowT w2)) = rowT w2 := by simp
       rw [← e] at hjn
       clear e
       ((repeat' first|refine aw ?_|refine bw (fun _=>?_) fun _=>?_))
       refine WT_break ?_
       ((repeat' first|refine aw ?_|refine bw (fun _=>?_) fun _=>?_))
       refine WT_done ⟨_, .inl rfl, .inr ⟨none, n_parse_Text_1, [], [.ptr 1 0], .inl ⟨.inr rfl, rfl⟩, rfl, ?_⟩⟩
       refine SatD.mono (tx_calm _ _) ?_
       rintro h' nx' ⟨rfl, rfl⟩
       exact ⟨[.d (.str TX)], _, rfl, rfl, rfl, rfl⟩
end Uw.Tryd
