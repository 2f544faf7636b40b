/- Steps of the proof. -/
import Derived.Test.YthdaabapiicnhaaGreatDoorTr34
set_option linter.all false
set_option maxRecDepth 100000
set_option maxHeartbeats 4000000
open Go.Proofs.Tryz
namespace Go.Proofs.YthdaabapiicnhaaGreatDoor.Av
open Go.RowKit
def t0:List AV:=List.replicate 39 (.tup [])
def h0:List (Nat×AO):=[]
def n0:Nat:=100
def y0:List Nat:=[21,69,166,194,34,142,174,254,51,143,16,178,185,178,204,107,138,25,0,80,180,91,164,132,47,186,142,94,126,96,52,167]
def y1:List Nat:=[147,168,156,118,156,115,32,222,238,66,231,227,138,47,136,90,228,186,141,121,58,194,115,165,199,104,61,156,146,134,114,32]
def y2:List Nat:=[183,209,209,124,39,230,249,69,45,188,63,87,15,204,236,83,243,153,127,105,40,31,8,54,0,148,78,107,91,184,231,175]
def o(n:Nat):List Nat:=List.replicate n 0
def z(n:Int):AV:=.int .i64 n
def v(n:Int):AV:=.int .u32 n
def x(n:Int):AV:=.int .u64 n
def SE(n:Nat):List AV:=cat (List.replicate n [.bool false,z 0,x 0,v 0,.bool false,z 0,z 0,v 0,z 0,.nils,z 0])
def TU(n:Nat):List AV:=List.replicate n (.tup [])
def P0:List AV:=[v 545259519,z 9,z 90,z 10,z 9,z 9,.nils,v 0]
def P1:List AV:=[v 0,v 545259519,v 0,v 5,z 9999,z 5,z 68]
def t1:List AV:=cat [[.bool false],TU 38]
def k1:List Nat:=[]
def h1:List (Nat×AO):=[]
def n1:Nat:=100
def t2:List AV:=cat [[.bool false,.ptr 723 0],TU 4,[.agg (cat [P0,bz (o 64),P1]),.ptr 723 0],TU 31]
def k2:List Nat:=[126,127,155,688,723]
def h2:List (Nat×AO):=[(126,.mp [(.agg (bz y0),z 0,0)] 1),
 (127,.row 196 (cat [[z 9,.slo 155 1,.map 126]]) false),
 (155,.row 82 (cat [bz y0,[v 0],bz (o 64),[v 0,v 545259519,v 0,z (-1),z 0,x 2,x 0,x 0,x 0]]) true),
 (688,.row 5 (bz (cat [List.replicate 2176 0])) true),
 (723,.row 129 (cat [P0,bz (o 64),P1,[.ptr 127 0,.slo 688 2176,.nils,z 4,z 8,z 0],bz (o 32),[z 0,z 0],SE 16,[.nils,.nils,.nils,.nils,z 0]]) false)]
def n2:Nat:=724
def t3:List AV:=cat [[.bool false,.ptr 723 0],TU 4,[.agg (cat [P0,bz (o 64),P1]),.ptr 723 0,.ptr 723 0],TU 30]
def k3:List Nat:=[126,127,155,688,723]
def h3:List (Nat×AO):=[(126,.mp [(.agg (bz y0),z 0,0)] 1),
 (127,.row 196 (cat [[z 9,.slo 155 1,.map 126]]) false),
 (155,.row 82 (cat [bz y0,[v 0],bz (o 64),[v 0,v 545259519,v 0,z (-1),z 0,x 2,x 0,x 0,x 0]]) true),
 (688,.row 5 (bz (cat [List.replicate 2176 0])) true),
 (723,.row 129 (cat [P0,bz (o 64),P1,[.ptr 127 0,.slo 688 2176,.nils,z 4,z 8,z 0],bz (o 32),[z 0,z 0,.bool true,z 2,x 0,v 0,.bool false,z 0,z 0,v 5,z 9999,.emp,z 0],SE 15,[.nils,.nils,.nils,.nils,z 0]]) false)]
def n3:Nat:=984
def t4:List AV:=cat [[.bool false,.ptr 723 0,.ptr 1114 0,.bool true,.tup [],.tup [],.agg (cat [P0,bz (o 64),P1]),.ptr 723 0,.ptr 723 0,.tup [],.tup (cat [[.agg (cat [[v 0],bz (cat [y0,List.replicate 32 0]),[v 3,v 545259519,v 3]]),.bool true]]),.agg (cat [P0,bz (o 64),P1]),.agg (cat [[v 0],bz (o 64),[v 0,v 545259519,v 0]]),.agg (bz y0),.agg (cat [[v 0],bz (cat [y0,List.replicate 32 0]),[v 3,v 545259519,v 0]]),.tup (cat [[.agg (cat [[v 0],bz (cat [y0,List.replicate 32 0]),[v 3,v 545259519,v 3]]),.bool true]]),.agg (cat [[v 0],bz (cat [y0,List.replicate 32 0]),[v 3,v 545259519,v 3]]),.bool true],TU 21]
def k4:List Nat:=[126,127,155,688,723,1114]
def h4:List (Nat×AO):=[(126,.mp [(.agg (bz y0),z 0,0)] 1),
 (127,.row 196 (cat [[z 9,.slo 155 1,.map 126]]) false),
 (155,.row 82 (cat [bz y0,[v 0],bz (o 64),[v 0,v 545259519,v 0,z (-1),z 0,x 2,x 0,x 0,x 0]]) true),
 (688,.row 5 (bz (cat [List.replicate 2176 0])) true),
 (723,.row 129 (cat [P0,bz (o 64),P1,[.ptr 127 0,.slo 688 2176,.nils,z 4,z 8,z 0],bz (o 32),[z 0,z 0,.bool true,z 2,x 0,v 0,.bool false,z 0,z 0,v 5,z 9999,.emp,z 0],SE 15,[.nils,.nils,.nils,.nils,z 0]]) false),
 (1114,.row 30 (cat [[v 0],bz (cat [y0,List.replicate 32 0]),[v 3,v 545259519,v 3]]) false)]
def n4:Nat:=1115
def t5:List AV:=cat [[.bool false,.ptr 723 0,.ptr 1114 0,.bool true,.tup [],.tup [],.agg (cat [P0,bz (o 64),P1]),.ptr 723 0,.ptr 723 0,.tup [],.tup (cat [[.agg (cat [[v 0],bz (cat [y0,List.replicate 32 0]),[v 3,v 545259519,v 3]]),.bool true]]),.agg (cat [P0,bz (o 64),P1]),.agg (cat [[v 0],bz (o 64),[v 0,v 545259519,v 0]]),.agg (bz y0),.agg (cat [[v 0],bz (cat [y0,List.replicate 32 0]),[v 3,v 545259519,v 0]]),.tup (cat [[.agg (cat [[v 0],bz (cat [y0,List.replicate 32 0]),[v 3,v 545259519,v 3]]),.bool true]]),.agg (cat [[v 0],bz (cat [y0,List.replicate 32 0]),[v 3,v 545259519,v 3]]),.bool true,.ptr 723 0,.agg (cat [[v 0],bz (cat [y0,List.replicate 32 0]),[v 3,v 545259519,v 3]]),.slc 1115 0 1 1,.agg (cat [[z 0,.nils,.slc 1419 0 3 3],bz (cat [List.replicate 96 0]),[z 0,z 0]])],TU 17]
def k5:List Nat:=[126,127,688,723,1114,1115,1342,1398,1399,1419]
def h5:List (Nat×AO):=[(126,.mp [(.agg (bz y0),z 0,0),(.agg (bz y1),z 1,1)] 2),
 (127,.row 196 (cat [[z 9,.slo 1342 2,.map 126]]) false),
 (688,.row 5 (bz (cat [List.replicate 2176 0])) true),
 (723,.row 129 (cat [P0,bz (o 64),P1,[.ptr 127 0,.slo 688 2176,.slc 1399 0 4 4,z 4,z 8,z 1],bz y2,[z 0,z 0,.bool true,z 2,x 0,v 0,.bool false,z 0,z 0,v 5,z 9999,.emp,z 0],SE 15,[.nils,.nils,.nils,.nils,z 0]]) false),
 (1114,.row 30 (cat [[v 0],bz (cat [y0,List.replicate 32 0]),[v 3,v 545259519,v 3]]) false),
 (1115,.row 30 (cat [[v 0],bz (cat [y0,List.replicate 32 0]),[v 3,v 545259519,v 3]]) false),
 (1342,.row 82 (cat [bz y0,[v 0],bz (o 64),[v 0,v 545259519,v 0,z (-1),z 0,x 2,x 0,x 0,x 0],bz y1,[v 0],bz (cat [y0,List.replicate 32 0]),[v 3,v 545259519,v 3,z 0,z 1,x 4,x 0,x 0,x 0]]) true),
 (1398,.row 5 (bz (cat [[1],List.replicate 7 0,y0,List.replicate 32 0,[3,0,0,0,255,255,127,32,3],List.replicate 15 0,y2])) true),
 (1399,.row 299 (cat [[z 4,.slc 1398 0 32 32,z 5,.slc 1398 32 32 32,z 6,.slc 1398 64 32 32,z 7,.slc 1398 96 32 32]]) false),
 (1419,.row 3 (cat [[z 1,z 0,z 0]]) false)]
def n5:Nat:=1420
def t6:List AV:=cat [[.bool false,.ptr 723 0,.ptr 1114 0,.bool true,.ptr 1426 0,.bool true,.agg (cat [P0,bz (o 64),P1]),.ptr 723 0,.ptr 723 0,.tup [],.tup (cat [[.agg (cat [[v 0],bz (cat [y0,List.replicate 32 0]),[v 3,v 545259519,v 3]]),.bool true]]),.agg (cat [P0,bz (o 64),P1]),.agg (cat [[v 0],bz (o 64),[v 0,v 545259519,v 0]]),.agg (bz y0),.agg (cat [[v 0],bz (cat [y0,List.replicate 32 0]),[v 3,v 545259519,v 0]]),.tup (cat [[.agg (cat [[v 0],bz (cat [y0,List.replicate 32 0]),[v 3,v 545259519,v 3]]),.bool true]]),.agg (cat [[v 0],bz (cat [y0,List.replicate 32 0]),[v 3,v 545259519,v 3]]),.bool true,.ptr 723 0,.agg (cat [[v 0],bz (cat [y0,List.replicate 32 0]),[v 3,v 545259519,v 3]]),.slc 1115 0 1 1,.agg (cat [[z 0,.nils,.slc 1419 0 3 3],bz (cat [List.replicate 96 0]),[z 0,z 0]]),.tup (cat [[.agg (cat [bz y1,[v 0],bz (cat [y0,List.replicate 32 0]),[v 3,v 545259519,v 3,z 0,z 1,x 4,x 0,x 0,x 0]]),.bool true]]),.ptr 723 0,.tup (cat [[.agg (cat [bz y1,[v 0],bz (cat [y0,List.replicate 32 0]),[v 3,v 545259519,v 3,z 0,z 1,x 4,x 0,x 0,x 0]]),.bool true]]),.agg (cat [bz y1,[v 0],bz (cat [y0,List.replicate 32 0]),[v 3,v 545259519,v 3,z 0,z 1,x 4,x 0,x 0,x 0]]),.bool true],TU 12]
def k6:List Nat:=[126,127,688,723,1114,1115,1342,1398,1399,1419,1426]
def h6:List (Nat×AO):=[(126,.mp [(.agg (bz y0),z 0,0),(.agg (bz y1),z 1,1)] 2),
 (127,.row 196 (cat [[z 9,.slo 1342 2,.map 126]]) false),
 (688,.row 5 (bz (cat [List.replicate 2176 0])) true),
 (723,.row 129 (cat [P0,bz (o 64),P1,[.ptr 127 0,.slo 688 2176,.slc 1399 0 4 4,z 4,z 8,z 1],bz y2,[z 0,z 0,.bool true,z 2,x 0,v 0,.bool false,z 0,z 0,v 5,z 9999,.emp,z 0],SE 15,[.nils,.nils,.nils,.nils,z 0]]) false),
 (1114,.row 30 (cat [[v 0],bz (cat [y0,List.replicate 32 0]),[v 3,v 545259519,v 3]]) false),
 (1115,.row 30 (cat [[v 0],bz (cat [y0,List.replicate 32 0]),[v 3,v 545259519,v 3]]) false),
 (1342,.row 82 (cat [bz y0,[v 0],bz (o 64),[v 0,v 545259519,v 0,z (-1),z 0,x 2,x 0,x 0,x 0],bz y1,[v 0],bz (cat [y0,List.replicate 32 0]),[v 3,v 545259519,v 3,z 0,z 1,x 4,x 0,x 0,x 0]]) true),
 (1398,.row 5 (bz (cat [[1],List.replicate 7 0,y0,List.replicate 32 0,[3,0,0,0,255,255,127,32,3],List.replicate 15 0,y2])) true),
 (1399,.row 299 (cat [[z 4,.slc 1398 0 32 32,z 5,.slc 1398 32 32 32,z 6,.slc 1398 64 32 32,z 7,.slc 1398 96 32 32]]) false),
 (1419,.row 3 (cat [[z 1,z 0,z 0]]) false),
 (1426,.row 82 (cat [bz y1,[v 0],bz (cat [y0,List.replicate 32 0]),[v 3,v 545259519,v 3,z 0,z 1,x 4,x 0,x 0,x 0]]) false)]
def n6:Nat:=1427
def t7:List AV:=cat [[.bool true,.ptr 723 0,.ptr 1114 0,.bool true,.ptr 1426 0,.bool true,.agg (cat [P0,bz (o 64),P1]),.ptr 723 0,.ptr 723 0,.tup [],.tup (cat [[.agg (cat [[v 0],bz (cat [y0,List.replicate 32 0]),[v 3,v 545259519,v 3]]),.bool true]]),.agg (cat [P0,bz (o 64),P1]),.agg (cat [[v 0],bz (o 64),[v 0,v 545259519,v 0]]),.agg (bz y0),.agg (cat [[v 0],bz (cat [y0,List.replicate 32 0]),[v 3,v 545259519,v 0]]),.tup (cat [[.agg (cat [[v 0],bz (cat [y0,List.replicate 32 0]),[v 3,v 545259519,v 3]]),.bool true]]),.agg (cat [[v 0],bz (cat [y0,List.replicate 32 0]),[v 3,v 545259519,v 3]]),.bool true,.ptr 723 0,.agg (cat [[v 0],bz (cat [y0,List.replicate 32 0]),[v 3,v 545259519,v 3]]),.slc 1115 0 1 1,.agg (cat [[z 0,.nils,.slc 1419 0 3 3],bz (cat [List.replicate 96 0]),[z 0,z 0]]),.tup (cat [[.agg (cat [bz y1,[v 0],bz (cat [y0,List.replicate 32 0]),[v 3,v 545259519,v 3,z 0,z 1,x 4,x 0,x 0,x 0]]),.bool true]]),.ptr 723 0,.tup (cat [[.agg (cat [bz y1,[v 0],bz (cat [y0,List.replicate 32 0]),[v 3,v 545259519,v 3,z 0,z 1,x 4,x 0,x 0,x 0]]),.bool true]]),.agg (cat [bz y1,[v 0],bz (cat [y0,List.replicate 32 0]),[v 3,v 545259519,v 3,z 0,z 1,x 4,x 0,x 0,x 0]]),.bool true,.bool true,.bool true,.ptr 1426 101,z 1,.bool true,.bool true,.bool true,.ptr 1426 32,.agg (cat [[v 0],bz (cat [y0,List.replicate 32 0]),[v 3,v 545259519,v 3]]),.agg (cat [[v 0],bz (cat [y0,List.replicate 32 0]),[v 3,v 545259519,v 3]]),.bool true,.bool true]]
def k7:List Nat:=[126,127,688,723,1114,1115,1342,1398,1399,1419,1426]
def h7:List (Nat×AO):=[(126,.mp [(.agg (bz y0),z 0,0),(.agg (bz y1),z 1,1)] 2),
 (127,.row 196 (cat [[z 9,.slo 1342 2,.map 126]]) false),
 (688,.row 5 (bz (cat [List.replicate 2176 0])) true),
 (723,.row 129 (cat [P0,bz (o 64),P1,[.ptr 127 0,.slo 688 2176,.slc 1399 0 4 4,z 4,z 8,z 1],bz y2,[z 0,z 0,.bool true,z 2,x 0,v 0,.bool false,z 0,z 0,v 5,z 9999,.emp,z 0],SE 15,[.nils,.nils,.nils,.nils,z 0]]) false),
 (1114,.row 30 (cat [[v 0],bz (cat [y0,List.replicate 32 0]),[v 3,v 545259519,v 3]]) false),
 (1115,.row 30 (cat [[v 0],bz (cat [y0,List.replicate 32 0]),[v 3,v 545259519,v 3]]) false),
 (1342,.row 82 (cat [bz y0,[v 0],bz (o 64),[v 0,v 545259519,v 0,z (-1),z 0,x 2,x 0,x 0,x 0],bz y1,[v 0],bz (cat [y0,List.replicate 32 0]),[v 3,v 545259519,v 3,z 0,z 1,x 4,x 0,x 0,x 0]]) true),
 (1398,.row 5 (bz (cat [[1],List.replicate 7 0,y0,List.replicate 32 0,[3,0,0,0,255,255,127,32,3],List.replicate 15 0,y2])) true),
 (1399,.row 299 (cat [[z 4,.slc 1398 0 32 32,z 5,.slc 1398 32 32 32,z 6,.slc 1398 64 32 32,z 7,.slc 1398 96 32 32]]) false),
 (1419,.row 3 (cat [[z 1,z 0,z 0]]) false),
 (1426,.row 82 (cat [bz y1,[v 0],bz (cat [y0,List.replicate 32 0]),[v 3,v 545259519,v 3,z 0,z 1,x 4,x 0,x 0,x 0]]) false)]
def n7:Nat:=1427
def t8:List AV:=cat [[.bool true,.ptr 723 0,.ptr 1114 0,.bool true,.ptr 1426 0,.bool true,.agg (cat [P0,bz (o 64),P1]),.ptr 723 0,.ptr 723 0,.tup [],.tup (cat [[.agg (cat [[v 0],bz (cat [y0,List.replicate 32 0]),[v 3,v 545259519,v 3]]),.bool true]]),.agg (cat [P0,bz (o 64),P1]),.agg (cat [[v 0],bz (o 64),[v 0,v 545259519,v 0]]),.agg (bz y0),.agg (cat [[v 0],bz (cat [y0,List.replicate 32 0]),[v 3,v 545259519,v 0]]),.tup (cat [[.agg (cat [[v 0],bz (cat [y0,List.replicate 32 0]),[v 3,v 545259519,v 3]]),.bool true]]),.agg (cat [[v 0],bz (cat [y0,List.replicate 32 0]),[v 3,v 545259519,v 3]]),.bool true,.ptr 723 0,.agg (cat [[v 0],bz (cat [y0,List.replicate 32 0]),[v 3,v 545259519,v 3]]),.slc 1115 0 1 1,.agg (cat [[z 0,.nils,.slc 1419 0 3 3],bz (cat [List.replicate 96 0]),[z 0,z 0]]),.tup (cat [[.agg (cat [bz y1,[v 0],bz (cat [y0,List.replicate 32 0]),[v 3,v 545259519,v 3,z 0,z 1,x 4,x 0,x 0,x 0]]),.bool true]]),.ptr 723 0,.tup (cat [[.agg (cat [bz y1,[v 0],bz (cat [y0,List.replicate 32 0]),[v 3,v 545259519,v 3,z 0,z 1,x 4,x 0,x 0,x 0]]),.bool true]]),.agg (cat [bz y1,[v 0],bz (cat [y0,List.replicate 32 0]),[v 3,v 545259519,v 3,z 0,z 1,x 4,x 0,x 0,x 0]]),.bool true,.bool true,.bool true,.ptr 1426 101,z 1,.bool true,.bool true,.bool true,.ptr 1426 32,.agg (cat [[v 0],bz (cat [y0,List.replicate 32 0]),[v 3,v 545259519,v 3]]),.agg (cat [[v 0],bz (cat [y0,List.replicate 32 0]),[v 3,v 545259519,v 3]]),.bool true,.bool true]]
def k8:List Nat:=[]
def h8:List (Nat×AO):=[]
def n8:Nat:=1427
theorem p0:WK prog isO orc 39 (VG Tryz.f4.body 0) t0 h0 n0 k1=some (.normal,t1,h1,n1):=by kernel_rfl
theorem p5:WK prog isO orc 39 (VG Tryz.f4.body 5) t5 h5 n5 k6=some (.normal,t6,h6,n6):=by kernel_rfl
theorem p6:WK prog isO orc 39 (VG Tryz.f4.body 6) t6 h6 n6 k7=some (.normal,t7,h7,n7):=by kernel_rfl
theorem p7:WK prog isO orc 39 (VG Tryz.f4.body 7) t7 h7 n7 k8=some (.ret,t8,h8,n8):=by kernel_rfl
end Go.Proofs.YthdaabapiicnhaaGreatDoor.Av
