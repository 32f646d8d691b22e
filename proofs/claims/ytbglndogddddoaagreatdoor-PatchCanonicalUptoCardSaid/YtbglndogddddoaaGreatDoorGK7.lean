import Derived.Test.YtbglndogddddoaaGreatDoorCards
import Derived.LaidLaws
import Derived.LaidHandle
import Derived.MakeChecks
import Derived.LaidMore
import Derived.OpenShut
import Derived.ProofKit
import Derived.Stop.Joined
import Derived.JoinedCond
import Derived.Test.YtbglndogddddoaaGreatDoorGK6
set_option linter.unusedVariables false
set_option linter.unusedSimpArgs false
set_option linter.unusedSectionVars false
namespace Go.Proofs.YtbglndogddddoaaGreatDoor
open Go.RowKit
attribute [local irreducible] qV qK
set_option maxRecDepth 100000
def H54:List (Nat×Hint):=[]
def J54:List (Nat×Hint):=[(4,⟨[((2,[]),none),((3,[]),none)],[(2, .pt 1 0),(3, .pt 2 0),(4, .leaf)],[.cells [.leaf, .leaf], .el, .el],[.str, .sl .sexp, .bool, .el .dig, .el .dig]⟩)]
abbrev S54:List Sh:=[.pt 0 0]
abbrev L54:List Lf:=[.sl .sexp, .bool]
abbrev O54:List ObSh:=[.cells [.leaf, .leaf]]
def KT (K:Kn) (s_1:ByteArray) (o01_1:List Sx) (o02_1:Bool) (t_1 d_1:Dig):Prop:=
 K (.ag (enc .dig (⟨qt s_1 0 d_1.b0,qt s_1 1 d_1.b1,qt s_1 2 d_1.b2,qt s_1 3 d_1.b3,qt s_1 4 d_1.b4,qt s_1 5 d_1.b5,qt s_1 6 d_1.b6,qt s_1 7 d_1.b7,qt s_1 8 d_1.b8,qt s_1 9 d_1.b9,qt s_1 10 d_1.b10,qt s_1 11 d_1.b11,qt s_1 12 d_1.b12,qt s_1 13 d_1.b13,qt s_1 14 d_1.b14,qt s_1 15 d_1.b15,qt s_1 16 d_1.b16,qt s_1 17 d_1.b17,qt s_1 18 d_1.b18,qt s_1 19 d_1.b19,qt s_1 20 d_1.b20,qt s_1 21 d_1.b21,qt s_1 22 d_1.b22,qt s_1 23 d_1.b23,qt s_1 24 d_1.b24,qt s_1 25 d_1.b25,qt s_1 26 d_1.b26,qt s_1 27 d_1.b27,qt s_1 28 d_1.b28,qt s_1 29 d_1.b29,qt s_1 30 d_1.b30,qt s_1 31 d_1.b31⟩:Dig))) [some (.cells [.sl false .sexp o01_1, .bool o02_1])]
def F54 (g:prodL L54) (K:Kn):Prop:=
 Vg (g.1,g.2.1,())/\
 bif (qW zR (g.1,g.2.1)).2.2 then (
  KT K ((qW zR (g.1,g.2.1)).1) ((qW zR (g.1,g.2.1)).2.1) true dz dz)
 else (
  bif !decide ((qW zR (g.1,g.2.1)).1=(⟨#[]⟩:ByteArray))then (
   KT K ((qW zR (g.1,g.2.1)).1) ((qW zR (g.1,g.2.1)).2.1) (!decide ((((qW zR (g.1,g.2.1)).1).size:Int)=32)) dz dz)
  else (
   KT K ((qW zR (g.1,g.2.1)).1) ((qW zR (g.1,g.2.1)).2.1) false dz dz))
theorem F54_eq (g:prodL L54) (K X:Kn):F54 g K=qV D (qZ [(51,kr)] []) (qv [(51,kr)]) H54 J54 27 [.cell 2 32] (qq Tryz.f54) (argsT S54 L54 g) (qQ S54 O54 L54 g) (settleD (qQ S54 O54 L54 g).length 0 K) X 0:=by kernel_rfl
theorem F54_ok (g:prodL L54) (K X:Kn) (h:F54 g K):FCalls Tryz.prog 54 (argsT S54 L54 g) (qQ S54 O54 L54 g) K X 0:=
 FCalls.settleD (qz (Γ:=qZ [(51,kr)] []) (mu:=qv [(51,kr)]) (H:=H54) (J:=J54) qf (qX (rs:=[(51,kr)]) (l:=[]) (by intro p hp;simp only [List.mem_cons,List.not_mem_nil,or_false] at hp;subst hp;exact K6) (fun p hp=>by cases hp)) qj rfl Tryz.func54 (c:=qq Tryz.f54) rfl Tryz.ntmps54 (rs:=[.cell 2 32]) Tryz.results54 (by unfold qy;rw [Tryz.func54];kernel_rfl) (Nat.le_of_ble_eq_true (by kernel_rfl)) (X:=X) (c0:=0) (Eq.mp (F54_eq g K X) h))
end Go.Proofs.YtbglndogddddoaaGreatDoor
namespace Go.Proofs.YtbglndogddddoaaGreatDoor
open Go.RowKit
set_option maxRecDepth 100000
def pre54 (g:prodL L54):Prop:=True
def V5:Raw:=⟨S54,O54,L54,0,fun g K _=>pre54 g/\K (.ag (enc .dig (qW JE (g.1,g.2.1)).1)) [some (.cells [.sl false .sexp (qW JE (g.1,g.2.1)).2.1, .bool (qW JE (g.1,g.2.1)).2.2])]⟩
theorem rw54_ok:V5.Ok Tryz.prog 54:=fun g K X h=>F54_ok g K X (by
 refine ⟨trivial, ?_⟩
 rw [jD (f:=zR) fun _=>rfl]
 exact or3t (J:=fun b=>KT K _ _ b dz dz) h.2)
end Go.Proofs.YtbglndogddddoaaGreatDoor
namespace Go.Proofs.YtbglndogddddoaaGreatDoor
open Go.RowKit
attribute [local irreducible] qV qK
set_option maxRecDepth 100000
def H101:List (Nat×Hint):=[]
def J101:List (Nat×Hint):=[(4,⟨[((2,[]),none),((4,[]),none)],[(2, .pt 1 0),(4, .pt 2 0)],[.cells [.leaf, .leaf], .el, .el],[.sl .sexp, .bool, .el .idk, .el .idk]⟩)]
abbrev S101:List Sh:=[.pt 0 0]
abbrev Wl:List Lf:=[.sl .sexp, .bool]
abbrev O101:List ObSh:=[.cells [.leaf, .leaf]]
def Ka (K:Kn) (o01_1:List Sx) (o02_1:Bool) (t_1 x_1:Idn):Prop:=
 K (.ag (enc .idk x_1)) [some (.cells [.sl false .sexp o01_1, .bool o02_1])]
def F101 (g:prodL Wl) (K:Kn):Prop:=
 Vw (g.1,g.2.1,())/\
 pre54 ((qW qO (g.1,g.2.1)).1,false,())/\
 Yg ((qW JE ((qW qO (g.1,g.2.1)).1,false)).2.1,(qW JE ((qW qO (g.1,g.2.1)).1,false)).2.2,())/\
 bif (qW qO (g.1,g.2.1)).2.2 then (
  Ka K ((qW qO (g.1,g.2.1)).2.1) true iz (⟨(qW JE ((qW qO (g.1,g.2.1)).1,false)).1,(qW xl ((qW JE ((qW qO (g.1,g.2.1)).1,false)).2)).1⟩:Idn))
 else (
  Ka K ((qW qO (g.1,g.2.1)).2.1) ((qW xl ((qW JE ((qW qO (g.1,g.2.1)).1,false)).2)).2.2) iz (⟨(qW JE ((qW qO (g.1,g.2.1)).1,false)).1,(qW xl ((qW JE ((qW qO (g.1,g.2.1)).1,false)).2)).1⟩:Idn))
theorem F101_eq (g:prodL Wl) (K X:Kn):F101 g K=qV D (qZ [(52,ko),(53,wZ),(54,V5)] []) (qv [(52,ko),(53,wZ),(54,V5)]) H101 J101 23 [.cell 2 36] (qq Tryz.f101) (argsT S101 Wl g) (qQ S101 O101 Wl g) (settleD (qQ S101 O101 Wl g).length 0 K) X 0:=by kernel_rfl
theorem F101_ok (g:prodL Wl) (K X:Kn) (h:F101 g K):FCalls Tryz.prog 101 (argsT S101 Wl g) (qQ S101 O101 Wl g) K X 0:=
 FCalls.settleD (qz (Γ:=qZ [(52,ko),(53,wZ),(54,V5)] []) (mu:=qv [(52,ko),(53,wZ),(54,V5)]) (H:=H101) (J:=J101) qf (qX (rs:=[(52,ko),(53,wZ),(54,V5)]) (l:=[]) (by intro p hp;simp only [List.mem_cons,List.not_mem_nil,or_false] at hp;rcases hp with rfl | rfl | rfl<;>first | exact KP | exact JL | exact rw54_ok) (fun p hp=>by cases hp)) qj rfl Tryz.func101 (c:=qq Tryz.f101) rfl Tryz.ntmps101 (rs:=[.cell 2 36]) Tryz.results101 (by unfold qy;rw [Tryz.func101];kernel_rfl) (Nat.le_of_ble_eq_true (by kernel_rfl)) (X:=X) (c0:=0) (Eq.mp (F101_eq g K X) h))
end Go.Proofs.YtbglndogddddoaaGreatDoor
namespace Go.Proofs.YtbglndogddddoaaGreatDoor
open Go.RowKit
set_option maxRecDepth 100000
def ZS (g:prodL Wl):Prop:=qg g.1<=jG
def y9:Raw:=⟨S101,O101,Wl,0,fun g K _=>ZS g/\K (.ag (enc .idk (qW xE (g.1,g.2.1)).1)) [some (.cells [.sl false .sexp (qW xE (g.1,g.2.1)).2.1, .bool (qW xE (g.1,g.2.1)).2.2])]⟩
theorem rw101_ok:y9.Ok Tryz.prog 101:=fun g K X h=>F101_ok g K X (by
 have hb:qg (jn g.1).list<=jG:=JZ h.1
 refine ⟨trivial,trivial,xG hb, ?_⟩
 rw [jD (f:=qO) fun _=>rfl]
 exact orBt (J:=fun b=>Ka K _ b _ _) h.2)
end Go.Proofs.YtbglndogddddoaaGreatDoor
namespace Go.Proofs.YtbglndogddddoaaGreatDoor
open Go.RowKit
attribute [local irreducible] qV qK
set_option maxRecDepth 100000
def H102:List (Nat×Hint):=[(3,⟨[((3,[]),none),((4,[]),some .idk)],[(0, .pt 0 0),(3, .pt 1 0),(4, .oa .idk 2)],[.cells [.leaf, .leaf], .cells [.leaf, .leaf], .arr .idk],[.sl .sexp, .bool, .sl .sexp, .bool, .sl .idk]⟩)]
def J102:List (Nat×Hint):=[(6,⟨[((4,[]),none)],[(4, .oa .idk 1)],[.cells [.leaf, .leaf], .arr .idk],[.sl .sexp, .bool, .sl .idk]⟩)]
abbrev S102:List Sh:=[.pt 0 0]
abbrev WY:List Lf:=[.sl .sexp, .bool]
abbrev O102:List ObSh:=[.cells [.leaf, .leaf]]
def qqw (K:Kn) (o01_5:List Sx) (o02_5:Bool) (out_5:List Idn):Prop:=
 K (.sl false .idk out_5) [some (.cells [.sl false .sexp o01_5, .bool o02_5])]
def QL (K:Kn) (W4:prodL [.sl .sexp, .bool, .sl .sexp, .bool, .sl .idk]->Prop) (o01_3:List Sx) (o02_3:Bool) (in1_3:List Sx) (in2_3:Bool) (out_3:List Idn):Prop:=
 bif decide (0< (in1_3.length:Int))then (
  ZS (in1_3,in2_3,())/\
 qF (out_3.length+[((qW xE (in1_3,in2_3)).1)].length) 40 (
 W4 (o01_3,o02_3,(qW xE (in1_3,in2_3)).2.1,(qW xE (in1_3,in2_3)).2.2,out_3++[((qW xE (in1_3,in2_3)).1)],())))
 else (
  bif o02_3 then (
  qqw K o01_3 true out_3)
 else (
  qqw K o01_3 in2_3 out_3))
def F102_L4 (K:Kn) (g:prodL [.sl .sexp, .bool, .sl .sexp, .bool, .sl .idk]):Prop:=
 qJ (γ:=prodL [.sl .sexp, .bool, .sl .sexp, .bool, .sl .idk]) (fun V y=>QL K V y.1 y.2.1 y.2.2.1 y.2.2.2.1 y.2.2.2.2.1) g
def F102 (g:prodL WY) (K:Kn):Prop:=
 Vw (g.1,g.2.1,())/\
 F102_L4 K ((qW qO (g.1,g.2.1)).2.1,(qW qO (g.1,g.2.1)).2.2,(qW qO (g.1,g.2.1)).1,false,[],())
theorem F102_eq (g:prodL WY) (K X:Kn):F102 g K=qV D (qZ [(53,wZ),(101,y9)] []) (qv [(53,wZ),(101,y9)]) H102 J102 28 [.tmp 2] (qq Tryz.f102) (argsT S102 WY g) (qQ S102 O102 WY g) (settleG (qQ S102 O102 WY g).length 0 K) X 0:=by kernel_rfl
theorem F102_ok (g:prodL WY) (K X:Kn) (h:F102 g K):FCalls Tryz.prog 102 (argsT S102 WY g) (qQ S102 O102 WY g) K X 0:=
 FCalls.settleG (qz (Γ:=qZ [(53,wZ),(101,y9)] []) (mu:=qv [(53,wZ),(101,y9)]) (H:=H102) (J:=J102) qf (qX (rs:=[(53,wZ),(101,y9)]) (l:=[]) (by intro p hp;simp only [List.mem_cons,List.not_mem_nil,or_false] at hp;rcases hp with rfl | rfl<;>first | exact JL | exact rw101_ok) (fun p hp=>by cases hp)) qj rfl Tryz.func102 (c:=qq Tryz.f102) rfl Tryz.ntmps102 (rs:=[.tmp 2]) Tryz.results102 (by unfold qy;rw [Tryz.func102];kernel_rfl) (Nat.le_of_ble_eq_true (by kernel_rfl)) (X:=X) (c0:=0) (Eq.mp (F102_eq g K X) h))
end Go.Proofs.YtbglndogddddoaaGreatDoor
namespace Go.Proofs.YtbglndogddddoaaGreatDoor
open Go.RowKit
set_option maxRecDepth 100000
def pre102 (g:prodL WY):Prop:=qg g.1<=jG
def WS:Raw:=⟨S102,O102,WY,0,fun g K _=>pre102 g/\K (.sl false .idk (qW oPx (g.1,g.2.1)).1) [some (.cells [.sl false .sexp (qW oPx (g.1,g.2.1)).2.1, .bool (qW oPx (g.1,g.2.1)).2.2])]⟩
theorem rw102_ok:WS.Ok Tryz.prog 102:=fun g K X h=>F102_ok g K X (by
 obtain ⟨l,b,⟨⟩⟩:=g
 obtain ⟨hb,h⟩:=h
 have hb:qg (jn l).list<=jG:=JZ hb
 have hlim:jG=1073741824:=rfl
 refine ⟨trivial, ?_⟩
 rw [jD (f:=qO) fun _=>rfl]
 unfold F102_L4
 refine qJ.reads xE (fun q b' out=>((ZG (l,b)).1,(ZG (l,b)).2,q,b',out,())) (fun q out=>qg q<=jG/\out.length+q.length<=1073741824) (fun r=>K (.sl false .idk r.1) [some (.cells [.sl false .sexp (ZG (l,b)).1, .bool ((ZG (l,b)).2||r.2)])]) (jn l).list rfl
  ⟨hb,by have:=vK (jn l).list;simp only [List.length_nil];omega⟩ (fun x q out hi=> ?_) (fun W x q b' out hi hW=> ?_) (fun W b' out hq=> ?_) h
 . obtain ⟨h1,h2⟩:=hi
   simp only [qg,List.length_cons] at h1 h2
   exact ⟨by omega,by simp only [List.length_append,List.length_singleton];omega⟩
 . obtain ⟨h1,h2⟩:=hi
   show QL K W _ _ (x::q) b' out
   unfold QL
   rw [decide_eq_true (show (0:Int) < (((x::q).length:Nat):Int)by rw [List.length_cons];omega),cond_true]
   rw [List.length_cons] at h2
   exact ⟨h1,by simp only [List.length_singleton];omega,hW⟩
 . show QL K W _ _ [] b' out
   unfold QL
   show bif decide ((0:Int) <0)then _ else _
   rw [decide_eq_false (by omega),cond_false]
   exact orBt (J:=fun b=>qqw K _ b _) hq)
end Go.Proofs.YtbglndogddddoaaGreatDoor
namespace Go.Proofs.YtbglndogddddoaaGreatDoor
open Go.RowKit
attribute [local irreducible] qV qK
set_option maxRecDepth 100000
def H55:List (Nat×Hint):=[(19,⟨[((2,[]),none),((3,[]),none),((4,[]),none),((4,[137]),none)],[(0, .pt 0 0),(2, .pt 1 0),(3, .pt 2 0),(4, .pt 3 0),(52, .leaf),(53, .leaf),(54, .leaf)],[.cells [.leaf, .leaf], .el, .cells [.leaf, .leaf], .elx 137 .str 4, .arr .str],[.sl .sexp, .int .i64, .int .i64, .sl .sexp, .bool, .el .chg, .sl .sexp, .bool, .el .chg, .sl .str]⟩)]
def J55:List (Nat×Hint):=[(4,⟨[((2,[]),none),((3,[]),none),((4,[]),none),((4,[137]),some .str)],[(0, .pt 0 0),(2, .pt 1 0),(3, .pt 2 0),(4, .pt 3 0),(19, .leaf)],[.cells [.leaf, .leaf], .el, .cells [.leaf, .leaf], .elx 137 .str 4, .arr .str],[.bool, .sl .sexp, .bool, .el .chg, .sl .sexp, .bool, .el .chg, .sl .str]⟩),(5,⟨[((2,[]),none),((3,[]),none),((4,[]),none),((4,[137]),none)],[(0, .pt 0 0),(2, .pt 1 0),(3, .pt 2 0),(4, .pt 3 0)],[.cells [.leaf, .leaf], .el, .cells [.leaf, .leaf], .elx 137 .str 4, .arr .str],[.sl .sexp, .bool, .el .chg, .sl .sexp, .bool, .el .chg, .sl .str]⟩),(16,⟨[((2,[]),none),((3,[]),none),((4,[]),none),((4,[137]),none)],[(0, .pt 0 0),(2, .pt 1 0),(3, .pt 2 0),(4, .pt 3 0),(42, .leaf)],[.cells [.leaf, .leaf], .el, .cells [.leaf, .leaf], .elx 137 .str 4, .arr .str],[.bool, .sl .sexp, .bool, .el .chg, .sl .sexp, .bool, .el .chg, .sl .str]⟩),(17,⟨[((2,[]),none),((3,[]),none),((4,[]),none),((4,[137]),none)],[(0, .pt 0 0),(2, .pt 1 0),(3, .pt 2 0),(4, .pt 3 0)],[.cells [.leaf, .leaf], .el, .cells [.leaf, .leaf], .elx 137 .str 4, .arr .str],[.sl .sexp, .bool, .el .chg, .sl .sexp, .bool, .el .chg, .sl .str]⟩),(25,⟨[((2,[]),none),((3,[]),none),((4,[]),none),((4,[137]),none)],[(0, .pt 0 0),(2, .pt 1 0),(3, .pt 2 0),(4, .pt 3 0)],[.cells [.leaf, .leaf], .el, .cells [.leaf, .leaf], .elx 137 .str 4, .arr .str],[.sl .sexp, .bool, .el .chg, .sl .sexp, .bool, .el .chg, .sl .str]⟩),(26,⟨[((2,[]),none),((4,[]),none),((4,[137]),none)],[(2, .pt 1 0),(4, .pt 2 0)],[.cells [.leaf, .leaf], .el, .elx 137 .str 3, .arr .str],[.sl .sexp, .bool, .el .chg, .el .chg, .sl .str]⟩)]
abbrev S55:List Sh:=[.pt 0 0]
abbrev L55:List Lf:=[.sl .sexp, .bool]
abbrev O55:List ObSh:=[.cells [.leaf, .leaf]]
def F55_J14 (K:Kn) (o01_13:List Sx) (o02_13:Bool) (t_13 c_13:Chg) (c2_13:List ByteArray):Prop:=
 K (.ag (enc .chg (⟨c_13.kind,c_13.file,c_13.typ,c_13.parent,c_13.name,c_13.mode,c_13.data,c_13.after,c_13.before,c2_13,c_13.over⟩:Chg))) [some (.cells [.sl false .sexp o01_13, .bool o02_13])]
def Zr (K:Kn) (o01_12:List Sx) (o02_12:Bool) (t_12:Chg) (in1_12:List Sx) (in2_12:Bool) (c_12:Chg) (c2_12:List ByteArray):Prop:=
 va (γ:=prodL [.sl .sexp, .bool, .el .chg, .el .chg, .sl .str]) (fun y=>F55_J14 K y.1 y.2.1 y.2.2.1 y.2.2.2.1 y.2.2.2.2.1) (fun V15=>
  bif o02_12 then (
   V15 (o01_12,true,t_12,(⟨c_12.kind,c_12.file,c_12.typ,c_12.parent,c_12.name,c_12.mode,c_12.data,c_12.after,c_12.before,[],c_12.over⟩:Chg),c2_12,()))
  else (
   V15 (o01_12,in2_12,t_12,(⟨c_12.kind,c_12.file,c_12.typ,c_12.parent,c_12.name,c_12.mode,c_12.data,c_12.after,c_12.before,[],c_12.over⟩:Chg),c2_12,())))
def QN (K:Kn) (V17:prodL [.sl .sexp, .bool, .el .chg, .sl .sexp, .bool, .el .chg, .sl .str]->Prop) (W10:prodL [.sl .sexp, .int .i64, .int .i64, .sl .sexp, .bool, .el .chg, .sl .sexp, .bool, .el .chg, .sl .str]->Prop) (t_9:List Sx) (t2_9 t3_9:Int) (o01_9:List Sx) (o02_9:Bool) (t4_9:Chg) (in1_9:List Sx) (in2_9:Bool) (c_9:Chg) (c2_9:List ByteArray):Prop:=
 bif decide (t3_9<t2_9)then (
    At t_9 t3_9 fun u11=>
   qF (c2_9.length+[u11.atom].length) 16 (
   W10 (t_9,t2_9,IntKind.i64.wrap (t3_9+1),o01_9,o02_9,t4_9,in1_9,in2_9,(⟨c_9.kind,c_9.file,c_9.typ,c_9.parent,c_9.name,c_9.mode,c_9.data,c_9.after,c_9.before,[],c_9.over⟩:Chg),c2_9++[u11.atom],())))
   else (
    V17 (o01_9,o02_9,t4_9,in1_9,in2_9,(⟨c_9.kind,c_9.file,c_9.typ,c_9.parent,c_9.name,c_9.mode,c_9.data,c_9.after,c_9.before,[],c_9.over⟩:Chg),c2_9,()))
def F55_L10 (K:Kn) (V17:prodL [.sl .sexp, .bool, .el .chg, .sl .sexp, .bool, .el .chg, .sl .str]->Prop) (g:prodL [.sl .sexp, .int .i64, .int .i64, .sl .sexp, .bool, .el .chg, .sl .sexp, .bool, .el .chg, .sl .str]):Prop:=
 qJ (γ:=prodL [.sl .sexp, .int .i64, .int .i64, .sl .sexp, .bool, .el .chg, .sl .sexp, .bool, .el .chg, .sl .str]) (fun V y=>QN K V17 V y.1 y.2.1 y.2.2.1 y.2.2.2.1 y.2.2.2.2.1 y.2.2.2.2.2.1 y.2.2.2.2.2.2.1 y.2.2.2.2.2.2.2.1 y.2.2.2.2.2.2.2.2.1 y.2.2.2.2.2.2.2.2.2.1) g
def Xy (K:Kn) (o01_8:List Sx) (o02_8:Bool) (t_8:Chg) (in1_8:List Sx) (in2_8:Bool) (c_8:Chg) (c2_8:List ByteArray):Prop:=
 va (γ:=prodL [.sl .sexp, .bool, .el .chg, .sl .sexp, .bool, .el .chg, .sl .str]) (fun y=>Zr K y.1 y.2.1 y.2.2.1 y.2.2.2.1 y.2.2.2.2.1 y.2.2.2.2.2.1 y.2.2.2.2.2.2.1) (fun V17=>
  bif decide (c_8.kind=5)then (
   Vw (in1_8,in2_8,())/\
   F55_L10 K V17 ((qW qO (in1_8,in2_8)).1,((((qW qO (in1_8,in2_8)).1).length:Nat):Int),0,o01_8,o02_8,t_8,(qW qO (in1_8,in2_8)).2.1,(qW qO (in1_8,in2_8)).2.2,(⟨c_8.kind,c_8.file,c_8.typ,c_8.parent,c_8.name,c_8.mode,c_8.data,c_8.after,c_8.before,[],c_8.over⟩:Chg),c2_8,()))
  else (
   bif decide (2<=c_8.kind)then (
    pre102 (in1_8,in2_8,())/\
    V17 (o01_8,o02_8,t_8,(qW oPx (in1_8,in2_8)).2.1,(qW oPx (in1_8,in2_8)).2.2,(⟨c_8.kind,c_8.file,c_8.typ,c_8.parent,c_8.name,c_8.mode,c_8.data,c_8.after,c_8.before,[],(qW oPx (in1_8,in2_8)).1⟩:Chg),c2_8,()))
   else (
    V17 (o01_8,o02_8,t_8,in1_8,in2_8,(⟨c_8.kind,c_8.file,c_8.typ,c_8.parent,c_8.name,c_8.mode,c_8.data,c_8.after,c_8.before,[],c_8.over⟩:Chg),c2_8,()))))
def F55_J6 (K:Kn) (V19:prodL [.sl .sexp, .bool, .el .chg, .sl .sexp, .bool, .el .chg, .sl .str]->Prop) (t_5:Bool) (o01_5:List Sx) (o02_5:Bool) (t2_5:Chg) (in1_5:List Sx) (in2_5:Bool) (c_5:Chg) (c2_5:List ByteArray):Prop:=
 bif t_5 then (
       ZS (in1_5,in2_5,())/\
       ZS ((qW xE (in1_5,in2_5)).2.1,(qW xE (in1_5,in2_5)).2.2,())/\
       V19 (o01_5,o02_5,t2_5,(qW xE ((qW xE (in1_5,in2_5)).2)).2.1,(qW xE ((qW xE (in1_5,in2_5)).2)).2.2,(⟨c_5.kind,c_5.file,c_5.typ,c_5.parent,c_5.name,c_5.mode,c_5.data,(qW xE (in1_5,in2_5)).1,(qW xE ((qW xE (in1_5,in2_5)).2)).1,[],c_5.over⟩:Chg),c2_5,()))
      else (
       V19 (o01_5,o02_5,t2_5,in1_5,in2_5,(⟨c_5.kind,c_5.file,c_5.typ,c_5.parent,c_5.name,c_5.mode,c_5.data,c_5.after,c_5.before,[],c_5.over⟩:Chg),c2_5,()))
def kX (K:Kn) (o01_4:List Sx) (o02_4:Bool) (t_4:Chg) (in1_4:List Sx) (in2_4:Bool) (c_4:Chg) (c2_4:List ByteArray):Prop:=
 va (γ:=prodL [.sl .sexp, .bool, .el .chg, .sl .sexp, .bool, .el .chg, .sl .str]) (fun y=>Xy K y.1 y.2.1 y.2.2.1 y.2.2.2.1 y.2.2.2.2.1 y.2.2.2.2.2.1 y.2.2.2.2.2.2.1) (fun V19=>
  bif decide (c_4.kind=1)then (
   Yg (in1_4,in2_4,())/\
   V19 (o01_4,o02_4,t_4,(qW xl (in1_4,in2_4)).2.1,(qW xl (in1_4,in2_4)).2.2,(⟨c_4.kind,c_4.file,(qW xl (in1_4,in2_4)).1,c_4.parent,c_4.name,c_4.mode,c_4.data,c_4.after,c_4.before,[],c_4.over⟩:Chg),c2_4,()))
  else (
   bif decide (c_4.kind=2)then (
    ZS (in1_4,in2_4,())/\
    Vg ((qW xE (in1_4,in2_4)).2.1,(qW xE (in1_4,in2_4)).2.2,())/\
    V19 (o01_4,o02_4,t_4,(qW zR ((qW xE (in1_4,in2_4)).2)).2.1,(qW zR ((qW xE (in1_4,in2_4)).2)).2.2,(⟨c_4.kind,c_4.file,c_4.typ,(qW xE (in1_4,in2_4)).1,(qW zR ((qW xE (in1_4,in2_4)).2)).1,c_4.mode,c_4.data,c_4.after,c_4.before,[],c_4.over⟩:Chg),c2_4,()))
   else (
    bif decide (c_4.kind=3)then (
     Yg (in1_4,in2_4,())/\
     V19 (o01_4,o02_4,t_4,(qW xl (in1_4,in2_4)).2.1,(qW xl (in1_4,in2_4)).2.2,(⟨c_4.kind,c_4.file,c_4.typ,c_4.parent,c_4.name,(qW xl (in1_4,in2_4)).1,c_4.data,c_4.after,c_4.before,[],c_4.over⟩:Chg),c2_4,()))
    else (
     bif decide (c_4.kind=4)then (
      Vg (in1_4,in2_4,())/\
      V19 (o01_4,o02_4,t_4,(qW zR (in1_4,in2_4)).2.1,(qW zR (in1_4,in2_4)).2.2,(⟨c_4.kind,c_4.file,c_4.typ,c_4.parent,c_4.name,c_4.mode,(qW zR (in1_4,in2_4)).1,c_4.after,c_4.before,[],c_4.over⟩:Chg),c2_4,()))
     else (
      va (γ:=prodL [.bool, .sl .sexp, .bool, .el .chg, .sl .sexp, .bool, .el .chg, .sl .str]) (fun y=>F55_J6 K V19 y.1 y.2.1 y.2.2.1 y.2.2.2.1 y.2.2.2.2.1 y.2.2.2.2.2.1 y.2.2.2.2.2.2.1 y.2.2.2.2.2.2.2.1) (fun V7=>
       bif decide (c_4.kind=5)then (
        V7 (true,o01_4,o02_4,t_4,in1_4,in2_4,(⟨c_4.kind,c_4.file,c_4.typ,c_4.parent,c_4.name,c_4.mode,c_4.data,c_4.after,c_4.before,[],c_4.over⟩:Chg),c2_4,()))
       else (
        V7 (decide (c_4.kind=6),o01_4,o02_4,t_4,in1_4,in2_4,(⟨c_4.kind,c_4.file,c_4.typ,c_4.parent,c_4.name,c_4.mode,c_4.data,c_4.after,c_4.before,[],c_4.over⟩:Chg),c2_4,()))))))))
def V0 (K:Kn) (V21:prodL [.sl .sexp, .bool, .el .chg, .sl .sexp, .bool, .el .chg, .sl .str]->Prop) (t_1:Bool) (o01_1:List Sx) (o02_1:Bool) (t2_1:Chg) (in1_1:List Sx) (in2_1:Bool) (c_1:Chg) (c2_1:List ByteArray):Prop:=
 bif t_1 then (
   ZS (in1_1,in2_1,())/\
   V21 (o01_1,o02_1,t2_1,(qW xE (in1_1,in2_1)).2.1,(qW xE (in1_1,in2_1)).2.2,(⟨c_1.kind,(qW xE (in1_1,in2_1)).1,c_1.typ,c_1.parent,c_1.name,c_1.mode,c_1.data,c_1.after,c_1.before,[],c_1.over⟩:Chg),c2_1,()))
  else (
   V21 (o01_1,o02_1,t2_1,in1_1,in2_1,(⟨c_1.kind,c_1.file,c_1.typ,c_1.parent,c_1.name,c_1.mode,c_1.data,c_1.after,c_1.before,[],c_1.over⟩:Chg),c2_1,()))
def F55 (g:prodL L55) (K:Kn):Prop:=
 Vw (g.1,g.2.1,())/\
 Yg ((qW qO (g.1,g.2.1)).1,false,())/\
 va (γ:=prodL [.sl .sexp, .bool, .el .chg, .sl .sexp, .bool, .el .chg, .sl .str]) (fun y=>kX K y.1 y.2.1 y.2.2.1 y.2.2.2.1 y.2.2.2.2.1 y.2.2.2.2.2.1 y.2.2.2.2.2.2.1) (fun V21=>
  va (γ:=prodL [.bool, .sl .sexp, .bool, .el .chg, .sl .sexp, .bool, .el .chg, .sl .str]) (fun y=>V0 K V21 y.1 y.2.1 y.2.2.1 y.2.2.2.1 y.2.2.2.2.1 y.2.2.2.2.2.1 y.2.2.2.2.2.2.1 y.2.2.2.2.2.2.2.1) (fun V3=>
   bif decide (2<=(qW xl ((qW qO (g.1,g.2.1)).1,false)).1)then (
    V3 (decide ((qW xl ((qW qO (g.1,g.2.1)).1,false)).1<=6),(qW qO (g.1,g.2.1)).2.1,(qW qO (g.1,g.2.1)).2.2,cz,(qW xl ((qW qO (g.1,g.2.1)).1,false)).2.1,(qW xl ((qW qO (g.1,g.2.1)).1,false)).2.2,(⟨(qW xl ((qW qO (g.1,g.2.1)).1,false)).1,iz,0,iz,(⟨#[]⟩:ByteArray),0,(⟨#[]⟩:ByteArray),iz,iz,[],[]⟩:Chg),[],()))
   else (
    V3 (false,(qW qO (g.1,g.2.1)).2.1,(qW qO (g.1,g.2.1)).2.2,cz,(qW xl ((qW qO (g.1,g.2.1)).1,false)).2.1,(qW xl ((qW qO (g.1,g.2.1)).1,false)).2.2,(⟨(qW xl ((qW qO (g.1,g.2.1)).1,false)).1,iz,0,iz,(⟨#[]⟩:ByteArray),0,(⟨#[]⟩:ByteArray),iz,iz,[],[]⟩:Chg),[],()))))
theorem F55_eq (g:prodL L55) (K X:Kn):F55 g K=qV D (qZ [(51,kr),(52,ko),(53,wZ),(101,y9),(102,WS)] []) (qv [(51,kr),(52,ko),(53,wZ),(101,y9),(102,WS)]) H55 J55 83 [.cell 2 50] (qq Tryz.f55) (argsT S55 L55 g) (qQ S55 O55 L55 g) (settleG (qQ S55 O55 L55 g).length 0 K) X 0:=by kernel_rfl
theorem F55_ok (g:prodL L55) (K X:Kn) (h:F55 g K):FCalls Tryz.prog 55 (argsT S55 L55 g) (qQ S55 O55 L55 g) K X 0:=
 FCalls.settleG (qz (Γ:=qZ [(51,kr),(52,ko),(53,wZ),(101,y9),(102,WS)] []) (mu:=qv [(51,kr),(52,ko),(53,wZ),(101,y9),(102,WS)]) (H:=H55) (J:=J55) qf (qX (rs:=[(51,kr),(52,ko),(53,wZ),(101,y9),(102,WS)]) (l:=[]) (by intro p hp;simp only [List.mem_cons,List.not_mem_nil,or_false] at hp;rcases hp with rfl | rfl | rfl | rfl | rfl<;>first | exact K6 | exact KP | exact JL | exact rw101_ok | exact rw102_ok) (fun p hp=>by cases hp)) qj rfl Tryz.func55 (c:=qq Tryz.f55) rfl Tryz.ntmps55 (rs:=[.cell 2 50]) Tryz.results55 (by unfold qy;rw [Tryz.func55];kernel_rfl) (Nat.le_of_ble_eq_true (by kernel_rfl)) (X:=X) (c0:=0) (Eq.mp (F55_eq g K X) h))
end Go.Proofs.YtbglndogddddoaaGreatDoor
namespace Go.Proofs.YtbglndogddddoaaGreatDoor
open Go.RowKit
set_option maxRecDepth 100000
abbrev KCh (K:Kn) (l:List Sx) (b:Bool):Chg×Bool->Prop:=fun r=>K (.ag (enc .chg r.1)) [some (.cells [.sl false .sexp l, .bool (b||r.2)])]
theorem Qy {K:Kn} {l q:List Sx} {b p:Bool} {t c:Chg} {ls:List ByteArray} (h:KCh K l b (⟨c.kind,c.file,c.typ,c.parent,c.name,c.mode,c.data,c.after,c.before,ls,c.over⟩,p)):Zr K l b t q p c ls:=by
 unfold Zr va
 exact orBt (J:=fun b=>F55_J14 K l b t ⟨c.kind,c.file,c.typ,c.parent,c.name,c.mode,c.data,c.after,c.before,[],c.over⟩ ls) h
theorem xk {K:Kn} {l:List Sx} {b:Bool} {t:Chg} {kind typ mode:Int} {file parent after before:Idn} {name data:ByteArray} {over:List Idn} {r:RdS} (hb:qg r.1<=jG) (h:KCh K l b (cP3 ⟨kind,file,typ,parent,name,mode,data,after,before,[],over⟩ r)):
  Xy K l b t r.1 r.2 ⟨kind,file,typ,parent,name,mode,data,after,before,[],over⟩ []:=by
 unfold Xy va
 unfold cP3 at h
 dsimp only at h ⊢
 cases e1:decide (kind=5)
 . rw [e1,cond_false] at h
   rw [cond_false]
   cases e2:decide (2<=kind)
   . rw [e2,cond_false] at h
     rw [cond_false]
     exact Qy h
   . rw [e2,cond_true] at h
     rw [cond_true]
     exact ⟨hb,Qy h⟩
 . rw [e1,cond_true] at h
   rw [cond_true]
   refine ⟨trivial, ?_⟩
   rw [jD (f:=lPx) fun _=>rfl] at h
   rw [show (r.1,r.2)=r from rfl,jD (f:=qO) fun _=>rfl]
   have hs:qg (jn r.1).list<=jG:=JZ hb
   have hlim:jG=1073741824:=rfl
   have hlen:=vK (jn r.1).list
   unfold F55_L10
   refine qJ.map (jn r.1).list (fun x=>x.atom) (fun n out=>((jn r.1).list,(((jn r.1).list.length:Nat):Int),n,l,b,t,(ZG r).1,(ZG r).2,⟨kind,file,typ,parent,name,mode,data,after,before,[],over⟩,out,())) (by omega) rfl (fun W n hn out ho hW=> ?_) fun W=> ?_
   . show QN K (fun y=>Zr K y.1 y.2.1 y.2.2.1 y.2.2.2.1 y.2.2.2.2.1 y.2.2.2.2.2.1 y.2.2.2.2.2.2.1) W (jn r.1).list (jn r.1).list.length n l b t _ _ _ out
     unfold QN
     rw [qS hn,cond_true]
     exact zy hn ⟨by simp only [List.length_singleton,ho];omega,hW⟩
   . show QN K (fun y=>Zr K y.1 y.2.1 y.2.2.1 y.2.2.2.1 y.2.2.2.2.1 y.2.2.2.2.2.1 y.2.2.2.2.2.2.1) W (jn r.1).list (jn r.1).list.length (jn r.1).list.length l b t _ _ _ _
     unfold QN
     rw [qH,cond_false]
     exact Qy h
theorem WA {K:Kn} {l:List Sx} {b d:Bool} {t:Chg} {kind typ mode:Int} {file parent after before:Idn} {name data:ByteArray} {over:List Idn} {r:RdS} (hb:qg r.1<=jG)
  (h:KCh K l b (bif d then cP3 ⟨kind,file,typ,parent,name,mode,data,(qW xE r).1,(qW xE (qW xE r).2).1,[],over⟩ (qW xE (qW xE r).2).2 else cP3 ⟨kind,file,typ,parent,name,mode,data,after,before,[],over⟩ r)):
  F55_J6 K (fun y=>Xy K y.1 y.2.1 y.2.2.1 y.2.2.2.1 y.2.2.2.2.1 y.2.2.2.2.2.1 y.2.2.2.2.2.2.1) d l b t r.1 r.2 ⟨kind,file,typ,parent,name,mode,data,after,before,[],over⟩ []:=by
 unfold F55_J6
 cases d
 . exact xk hb h
 . exact ⟨hb,xG hb,xk (xG (xG hb)) h⟩
theorem XT {K:Kn} {l:List Sx} {b:Bool} {t:Chg} {kind typ mode:Int} {file parent after before:Idn} {name data:ByteArray} {over:List Idn} {r:RdS} (hb:qg r.1<=jG) (h:KCh K l b (cP2 ⟨kind,file,typ,parent,name,mode,data,after,before,[],over⟩ r)):
  kX K l b t r.1 r.2 ⟨kind,file,typ,parent,name,mode,data,after,before,[],over⟩ []:=by
 unfold kX va
 unfold cP2 at h
 dsimp only at h ⊢
 cases e1:decide (kind=1)
 rotate_left
 . rw [e1,cond_true] at h;exact ⟨hb,xk (xG hb) h⟩
 rw [e1,cond_false] at h
 rw [cond_false]
 cases e2:decide (kind=2)
 rotate_left
 . rw [e2,cond_true] at h;exact ⟨hb,trivial,xk (xG (xG hb)) h⟩
 rw [e2,cond_false] at h
 rw [cond_false]
 cases e3:decide (kind=3)
 rotate_left
 . rw [e3,cond_true] at h;exact ⟨hb,xk (xG hb) h⟩
 rw [e3,cond_false] at h
 rw [cond_false]
 cases e4:decide (kind=4)
 rotate_left
 . rw [e4,cond_true] at h;exact ⟨trivial,xk (xG hb) h⟩
 rw [e4,cond_false] at h
 rw [cond_false]
 cases e5:decide (kind=5)
 . rw [e5] at h;exact WA hb h
 . rw [e5] at h;exact WA hb h
def pre55 (g:prodL L55):Prop:=qg g.1<=jG
def rw55:Raw:=⟨S55,O55,L55,0,fun g K _=>pre55 g/\K (.ag (enc .chg (qW ZA (g.1,g.2.1)).1)) [some (.cells [.sl false .sexp (qW ZA (g.1,g.2.1)).2.1, .bool (qW ZA (g.1,g.2.1)).2.2])]⟩
theorem F55_J2_is {K:Kn} {l:List Sx} {b d:Bool} {t:Chg} {k:Int} {r:RdS} (hb:qg r.1<=jG) (h:KCh K l b (bif d then cP2 ⟨k,(qW xE r).1,0,iz,⟨#[]⟩,0,⟨#[]⟩,iz,iz,[],[]⟩ (qW xE r).2 else cP2 (Ze k) r)):
  V0 K (fun y=>kX K y.1 y.2.1 y.2.2.1 y.2.2.2.1 y.2.2.2.2.1 y.2.2.2.2.2.1 y.2.2.2.2.2.2.1) d l b t r.1 r.2 (Ze k) []:=by
 unfold V0
 cases d
 . exact XT hb h
 . exact ⟨hb,XT (xG hb) h⟩
theorem rw55_ok:rw55.Ok Tryz.prog 55:=fun g K X h=>F55_ok g K X (by
 obtain ⟨hb,h⟩:=h
 have hs:qg (jn g.1).list<=jG:=JZ hb
 refine ⟨trivial,hs, ?_⟩
 unfold va
 rw [jD (f:=qO) fun _=>rfl]
 have h:KCh K (ZG (g.1,g.2.1)).1 (ZG (g.1,g.2.1)).2 (cP1 (Ze (qW xl ((jn g.1).list,false)).1) (qW xl ((jn g.1).list,false)).2):=h
 unfold cP1 at h
 have hJ: ∀d,KCh K (ZG (g.1,g.2.1)).1 (ZG (g.1,g.2.1)).2 (bif d then cP2 ⟨(qW xl ((jn g.1).list,false)).1,(qW xE (qW xl ((jn g.1).list,false)).2).1,0,iz,⟨#[]⟩,0,⟨#[]⟩,iz,iz,[],[]⟩ (qW xE (qW xl ((jn g.1).list,false)).2).2 else cP2 (Ze (qW xl ((jn g.1).list,false)).1) (qW xl ((jn g.1).list,false)).2)->
   V0 K (fun y=>kX K y.1 y.2.1 y.2.2.1 y.2.2.2.1 y.2.2.2.2.1 y.2.2.2.2.2.1 y.2.2.2.2.2.2.1) d (ZG (g.1,g.2.1)).1 (ZG (g.1,g.2.1)).2 cz (qW xl ((jn g.1).list,false)).2.1 (qW xl ((jn g.1).list,false)).2.2 (Ze (qW xl ((jn g.1).list,false)).1) []:=fun d h=>F55_J2_is (xG hs) h
 exact Qo (J:=fun d=>V0 K (fun y=>kX K y.1 y.2.1 y.2.2.1 y.2.2.2.1 y.2.2.2.2.1 y.2.2.2.2.2.1 y.2.2.2.2.2.2.1) d _ _ cz _ _ (Ze _) []) (f:=fun d=>bif d then cP2 ⟨(qW xl ((jn g.1).list,false)).1,(qW xE (qW xl ((jn g.1).list,false)).2).1,0,iz,⟨#[]⟩,0,⟨#[]⟩,iz,iz,[],[]⟩ (qW xE (qW xl ((jn g.1).list,false)).2).2 else cP2 (Ze (qW xl ((jn g.1).list,false)).1) (qW xl ((jn g.1).list,false)).2) (K:=KCh K (ZG (g.1,g.2.1)).1 (ZG (g.1,g.2.1)).2) hJ h)
end Go.Proofs.YtbglndogddddoaaGreatDoor
namespace Go.Proofs.YtbglndogddddoaaGreatDoor
open Go.RowKit
attribute [local irreducible] qV qK
set_option maxRecDepth 100000
def H30:List (Nat×Hint):=[(8,⟨[((2,[]),none),((6,[]),none),((7,[]),none),((8,[]),none),((7,[3]),some .dig)],[(0, .leaf),(2, .pt 0 0),(6, .pt 1 0),(7, .pt 2 0),(8, .pt 3 0)],[.cells [.leaf, .leaf, .leaf, .nil, .nil], .cells [.leaf, .leaf], .cells [.leaf, .leaf, .leaf, .oa .dig 4, .nil], .cells [.leaf, .leaf], .arr .dig],[.str, .str, .str, .int .i64, .sl .sexp, .bool, .str, .str, .int .i64, .sl .sexp, .bool, .sl .dig]⟩),(11,⟨[((2,[]),none),((6,[]),none),((7,[]),none),((8,[]),none),((9,[]),none),((7,[3]),none),((7,[4]),some .chg)],[(0, .leaf),(2, .pt 0 0),(6, .pt 1 0),(7, .pt 2 0),(8, .pt 3 0),(9, .pt 4 0)],[.cells [.leaf, .leaf, .leaf, .nil, .nil], .cells [.leaf, .leaf], .cells [.leaf, .leaf, .leaf, .oa .dig 5, .oa .chg 6], .cells [.leaf, .leaf], .cells [.leaf, .leaf], .arr .dig, .arr .chg],[.str, .str, .str, .int .i64, .sl .sexp, .bool, .str, .str, .int .i64, .sl .sexp, .bool, .sl .sexp, .bool, .sl .dig, .sl .chg]⟩)]
def J30:List (Nat×Hint):=[(3,⟨[((2,[]),none),((4,[]),none)],[(0, .leaf),(2, .pt 0 0),(4, .pt 1 0),(23, .leaf)],[.cells [.leaf, .leaf, .leaf, .nil, .nil], .cells [.leaf, .leaf, .leaf]],[.str, .bool, .str, .str, .int .i64, .bool, .str, .sl .sexp]⟩),(13,⟨[((2,[]),none),((6,[]),none),((7,[]),none),((8,[]),none),((9,[]),none),((7,[3]),none),((7,[4]),none)],[(0, .leaf),(2, .pt 0 0),(6, .pt 1 0),(7, .pt 2 0),(8, .pt 3 0),(9, .pt 4 0)],[.cells [.leaf, .leaf, .leaf, .nil, .nil], .cells [.leaf, .leaf], .cells [.leaf, .leaf, .leaf, .oa .dig 5, .oa .chg 6], .cells [.leaf, .leaf], .cells [.leaf, .leaf], .arr .dig, .arr .chg],[.str, .str, .str, .int .i64, .sl .sexp, .bool, .str, .str, .int .i64, .sl .sexp, .bool, .sl .sexp, .bool, .sl .dig, .sl .chg]⟩),(14,⟨[((2,[]),none),((7,[]),none),((7,[3]),none),((7,[4]),none)],[(0, .leaf),(2, .pt 0 0),(7, .pt 1 0),(71, .leaf)],[.cells [.leaf, .leaf, .leaf, .nil, .nil], .cells [.leaf, .leaf, .leaf, .oa .dig 2, .oa .chg 3], .arr .dig, .arr .chg],[.str, .bool, .str, .str, .int .i64, .str, .str, .int .i64, .sl .dig, .sl .chg]⟩),(17,⟨[((2,[]),none),((7,[]),none),((7,[3]),none),((7,[4]),none)],[(2, .pt 0 0),(7, .pt 1 0),(84, .leaf)],[.cells [.leaf, .leaf, .leaf, .nil, .nil], .cells [.leaf, .leaf, .leaf, .oa .dig 2, .oa .chg 3], .arr .dig, .arr .chg],[.bool, .str, .str, .int .i64, .str, .str, .int .i64, .sl .dig, .sl .chg]⟩)]
abbrev S30:List Sh:=[.leaf]
abbrev L30:List Lf:=[.str]
def Y2 (K:Kn) (t_14:Bool) (t1_14 t2_14:ByteArray) (t3_14:Int) (p1_14 p2_14:ByteArray) (p3_14:Int) (p_14:List Dig) (p4_14:List Chg):Prop:=
 bif t_14 then (
  K (.tu [.ag [.str (⟨#[]⟩:ByteArray), .str (⟨#[]⟩:ByteArray), .int .i64 0, .nil, .nil], .int .i64 12]) [])
 else (
  K (.tu [.ag [.str p1_14, .str p2_14, .int .i64 p3_14, .sl false .dig p_14, .sl false .chg p4_14], .int .i64 0]) [])
def ke (K:Kn) (s_12:ByteArray) (t_12:Bool) (t1_12 t2_12:ByteArray) (t3_12:Int) (p1_12 p2_12:ByteArray) (p3_12:Int) (p_12:List Dig) (p4_12:List Chg):Prop:=
 bif t_12 then (
  K (.tu [.ag [.str (⟨#[]⟩:ByteArray), .str (⟨#[]⟩:ByteArray), .int .i64 0, .nil, .nil], .int .i64 12]) [])
 else (
  XP.pre (p1_12,p2_12,p3_12,p_12,p4_12,())/\
 bif !decide ((jK p1_12 p2_12 p3_12 p_12 p4_12).2.2=0)then (
  Y2 K true t1_12 t2_12 t3_12 p1_12 p2_12 p3_12 p_12 p4_12)
 else (
  Y2 K (!decide ((jK p1_12 p2_12 p3_12 p_12 p4_12).2.1=s_12)) t1_12 t2_12 t3_12 p1_12 p2_12 p3_12 p_12 p4_12))
def Xq (K:Kn) (s_11 t1_11 t2_11:ByteArray) (t3_11:Int) (r1_11:List Sx) (r2_11:Bool) (p1_11 p2_11:ByteArray) (p3_11:Int) (deps1_11:List Sx) (deps2_11:Bool) (changes1_11:List Sx) (changes2_11:Bool) (p_11:List Dig) (p4_11:List Chg):Prop:=
 bif r2_11 then (
  ke K s_11 true t1_11 t2_11 t3_11 p1_11 p2_11 p3_11 p_11 p4_11)
 else (
  bif deps2_11 then (
   ke K s_11 true t1_11 t2_11 t3_11 p1_11 p2_11 p3_11 p_11 p4_11)
  else (
   ke K s_11 changes2_11 t1_11 t2_11 t3_11 p1_11 p2_11 p3_11 p_11 p4_11))
def w8 (K:Kn) (W10:prodL [.str, .str, .str, .int .i64, .sl .sexp, .bool, .str, .str, .int .i64, .sl .sexp, .bool, .sl .sexp, .bool, .sl .dig, .sl .chg]->Prop) (s_9 t1_9 t2_9:ByteArray) (t3_9:Int) (r1_9:List Sx) (r2_9:Bool) (p1_9 p2_9:ByteArray) (p3_9:Int) (deps1_9:List Sx) (deps2_9:Bool) (changes1_9:List Sx) (changes2_9:Bool) (p_9:List Dig) (p4_9:List Chg):Prop:=
 bif decide (0< (changes1_9.length:Int))then (
  bif !changes2_9 then (
  pre55 (changes1_9,changes2_9,())/\
 qF (p4_9.length+[((qW ZA (changes1_9,changes2_9)).1)].length) 264 (
 W10 (s_9,t1_9,t2_9,t3_9,r1_9,r2_9,p1_9,p2_9,p3_9,deps1_9,deps2_9,(qW ZA (changes1_9,changes2_9)).2.1,(qW ZA (changes1_9,changes2_9)).2.2,p_9,p4_9++[((qW ZA (changes1_9,changes2_9)).1)],())))
 else (
  Xq K s_9 t1_9 t2_9 t3_9 r1_9 r2_9 p1_9 p2_9 p3_9 deps1_9 deps2_9 changes1_9 changes2_9 p_9 p4_9))
 else (
  Xq K s_9 t1_9 t2_9 t3_9 r1_9 r2_9 p1_9 p2_9 p3_9 deps1_9 deps2_9 changes1_9 changes2_9 p_9 p4_9)
def Ky (K:Kn) (g:prodL [.str, .str, .str, .int .i64, .sl .sexp, .bool, .str, .str, .int .i64, .sl .sexp, .bool, .sl .sexp, .bool, .sl .dig, .sl .chg]):Prop:=
 qJ (γ:=prodL [.str, .str, .str, .int .i64, .sl .sexp, .bool, .str, .str, .int .i64, .sl .sexp, .bool, .sl .sexp, .bool, .sl .dig, .sl .chg]) (fun V y=>w8 K V y.1 y.2.1 y.2.2.1 y.2.2.2.1 y.2.2.2.2.1 y.2.2.2.2.2.1 y.2.2.2.2.2.2.1 y.2.2.2.2.2.2.2.1 y.2.2.2.2.2.2.2.2.1 y.2.2.2.2.2.2.2.2.2.1 y.2.2.2.2.2.2.2.2.2.2.1 y.2.2.2.2.2.2.2.2.2.2.2.1 y.2.2.2.2.2.2.2.2.2.2.2.2.1 y.2.2.2.2.2.2.2.2.2.2.2.2.2.1 y.2.2.2.2.2.2.2.2.2.2.2.2.2.2.1) g
def X6 (K:Kn) (W6:prodL [.str, .str, .str, .int .i64, .sl .sexp, .bool, .str, .str, .int .i64, .sl .sexp, .bool, .sl .dig]->Prop) (s_5 t1_5 t2_5:ByteArray) (t3_5:Int) (r1_5:List Sx) (r2_5:Bool) (p1_5 p2_5:ByteArray) (p3_5:Int) (deps1_5:List Sx) (deps2_5:Bool) (p_5:List Dig):Prop:=
 bif decide (0< (deps1_5.length:Int))then (
  pre54 (deps1_5,deps2_5,())/\
 qF (p_5.length+[((qW JE (deps1_5,deps2_5)).1)].length) 32 (
 W6 (s_5,t1_5,t2_5,t3_5,r1_5,r2_5,p1_5,p2_5,p3_5,(qW JE (deps1_5,deps2_5)).2.1,(qW JE (deps1_5,deps2_5)).2.2,p_5++[((qW JE (deps1_5,deps2_5)).1)],())))
 else (
  Vw (r1_5,r2_5,())/\
 Ky K (s_5,t1_5,t2_5,t3_5,(qW qO (r1_5,r2_5)).2.1,(qW qO (r1_5,r2_5)).2.2,p1_5,p2_5,p3_5,deps1_5,deps2_5,(qW qO (r1_5,r2_5)).1,false,p_5,[],()))
def F30_L6 (K:Kn) (g:prodL [.str, .str, .str, .int .i64, .sl .sexp, .bool, .str, .str, .int .i64, .sl .sexp, .bool, .sl .dig]):Prop:=
 qJ (γ:=prodL [.str, .str, .str, .int .i64, .sl .sexp, .bool, .str, .str, .int .i64, .sl .sexp, .bool, .sl .dig]) (fun V y=>X6 K V y.1 y.2.1 y.2.2.1 y.2.2.2.1 y.2.2.2.2.1 y.2.2.2.2.2.1 y.2.2.2.2.2.2.1 y.2.2.2.2.2.2.2.1 y.2.2.2.2.2.2.2.2.1 y.2.2.2.2.2.2.2.2.2.1 y.2.2.2.2.2.2.2.2.2.2.1 y.2.2.2.2.2.2.2.2.2.2.2.1) g
def Vl (K:Kn) (s_1:ByteArray) (t_1:Bool) (t1_1 t2_1:ByteArray) (t3_1:Int) (x1_1:Bool) (x2_1:ByteArray) (x3_1:List Sx):Prop:=
 bif t_1 then (
  K (.tu [.ag [.str (⟨#[]⟩:ByteArray), .str (⟨#[]⟩:ByteArray), .int .i64 0, .nil, .nil], .int .i64 12]) [])
 else (
  Vg (x3_1,false,())/\
 Vg ((qW zR (x3_1,false)).2.1,(qW zR (x3_1,false)).2.2,())/\
 Vg ((qW zR ((qW zR (x3_1,false)).2)).2.1,(qW zR ((qW zR (x3_1,false)).2)).2.2,())/\
 Yg ((qW zR ((qW zR ((qW zR (x3_1,false)).2)).2)).2.1,(qW zR ((qW zR ((qW zR (x3_1,false)).2)).2)).2.2,())/\
 Vw ((qW xl ((qW zR ((qW zR ((qW zR (x3_1,false)).2)).2)).2)).2.1,(qW xl ((qW zR ((qW zR ((qW zR (x3_1,false)).2)).2)).2)).2.2,())/\
 F30_L6 K (s_1,t1_1,t2_1,t3_1,(qW qO ((qW xl ((qW zR ((qW zR ((qW zR (x3_1,false)).2)).2)).2)).2)).2.1,(qW qO ((qW xl ((qW zR ((qW zR ((qW zR (x3_1,false)).2)).2)).2)).2)).2.2,(qW zR ((qW zR (x3_1,false)).2)).1,(qW zR ((qW zR ((qW zR (x3_1,false)).2)).2)).1,(qW xl ((qW zR ((qW zR ((qW zR (x3_1,false)).2)).2)).2)).1,(qW qO ((qW xl ((qW zR ((qW zR ((qW zR (x3_1,false)).2)).2)).2)).2)).1,false,[],()))
def F30 (g:prodL L30) (K:Kn):Prop:=
 sp50.pre (g.1,())/\
 bif !decide ((jk g.1).2=0)then (
  Vl K g.1 true (⟨#[]⟩:ByteArray) (⟨#[]⟩:ByteArray) 0 (((jk g.1).1).isList) (((jk g.1).1).atom) (((jk g.1).1).list))
 else (
  Vl K g.1 (decide (65536< (g.1.size:Int))) (⟨#[]⟩:ByteArray) (⟨#[]⟩:ByteArray) 0 (((jk g.1).1).isList) (((jk g.1).1).atom) (((jk g.1).1).list))
theorem F30_eq (g:prodL L30) (K X:Kn):F30 g K=qV D (qZ [(51,kr),(52,ko),(53,wZ),(54,V5),(55,rw55)] [(13,true,XP),(50,false,sp50)]) (qv [(51,kr),(52,ko),(53,wZ),(54,V5),(55,rw55)]) H30 J30 87 [.cell 2 25, .tmp 3] (qq Tryz.f30) (argsT S30 L30 g) [] (settle0 K) X:=by kernel_rfl
theorem F30_ok (g:prodL L30) (K X:Kn) (h:F30 g K):FCalls Tryz.prog 30 (argsT S30 L30 g) [] K X:=
 FCalls.settle0 (qz (Γ:=qZ [(51,kr),(52,ko),(53,wZ),(54,V5),(55,rw55)] [(13,true,XP),(50,false,sp50)]) (mu:=qv [(51,kr),(52,ko),(53,wZ),(54,V5),(55,rw55)]) (H:=H30) (J:=J30) qf (qX (rs:=[(51,kr),(52,ko),(53,wZ),(54,V5),(55,rw55)]) (l:=[(13,true,XP),(50,false,sp50)]) (by intro p hp;simp only [List.mem_cons,List.not_mem_nil,or_false] at hp;rcases hp with rfl | rfl | rfl | rfl | rfl<;>first | exact K6 | exact KP | exact JL | exact rw54_ok | exact rw55_ok) (by intro p hp;simp only [List.mem_cons,List.not_mem_nil,or_false] at hp;rcases hp with rfl | rfl<;>first | exact XZ | exact sp50_ok)) qj rfl Tryz.func30 (c:=qq Tryz.f30) rfl Tryz.ntmps30 Tryz.results30 (by unfold qy;rw [Tryz.func30];kernel_rfl) (Nat.le_of_ble_eq_true (by kernel_rfl)) (c0:=0) (Eq.mp (F30_eq g K X) h))
end Go.Proofs.YtbglndogddddoaaGreatDoor
namespace Go.Proofs.YtbglndogddddoaaGreatDoor
open Go.RowKit
set_option maxRecDepth 100000
abbrev KDr (K:Kn) (d:Dr):Prop:=K (.tu [.ag [.str d.a, .str d.m, .int .i64 d.t, .sl false .dig d.ds, .sl false .chg d.cs], .int .i64 d.e]) []
theorem Y5 {K:Kn} (h:KDr K drZ):xY K (.tu [.ag [.str (⟨#[]⟩:ByteArray), .str (⟨#[]⟩:ByteArray), .int .i64 0, .nil, .nil], .int .i64 12]) []:=
 ⟨_,zk.tu (qo.cons (zk.ag (qo.cons (zk.refl _) (qo.cons (zk.refl _) (qo.cons (zk.refl _) (qo.cons (zk.nil .dig) (qo.cons (zk.nil .chg) qo.nil)))))) (qo.cons (zk.refl _) qo.nil)),h⟩
theorem lim_dc {s:ByteArray} (h:s.size<=1048576):qg (jk s).1.list<=jG:=by
 have:=dcT_bk s
 rw [jl] at this
 have e:jG=1073741824:=rfl
 omega
theorem F30_J13_is {K:Kn} {s t1 t2 a m:ByteArray} {t3 t:Int} {b:Bool} {ds:List Dig} {cs:List Chg} (hp:b=false->xP a m t ds cs) (h:KDr K (yO s ⟨a,m,t,ds,cs,b⟩ (jK a m t ds cs).2)):ke (xY K) s b t1 t2 t3 a m t ds cs:=by
 unfold ke
 unfold yO at h
 cases b
 rotate_left
 . exact Y5 h
 dsimp only at h
 rw [cond_false] at h
 refine ⟨hp rfl, ?_⟩
 cases e:decide ((jK a m t ds cs).2.2=0)
 . rw [e,Bool.not_false,cond_true] at h
   exact Y5 h
 . rw [e,Bool.not_true,cond_false] at h
   rw [Bool.not_true,cond_false]
   unfold Y2
   cases e2:decide ((jK a m t ds cs).2.1=s)
   . rw [e2] at h;exact Y5 h
   . rw [e2] at h;exact xY.same h
theorem Qi {K:Kn} {s t1 t2 a m:ByteArray} {t3 t:Int} {r1 d1 c1:List Sx} {r2 d2 c2:Bool} {ds:List Dig} {cs:List Chg} (hp:(r2||(d2||c2))=false->xP a m t ds cs) (h:KDr K (yO s ⟨a,m,t,ds,cs,r2||(d2||c2)⟩ (jK a m t ds cs).2)):
  Xq (xY K) s t1 t2 t3 r1 r2 a m t d1 d2 c1 c2 ds cs:=by
 unfold Xq
 exact or4t (J:=fun b=>ke (xY K) s b t1 t2 t3 a m t ds cs) (F30_J13_is hp h)
theorem F30_L10_is {K:Kn} {s t1 t2 a m:ByteArray} {t3 t:Int} {r1 d1 q:List Sx} {r2 d2:Bool} {ds:List Dig} (hb:qg q<=jG) (hp:((r2||(d2||(zf ZA q).2))=false->xP a m t ds (zf ZA q).1))
  (h:KDr K (yO s ⟨a,m,t,ds,(zf ZA q).1,r2||(d2||(zf ZA q).2)⟩ (jK a m t ds (zf ZA q).1).2)):
  Ky (xY K) (s,t1,t2,t3,r1,r2,a,m,t,d1,d2,q,false,ds,[],()):=by
 have hlim:jG=1073741824:=rfl
 unfold Ky
 refine qJ.readsB ZA (fun q b out=>(s,t1,t2,t3,r1,r2,a,m,t,d1,d2,q,b,ds,out,())) (fun q out=>qg q<=jG/\out.length+q.length<=1073741824)
  (fun r=>((r2||(d2||r.2))=false->xP a m t ds r.1)/\KDr K (yO s ⟨a,m,t,ds,r.1,r2||(d2||r.2)⟩ (jK a m t ds r.1).2)) q rfl
  ⟨hb,by have:=vK q;simp only [List.length_nil];omega⟩ (fun x q out hi=> ?_) (fun W x q out hi hW=> ?_) (fun W q out hq=> ?_) (fun W out hq=> ?_) ⟨hp,h⟩
 . obtain ⟨h1,h2⟩:=hi
   simp only [qg,List.length_cons] at h1 h2
   exact ⟨by omega,by simp only [List.length_append,List.length_singleton];omega⟩
 . obtain ⟨h1,h2⟩:=hi
   show w8 (xY K) W s t1 t2 t3 r1 r2 a m t d1 d2 (x::q) false ds out
   unfold w8
   rw [decide_eq_true (show (0:Int) < (((x::q).length:Nat):Int)by rw [List.length_cons];omega),cond_true,Bool.not_false,cond_true]
   rw [List.length_cons] at h2
   exact ⟨h1,by simp only [List.length_singleton];omega,hW⟩
 . show w8 (xY K) W s t1 t2 t3 r1 r2 a m t d1 d2 q true ds out
   unfold w8
   cases decide ((0:Int) < ((q.length:Nat):Int))
   . exact Qi (r1:=r1) (d1:=d1) (c1:=q) hq.1 hq.2
   . exact Qi (r1:=r1) (d1:=d1) (c1:=q) hq.1 hq.2
 . show w8 (xY K) W s t1 t2 t3 r1 r2 a m t d1 d2 [] false ds out
   unfold w8
   show bif decide ((0:Int) <0)then _ else _
   rw [decide_eq_false (by omega),cond_false]
   exact Qi hq.1 hq.2
theorem F30_L6_is {K:Kn} {s t1 t2 a m:ByteArray} {t3 t:Int} {r:RdS} {q:List Sx} (hb:qg q<=jG) (hr:qg r.1<=jG) (hp:(((qW qO r).2.2||((q.any fun x=>(JE x).2)||(zf ZA (qW qO r).1).2))=false->xP a m t (q.map fun x=>(JE x).1) (zf ZA (qW qO r).1).1)) (h:KDr K (yO s ⟨a,m,t,(q.map fun x=>(JE x).1),(zf ZA (qW qO r).1).1,((qW qO r).2.2||((q.any fun x=>(JE x).2)||(zf ZA (qW qO r).1).2))⟩ (jK a m t (q.map fun x=>(JE x).1) (zf ZA (qW qO r).1).1).2)):
  F30_L6 (xY K) (s,t1,t2,t3,r.1,r.2,a,m,t,q,false,[],()):=by
 have hlim:jG=1073741824:=rfl
 unfold F30_L6
 refine qJ.reads JE (fun q b out=>(s,t1,t2,t3,r.1,r.2,a,m,t,q,b,out,())) (fun q out=>qg q<=jG/\out.length+q.length<=1073741824) (fun y=>(((qW qO r).2.2||(y.2||(zf ZA (qW qO r).1).2))=false->xP a m t y.1 (zf ZA (qW qO r).1).1)/\KDr K (yO s ⟨a,m,t,y.1,(zf ZA (qW qO r).1).1,((qW qO r).2.2||(y.2||(zf ZA (qW qO r).1).2))⟩ (jK a m t y.1 (zf ZA (qW qO r).1).1).2)) q rfl
  ⟨hb,by have:=vK q;simp only [List.length_nil];omega⟩ (fun x q out hi=> ?_) (fun W x q b out hi hW=> ?_) (fun W b out hq=> ?_) ⟨hp,h⟩
 . obtain ⟨h1,h2⟩:=hi
   simp only [qg,List.length_cons] at h1 h2
   exact ⟨by omega,by simp only [List.length_append,List.length_singleton];omega⟩
 . obtain ⟨h1,h2⟩:=hi
   show X6 (xY K) W s t1 t2 t3 r.1 r.2 a m t (x::q) b out
   unfold X6
   rw [decide_eq_true (show (0:Int) < (((x::q).length:Nat):Int)by rw [List.length_cons];omega),cond_true]
   rw [List.length_cons] at h2
   exact ⟨trivial,by simp only [List.length_singleton];omega,hW⟩
 . show X6 (xY K) W s t1 t2 t3 r.1 r.2 a m t [] b out
   unfold X6
   show bif decide ((0:Int) <0)then _ else _
   rw [decide_eq_false (by omega),cond_false]
   exact ⟨trivial,F30_L10_is (JZ hr) hq.1 hq.2⟩
def badD (s:ByteArray):Bool:=bif !decide ((jk s).2=0)then true else decide (65536< ((s.size:Nat):Int))
def zK (s:ByteArray):Dr:=bif badD s then drZ else yO s (wz (jk s).1.list) (jK (wz (jk s).1.list).a (wz (jk s).1.list).m (wz (jk s).1.list).t (wz (jk s).1.list).ds (wz (jk s).1.list).cs).2
def xR (p:Rp):Prop:=xP p.a p.m p.t p.ds p.cs
def preP (s:ByteArray):Prop:=s.size<=1048576/\(badD s=false->(wz (jk s).1.list).bad=false->xR (wz (jk s).1.list))
theorem F30_J2_is {K:Kn} {s:ByteArray} (hs:s.size<=1048576) {b:Bool} (hp:b=false->(wz (jk s).1.list).bad=false->xR (wz (jk s).1.list))
  (h:KDr K (bif b then drZ else yO s (wz (jk s).1.list) (jK (wz (jk s).1.list).a (wz (jk s).1.list).m (wz (jk s).1.list).t (wz (jk s).1.list).ds (wz (jk s).1.list).cs).2)):Vl (xY K) s b ⟨#[]⟩ ⟨#[]⟩ 0 (jk s).1.isList (jk s).1.atom (jk s).1.list:=by
 unfold Vl
 cases b
 rotate_left
 . exact Y5 h
 rw [cond_false] at h
 have hp:=hp rfl
 have hb:=lim_dc hs
 generalize (jk s).1.list=l at hb h hp ⊢
 have h3:qg (qW zR (qW zR (qW zR (l,false)).2).2).2.1<=jG:=xG (xG (xG hb))
 have h4:qg (qW xl (qW zR (qW zR (qW zR (l,false)).2).2).2).2.1<=jG:=xG h3
 have h5:qg (qW qO (qW xl (qW zR (qW zR (qW zR (l,false)).2).2).2).2).2.1<=jG:=xG h4
 exact ⟨trivial,trivial,trivial,h3,trivial,F30_L6_is (r:=(qW qO (qW xl (qW zR (qW zR (qW zR (l,false)).2).2).2).2).2) (JZ h4) h5 hp h⟩
theorem F30_is {s:ByteArray} {K:Kn} (hp:preP s) (h:KDr K (zK s)):F30 (s,()) (xY K):=by
 unfold F30
 refine ⟨Nat.le_trans hp.1 (by decide), ?_⟩
 exact Qo (J:=fun b=>Vl (xY K) s b ⟨#[]⟩ ⟨#[]⟩ 0 (jk s).1.isList (jk s).1.atom (jk s).1.list) (f:=fun b=>b) (K:=fun b=>(b=false->(wz (jk s).1.list).bad=false->xR (wz (jk s).1.list))/\
  KDr K (bif b then drZ else yO s (wz (jk s).1.list) (jK (wz (jk s).1.list).a (wz (jk s).1.list).m (wz (jk s).1.list).t (wz (jk s).1.list).ds (wz (jk s).1.list).cs).2)) (fun b hb=>F30_J2_is hp.1 hb.1 hb.2) ⟨hp.2,h⟩
def sp30:Sp:=⟨S30,L30,fun g=>preP g.1,fun g=> .tu [.ag [.str (zK g.1).a, .str (zK g.1).m, .int .i64 (zK g.1).t, .sl false .dig (zK g.1).ds, .sl false .chg (zK g.1).cs], .int .i64 (zK g.1).e],fun _=>none⟩
theorem sp30_ok:sp30.Ok Tryz.prog 30 false:=
 ⟨fun g K X hp h=>FCalls.weak (F30_ok g (xY K) X (F30_is hp h)),fun _ _ _=>rfl,fun _=>rfl,fun h=>(by cases h)⟩
end Go.Proofs.YtbglndogddddoaaGreatDoor
namespace Go.Proofs.YtbglndogddddoaaGreatDoor
open Go.RowKit
attribute [local irreducible] qV qK
set_option maxRecDepth 100000
def H63:List (Nat×Hint):=[]
def J63:List (Nat×Hint):=[]
abbrev S63:List Sh:=[.leaf, .leaf]
abbrev L63:List Lf:=[.el .chg, .el .chg]
def F63 (g:prodL L63) (K:Kn):Prop:=
 bif decide (g.1.kind=g.2.1.kind)then (
  bif zw g.1.file g.2.1.file then (
   bif decide (g.1.typ=g.2.1.typ)then (
    bif zw g.1.parent g.2.1.parent then (
     bif decide (g.1.name=g.2.1.name)then (
      bif decide (g.1.mode=g.2.1.mode)then (
       bif decide (g.1.data=g.2.1.data)then (
        bif zw g.1.after g.2.1.after then (
         bif zw g.1.before g.2.1.before then (
          sp109.pre (g.1.lines,g.2.1.lines,())/\
          bif decide (g.1.lines=g.2.1.lines)then (
           sp110.pre (g.1.over,g.2.1.over,())/\
           K (.bool (decide (g.1.over=g.2.1.over))) [])
          else (
           K (.bool false) []))
         else (
          K (.bool false) []))
        else (
         K (.bool false) []))
       else (
        K (.bool false) []))
      else (
       K (.bool false) []))
     else (
      K (.bool false) []))
    else (
     K (.bool false) []))
   else (
    K (.bool false) []))
  else (
   K (.bool false) []))
 else (
  K (.bool false) [])
theorem F63_eq (g:prodL L63) (K X:Kn):F63 g K=qV D (qZ [] [(109,true,sp109),(110,true,sp110)]) (qv []) H63 J63 80 [.tmp 4] (qq Tryz.f63) (argsT S63 L63 g) [] (settle0 K) X:=by kernel_rfl
theorem F63_ok (g:prodL L63) (K X:Kn) (h:F63 g K):FCalls Tryz.prog 63 (argsT S63 L63 g) [] K X:=
 FCalls.settle0 (qz qf (vn (vo sp109_ok (vo sp110_ok vp))) qj rfl Tryz.func63 (c:=qq Tryz.f63) rfl Tryz.ntmps63 Tryz.results63 (by unfold qy;rw [Tryz.func63];kernel_rfl) (Nat.le_of_ble_eq_true (by kernel_rfl)) (c0:=0) (Eq.mp (F63_eq g K X) h))
end Go.Proofs.YtbglndogddddoaaGreatDoor
namespace Go.Proofs.YtbglndogddddoaaGreatDoor
open Go.RowKit
set_option maxRecDepth 100000
theorem idEq_self (x:Idn):zw x x=true:=by rw [wS];exact decide_eq_true rfl
def sp63:Sp:=⟨S63,L63,fun g=>g.1=g.2.1/\WV g.1.lines.length/\WV g.1.over.length,fun _=> .bool true,fun _=>none⟩
theorem sp63_ok:sp63.Ok Tryz.prog 63 true:=
 ⟨fun g K X hp h=>F63_ok g K X (by
  obtain ⟨c,c',⟨⟩⟩:=g
  obtain ⟨e,h1,h2⟩:=hp
  have e:c=c':=e
  subst e
  unfold F63
  simp only [idEq_self,decide_true,cond_true]
  exact ⟨h1,h2,h⟩),fun _ _ _=>rfl,fun _=>rfl,fun _ _=>⟨rfl,rfl⟩⟩
end Go.Proofs.YtbglndogddddoaaGreatDoor
namespace Go.Proofs.YtbglndogddddoaaGreatDoor
open Go.RowKit
attribute [local irreducible] qV qK
set_option maxRecDepth 100000
def H32:List (Nat×Hint):=[(4,⟨[((2,[]),none),((3,[]),none)],[(2, .pt 0 0),(3, .pt 1 0),(5, .leaf)],[.cells [.leaf, .leaf, .leaf, .leaf, .leaf], .cells [.leaf, .leaf, .leaf, .leaf, .leaf]],[.int .i64, .str, .str, .int .i64, .sl .dig, .sl .chg, .str, .str, .int .i64, .sl .dig, .sl .chg]⟩)]
def J32:List (Nat×Hint):=[(2,⟨[((2,[]),none),((3,[]),none)],[(2, .pt 0 0),(3, .pt 1 0),(41, .leaf)],[.cells [.leaf, .leaf, .leaf, .leaf, .leaf], .cells [.leaf, .leaf, .leaf, .leaf, .leaf]],[.bool, .str, .str, .int .i64, .sl .dig, .sl .chg, .str, .str, .int .i64, .sl .dig, .sl .chg]⟩)]
abbrev S32:List Sh:=[.ag [.leaf, .leaf, .leaf, .leaf, .leaf], .ag [.leaf, .leaf, .leaf, .leaf, .leaf]]
abbrev L32:List Lf:=[.str, .str, .int .i64, .sl .dig, .sl .chg, .str, .str, .int .i64, .sl .dig, .sl .chg]
def F32_B4 (K:Kn) (W4:prodL [.int .i64, .str, .str, .int .i64, .sl .dig, .sl .chg, .str, .str, .int .i64, .sl .dig, .sl .chg]->Prop) (i_3:Int) (a1_3 a2_3:ByteArray) (a3_3:Int) (a4_3:List Dig) (a5_3:List Chg) (b1_3 b2_3:ByteArray) (b3_3:Int) (b4_3:List Dig) (b5_3:List Chg):Prop:=
 bif decide (i_3< (a5_3.length:Int))then (
  At a5_3 i_3 fun u5=>
 At b5_3 i_3 fun u6=>
 sp63.pre (u5,u6,())/\
 W4 (IntKind.i64.wrap (i_3+1),a1_3,a2_3,a3_3,a4_3,a5_3,b1_3,b2_3,b3_3,b4_3,b5_3,()))
 else (
  K (.bool true) [])
def F32_L4 (K:Kn) (g:prodL [.int .i64, .str, .str, .int .i64, .sl .dig, .sl .chg, .str, .str, .int .i64, .sl .dig, .sl .chg]):Prop:=
 qJ (γ:=prodL [.int .i64, .str, .str, .int .i64, .sl .dig, .sl .chg, .str, .str, .int .i64, .sl .dig, .sl .chg]) (fun V y=>F32_B4 K V y.1 y.2.1 y.2.2.1 y.2.2.2.1 y.2.2.2.2.1 y.2.2.2.2.2.1 y.2.2.2.2.2.2.1 y.2.2.2.2.2.2.2.1 y.2.2.2.2.2.2.2.2.1 y.2.2.2.2.2.2.2.2.2.1 y.2.2.2.2.2.2.2.2.2.2.1) g
def ZL (K:Kn) (t_1:Bool) (a1_1 a2_1:ByteArray) (a3_1:Int) (a4_1:List Dig) (a5_1:List Chg) (b1_1 b2_1:ByteArray) (b3_1:Int) (b4_1:List Dig) (b5_1:List Chg):Prop:=
 bif t_1 then (
  K (.bool false) [])
 else (
  F32_L4 K (0,a1_1,a2_1,a3_1,a4_1,a5_1,b1_1,b2_1,b3_1,b4_1,b5_1,()))
def F32 (g:prodL L32) (K:Kn):Prop:=
 bif !decide (g.1=g.2.2.2.2.2.1)then (
  ZL K true g.1 g.2.1 g.2.2.1 g.2.2.2.1 g.2.2.2.2.1 g.2.2.2.2.2.1 g.2.2.2.2.2.2.1 g.2.2.2.2.2.2.2.1 g.2.2.2.2.2.2.2.2.1 g.2.2.2.2.2.2.2.2.2.1)
 else (
  bif !decide (g.2.1=g.2.2.2.2.2.2.1)then (
   ZL K true g.1 g.2.1 g.2.2.1 g.2.2.2.1 g.2.2.2.2.1 g.2.2.2.2.2.1 g.2.2.2.2.2.2.1 g.2.2.2.2.2.2.2.1 g.2.2.2.2.2.2.2.2.1 g.2.2.2.2.2.2.2.2.2.1)
  else (
   bif !decide (g.2.2.1=g.2.2.2.2.2.2.2.1)then (
    ZL K true g.1 g.2.1 g.2.2.1 g.2.2.2.1 g.2.2.2.2.1 g.2.2.2.2.2.1 g.2.2.2.2.2.2.1 g.2.2.2.2.2.2.2.1 g.2.2.2.2.2.2.2.2.1 g.2.2.2.2.2.2.2.2.2.1)
   else (
    sp62.pre (g.2.2.2.1,g.2.2.2.2.2.2.2.2.1,())/\
    bif !(decide (g.2.2.2.1=g.2.2.2.2.2.2.2.2.1))then (
     ZL K true g.1 g.2.1 g.2.2.1 g.2.2.2.1 g.2.2.2.2.1 g.2.2.2.2.2.1 g.2.2.2.2.2.2.1 g.2.2.2.2.2.2.2.1 g.2.2.2.2.2.2.2.2.1 g.2.2.2.2.2.2.2.2.2.1)
    else (
     ZL K (!decide ((g.2.2.2.2.1.length:Int)=(g.2.2.2.2.2.2.2.2.2.1.length:Int))) g.1 g.2.1 g.2.2.1 g.2.2.2.1 g.2.2.2.2.1 g.2.2.2.2.2.1 g.2.2.2.2.2.2.1 g.2.2.2.2.2.2.2.1 g.2.2.2.2.2.2.2.2.1 g.2.2.2.2.2.2.2.2.2.1))))
theorem F32_eq (g:prodL L32) (K X:Kn):F32 g K=qV D (qZ [] [(62,true,sp62),(63,true,sp63)]) (qv []) H32 J32 61 [.tmp 4] (qq Tryz.f32) (argsT S32 L32 g) [] (settle0 K) X:=by kernel_rfl
theorem F32_ok (g:prodL L32) (K X:Kn) (h:F32 g K):FCalls Tryz.prog 32 (argsT S32 L32 g) [] K X:=
 FCalls.settle0 (qz qf (vn (vo sp62_ok (vo sp63_ok vp))) qj rfl Tryz.func32 (c:=qq Tryz.f32) rfl Tryz.ntmps32 Tryz.results32 (by unfold qy;rw [Tryz.func32];kernel_rfl) (Nat.le_of_ble_eq_true (by kernel_rfl)) (c0:=0) (Eq.mp (F32_eq g K X) h))
end Go.Proofs.YtbglndogddddoaaGreatDoor
namespace Go.Proofs.YtbglndogddddoaaGreatDoor
open Go.RowKit
set_option maxRecDepth 100000
def preS (a m:ByteArray) (t:Int) (ds:List Dig) (cs:List Chg):Prop:=WV ds.length/\cs.length<=4294967296/\ ∀c∈cs,WV c.lines.length/\WV c.over.length
theorem F32_is {a m:ByteArray} {t:Int} {ds:List Dig} {cs:List Chg} {K:Kn} (hp:preS a m t ds cs) (h:K (.bool true) []):F32 (a,m,t,ds,cs,a,m,t,ds,cs,()) K:=by
 obtain ⟨h1,h2,h3⟩:=hp
 unfold F32
 simp only [decide_true,Bool.not_true,cond_false]
 refine ⟨h1, ?_⟩
 unfold ZL
 rw [cond_false]
 unfold F32_L4
 refine qJ.countTo cs.length (fun n=>((n:Int),a,m,t,ds,cs,a,m,t,ds,cs,())) (fun _=>True) rfl (fun n hn _ W hW=> ?_) trivial
 show F32_B4 K W n a m t ds cs a m t ds cs
 unfold F32_B4
 by_cases hlt:n<cs.length
 . rw [qS hlt,cond_true]
   obtain ⟨k1,k2⟩:=h3 _ (List.getElem_mem hlt)
   refine zy hlt (zy hlt ⟨⟨rfl,k1,k2⟩, ?_⟩)
   rw [zU hlt h2]
   exact hW hlt trivial
 . have:n=cs.length:=by omega
   subst this
   rw [qH,cond_false]
   exact h
theorem F32_is' {a m a' m':ByteArray} {t t':Int} {ds ds':List Dig} {cs cs':List Chg} {K:Kn} (e1:a'=a) (e2:m'=m) (e3:t'=t) (e4:ds'=ds) (e5:cs'=cs) (hp:preS a m t ds cs) (h:K (.bool true) []):F32 (a,m,t,ds,cs,a',m',t',ds',cs',()) K:=by
 subst e1 e2 e3 e4 e5
 exact F32_is hp h
def sp32:Sp:=⟨S32,L32,fun g=>(g.2.2.2.2.2.1=g.1/\g.2.2.2.2.2.2.1=g.2.1/\g.2.2.2.2.2.2.2.1=g.2.2.1/\g.2.2.2.2.2.2.2.2.1=g.2.2.2.1/\g.2.2.2.2.2.2.2.2.2.1=g.2.2.2.2.1)/\preS g.1 g.2.1 g.2.2.1 g.2.2.2.1 g.2.2.2.2.1,fun _=> .bool true,fun _=>none⟩
theorem sp32_ok:sp32.Ok Tryz.prog 32 true:=
 ⟨fun g K X hp h=>F32_ok g K X (by
  obtain ⟨⟨e1,e2,e3,e4,e5⟩,hp⟩:=hp
  exact F32_is' e1 e2 e3 e4 e5 hp h),fun _ _ _=>rfl,fun _=>rfl,fun _ _=>⟨rfl,rfl⟩⟩
theorem preS_of {a m:ByteArray} {t:Int} {ds:List Dig} {cs:List Chg} (h:xP a m t ds cs):preS a m t ds cs:=by
 obtain ⟨-, -, -,h4,h5, -⟩:=h
 have hl:=KV h5
 refine ⟨by unfold WV;omega,by omega,fun c hc=> ?_⟩
 have hc:=Vy h5 hc
 have:=jM hc
 exact ⟨by unfold WV;omega,by unfold WV;omega⟩
theorem numV_range (l:List UInt8): -1099511627776<=(qqt l).1/\(qqt l).1<=1099511627776:=by
 unfold qqt
 dsimp only
 generalize dv 0 (if l.head?=some 45 then l.tail else l)=m
 split
 . exact ⟨by decide,by decide⟩
 . split
   . exact ⟨by show _<= -(m:Int);omega,by show -(m:Int)<=_;omega⟩
   . exact ⟨by show _<=(m:Int);omega,by show (m:Int)<=_;omega⟩
theorem nm_in (x:Sx):inR (nmG x).1:=by
 have z:inR 0:=⟨by decide,by decide⟩
 have h3:=numV_range (bl x.atom)
 unfold nmG nmB
 generalize ckG x=e
 split
 . split
   . exact z
   . split
     . exact h3
     . exact z
 . exact z
theorem Kb {n:Int} (h:inR n):jS n:=⟨by have:=h.1;omega,by have:=h.2;omega⟩
theorem hd_bk (l:List Sx):zM (jn l)<=qg l+3:=by
 cases l with
 | nil=>show zM sx0<=_;rw [jl];exact Nat.le_refl 3
 | cons x l=>simp only [qg];show zM x<=_;omega
theorem JN (l:List Sx):(jn l).atom.size<=qg l:=by have:=hd_bk l;rw [jl] at this;omega
theorem qqz (l:List Sx):qg (jn l).list<=qg l:=by have:=hd_bk l;rw [jl] at this;omega
theorem Zb (l:List Sx):qg l.tail<=qg l:=by
 cases l with
 | nil=>exact Nat.le_refl _
 | cons x l=>simp only [qg];show qg l<=_;omega
theorem wf_dz:wf_dig dz:=by
 unfold wf_dig
 simp only [dz]
 decide
def okI (x:Idn):Prop:=jS x.n/\wf_dig x.patch
theorem qqs:okI iz:=⟨⟨by decide,by decide⟩,wf_dz⟩
theorem XD (x:Sx):okI (xE x).1:=⟨Kb (nm_in _),wf_digA _⟩
theorem Ym {α:Type} {f:Sx->α×Bool} {P:α->Prop} (hf: ∀x,P (f x).1): ∀l, ∀y∈(zf f l).1,P y
 | [],y,hy=>by cases hy
 | x::l,y,hy=>by
  rw [zf] at hy
  cases c:(f x).2
  . rw [c,cond_false] at hy
    rcases List.mem_cons.1 hy with rfl | hy
    . exact hf x
    . exact Ym hf l y hy
  . rw [c,cond_true] at hy
    rw [List.mem_singleton.1 hy];exact hf x
theorem Z0 {α:Type} {f:Sx->α×Bool} {b:α->Nat} {k:Nat} (hf: ∀x,b (f x).1<=k*zM x): ∀l,((zf f l).1.map b).sum<=k*qg l
 | []=>Nat.zero_le _
 | x::l=>by
  have h1:=hf x
  have h2:=Z0 hf l
  rw [zf]
  simp only [qg,Nat.mul_add]
  cases c:(f x).2
  . rw [cond_false,List.map_cons,List.sum_cons];omega
  . rw [cond_true];simp only [List.map_cons,List.map_nil,List.sum_cons,List.sum_nil];omega
theorem map_sum {α:Type} {f:Sx->α} {b:α->Nat} {k:Nat} (hf: ∀x,b (f x)<=k*zM x): ∀l:List Sx,((l.map f).map b).sum<=k*qg l
 | []=>Nat.zero_le _
 | x::l=>by
  have h1:=hf x
  have h2:=map_sum hf l
  simp only [qg,Nat.mul_add,List.map_cons,List.sum_cons]
  omega
theorem atom_bk (x:Sx):zo x.atom<=1*zM x:=by
 rw [jl,Nat.one_mul];unfold zo;omega
def szC (B:Nat) (c:Chg):Prop:=(jS c.typ/\jS c.mode)/\(okI c.file/\okI c.parent/\okI c.after/\okI c.before)/\(∀x∈c.over,okI x)/\c.name.size<=B/\c.data.size<=B/\(c.lines.map zo).sum<=B/\3*c.over.length<=B
theorem kindC_sz (B:Nat) (k:Int):szC B (Ze k):=by
 have z:jS 0:=⟨by decide,by decide⟩
 exact ⟨⟨z,z⟩,⟨qqs,qqs,qqs,qqs⟩,fun x hx=>(by cases hx),Nat.zero_le _,Nat.zero_le _,Nat.zero_le _,Nat.zero_le _⟩
theorem oPx_sz (x:Sx):(∀y∈(oPx x).1,okI y)/\3*(oPx x).1.length<=qg x.list:=by
 refine ⟨fun y hy=> ?_, ?_⟩
 . obtain ⟨z, -,rfl⟩:=List.mem_map.1 hy;exact XD z
 . show 3*(x.list.map _).length<=_
   rw [List.length_map];exact vK _
theorem lPx_sz (x:Sx):((lPx x).1.map zo).sum<=qg x.list:=by
 have:=map_sum (f:=fun y:Sx=>y.atom) (b:=zo) atom_bk x.list
 rw [Nat.one_mul] at this;exact this
theorem Jj {B:Nat} {c:Chg} {r:RdS} (hb:qg r.1<=B) (h:szC B c):szC B (cP3 c r).1:=by
 obtain ⟨h1,h2,h3,h4,h5,h6,h7⟩:=h
 have hl:=qqz r.1
 unfold cP3
 cases decide (c.kind=5)
 . rw [cond_false]
   cases decide (2<=c.kind)
   . exact ⟨h1,h2,h3,h4,h5,h6,h7⟩
   . obtain ⟨k1,k2⟩:=oPx_sz (jn r.1)
     exact ⟨h1,h2,k1,h4,h5,h6,Nat.le_trans k2 (Nat.le_trans hl hb)⟩
 . exact ⟨h1,h2,h3,h4,h5,Nat.le_trans (lPx_sz (jn r.1)) (Nat.le_trans hl hb),h7⟩
theorem cP2_sz {B:Nat} {c:Chg} {r:RdS} (hb:qg r.1<=B) (h:szC B c):szC B (cP2 c r).1:=by
 obtain ⟨h1,h2,h3,h4,h5,h6,h7⟩:=h
 have t1:qg r.1.tail<=B:=Nat.le_trans (Zb _) hb
 have t2:qg r.1.tail.tail<=B:=Nat.le_trans (Zb _) t1
 unfold cP2
 cases decide (c.kind=1)
 rotate_left
 . exact Jj t1 ⟨⟨Kb (nm_in _),h1.2⟩,h2,h3,h4,h5,h6,h7⟩
 rw [cond_false]
 cases decide (c.kind=2)
 rotate_left
 . exact Jj t2 ⟨h1,⟨h2.1,XD _,h2.2.2⟩,h3,Nat.le_trans (JN _) t1,h5,h6,h7⟩
 rw [cond_false]
 cases decide (c.kind=3)
 rotate_left
 . exact Jj t1 ⟨⟨h1.1,Kb (nm_in _)⟩,h2,h3,h4,h5,h6,h7⟩
 rw [cond_false]
 cases decide (c.kind=4)
 rotate_left
 . exact Jj t1 ⟨h1,h2,h3,h4,Nat.le_trans (JN _) hb,h6,h7⟩
 rw [cond_false]
 cases (bif decide (c.kind=5)then true else decide (c.kind=6))
 . exact Jj hb ⟨h1,h2,h3,h4,h5,h6,h7⟩
 . exact Jj t2 ⟨h1,⟨h2.1,h2.2.1,XD _,XD _⟩,h3,h4,h5,h6,h7⟩
theorem cP1_sz {B:Nat} {c:Chg} {r:RdS} (hb:qg r.1<=B) (h:szC B c):szC B (cP1 c r).1:=by
 obtain ⟨h1,h2,h3,h4,h5,h6,h7⟩:=h
 unfold cP1
 cases (bif decide (2<=c.kind)then decide (c.kind<=6)else false)
 . exact cP2_sz hb ⟨h1,h2,h3,h4,h5,h6,h7⟩
 . exact cP2_sz (Nat.le_trans (Zb _) hb) ⟨h1,⟨XD _,h2.2⟩,h3,h4,h5,h6,h7⟩
theorem cPx_sz (x:Sx):szC (zM x) (ZA x).1:=by
 have hb:qg x.list<=zM x:=by rw [jl x];omega
 exact cP1_sz (Nat.le_trans (Zb _) hb) (kindC_sz _ _)
theorem bk_over (l:List Idn):(l.map ww).sum=33*l.length:=by
 induction l with
 | nil=>rfl
 | cons x l ih=>rw [List.map_cons,List.sum_cons,ih,List.length_cons];show 33+_=_;omega
theorem sz_bk {x:Sx} {c:Chg} (h:szC (zM x) c):zq c<=61*zM x:=by
 obtain ⟨-, -, -,h4,h5,h6,h7⟩:=h
 have h0:=jl x
 unfold zq
 rw [bk_over]
 omega
theorem sz_at {x:Sx} {c:Chg} (h:szC (zM x) c):2*c.lines.length+1<=3*zM x:=by
 obtain ⟨-, -, -, -, -,h6, -⟩:=h
 have h0:=jl x
 have:=yj zo 1 c.lines fun s _=>by unfold zo;omega
 omega
structure Fine (p:Rp):Prop where
 x:xP p.a p.m p.t p.ds p.cs
 d: ∀d∈p.ds,wf_dig d
 w: ∀c∈p.cs,wfG c
 o: ∀c∈p.cs, ∀x∈c.over,wf_idk x
 n:atN p.cs<=100000
theorem wf_idk_of {x:Idn} (h:okI x):wf_idk x:=by
 obtain ⟨h1,h2⟩:=h
 have h1:IntKind.i64.min<=x.n/\x.n<=IntKind.i64.max:=h1
 unfold wf_dig at h2
 unfold wf_idk
 simp only [h1,h2,and_self]
theorem fine_of {p:Rp} {B:Nat} (hB:B<=20000) (ha:p.a.size<=B) (hm:p.m.size<=B) (ht:inR p.t) (hd: ∀d∈p.ds,wf_dig d) (hdl:p.ds.length<=B) (hc: ∀c∈p.cs, ∃x,szC (zM x) c) (hs:(p.cs.map zq).sum<=61*B) (hn:atN p.cs<=3*B):Fine p:=by
 refine ⟨⟨Kb ht,by omega,by omega,by omega,by omega,fun c h=> ?_⟩,hd,fun c h=> ?_,fun c h=> ?_,by omega⟩
 . obtain ⟨x,⟨h1,h2⟩,⟨h3,h4,h5,h6⟩,h7, -⟩:=hc c h
   exact ⟨h1,h2,h3.1,h4.1,h5.1,h6.1,fun y hy=>(h7 y hy).1⟩
 . obtain ⟨x, -,⟨h3,h4,h5,h6⟩,h7, -⟩:=hc c h
   exact ⟨h3.2,h4.2,h5.2,h6.2,fun y hy=>(h7 y hy).2⟩
 . obtain ⟨x, -, -,h7, -⟩:=hc c h
   exact fun y hy=>wf_idk_of (h7 y hy)
theorem eachB_ex {f:Sx->Chg×Bool} (hf: ∀x,szC (zM x) (f x).1) (l:List Sx): ∀c∈(zf f l).1, ∃x,szC (zM x) c:=Ym (P:=fun c=> ∃x,szC (zM x) c) (fun x=>⟨x,hf x⟩) l
theorem fineP {l:List Sx} (h:qg l<=20000):Fine (wz l):=by
 have t1:qg l.tail<=20000:=Nat.le_trans (Zb _) h
 have t2:qg l.tail.tail<=20000:=Nat.le_trans (Zb _) t1
 have t3:qg l.tail.tail.tail<=20000:=Nat.le_trans (Zb _) t2
 have t4:qg l.tail.tail.tail.tail<=20000:=Nat.le_trans (Zb _) t3
 have t5:qg l.tail.tail.tail.tail.tail<=20000:=Nat.le_trans (Zb _) t4
 have u4:qg (jn l.tail.tail.tail.tail).list<=20000:=Nat.le_trans (qqz _) t4
 have u5:qg (jn l.tail.tail.tail.tail.tail).list<=20000:=Nat.le_trans (qqz _) t5
 refine fine_of (Nat.le_refl 20000) (Nat.le_trans (JN _) t1) (Nat.le_trans (JN _) t2) (nm_in _) ?_ ?_ (eachB_ex cPx_sz _) ?_ ?_
 . intro d hd
   obtain ⟨z, -,rfl⟩:=List.mem_map.1 hd
   exact wf_digA _
 . show ((jn l.tail.tail.tail.tail).list.map _).length<=_
   have:=vK (jn l.tail.tail.tail.tail).list
   rw [List.length_map];omega
 . have:=Z0 (f:=ZA) (b:=zq) (fun x=>sz_bk (cPx_sz x)) (jn l.tail.tail.tail.tail.tail).list
   exact Nat.le_trans this (Nat.mul_le_mul_left _ u5)
 . have:=Z0 (f:=ZA) (b:=fun c=>2*c.lines.length+1) (fun x=>sz_at (cPx_sz x)) (jn l.tail.tail.tail.tail.tail).list
   exact Nat.le_trans this (Nat.mul_le_mul_left _ u5)
end Go.Proofs.YtbglndogddddoaaGreatDoor
namespace Go.Proofs.YtbglndogddddoaaGreatDoor
open Go.RowKit
attribute [local irreducible] qV qK
set_option maxRecDepth 100000
def H10:List (Nat×Hint):=[]
def J10:List (Nat×Hint):=[]
abbrev S10:List Sh:=[.leaf]
abbrev L10:List Lf:=[.str]
def F10 (g:prodL L10) (K:Kn):Prop:=
 bif decide (3000< (g.1.size:Int))then (
  sp12.pre (())/\
  K (.bool true) [])
 else (
  sp30.pre (g.1,())/\
 bif !decide ((zK g.1).e=0)then (
  bif decide ((zK g.1).e=12)then (
   sp32.pre ((zK g.1).a,(zK g.1).m,(zK g.1).t,(zK g.1).ds,(zK g.1).cs,(⟨#[]⟩:ByteArray),(⟨#[]⟩:ByteArray),0,[],[],())/\
   sp12.pre (())/\
   K (.bool true) [])
  else (
   K (.bool false) []))
 else (
  XP.pre ((zK g.1).a,(zK g.1).m,(zK g.1).t,(zK g.1).ds,(zK g.1).cs,())/\
 bif decide ((jK ((zK g.1).a) ((zK g.1).m) ((zK g.1).t) ((zK g.1).ds) ((zK g.1).cs)).2.2=0)then (
  bif decide ((jK ((zK g.1).a) ((zK g.1).m) ((zK g.1).t) ((zK g.1).ds) ((zK g.1).cs)).2.1=g.1)then (
   sp19.pre ((zK g.1).a,(zK g.1).m,(zK g.1).t,(zK g.1).ds,(zK g.1).cs,())/\
   bif decide ((jK ((zK g.1).a) ((zK g.1).m) ((zK g.1).t) ((zK g.1).ds) ((zK g.1).cs)).2.2=0)then (
    sp12.pre (())/\
    K (.bool true) [])
   else (
    K (.bool false) []))
  else (
   K (.bool false) []))
 else (
  K (.bool false) [])))
theorem F10_eq (g:prodL L10) (K X:Kn):F10 g K=qV D (qZ [] [(12,true,sp12),(13,true,XP),(19,true,sp19),(30,false,sp30),(32,true,sp32)]) (qv []) H10 J10 48 [.tmp 2] (qq Tryz.f10) (argsT S10 L10 g) [] (settle0 K) X:=by kernel_rfl
theorem F10_ok (g:prodL L10) (K X:Kn) (h:F10 g K):FCalls Tryz.prog 10 (argsT S10 L10 g) [] K X:=
 FCalls.settle0 (qz qf (vn (vo sp12_ok (vo XZ (vo sp19_ok (vo sp30_ok (vo sp32_ok vp)))))) qj rfl Tryz.func10 (c:=qq Tryz.f10) rfl Tryz.ntmps10 Tryz.results10 (by unfold qy;rw [Tryz.func10];kernel_rfl) (Nat.le_of_ble_eq_true (by kernel_rfl)) (c0:=0) (Eq.mp (F10_eq g K X) h))
end Go.Proofs.YtbglndogddddoaaGreatDoor
namespace Go.Proofs.YtbglndogddddoaaGreatDoor
open Go.RowKit
set_option maxRecDepth 100000
theorem finD_acc {s:ByteArray} {p:Rp} {x:ByteArray×Int} (h1:p.bad=false) (h2:x=(s,0)):yO s p x=⟨p.a,p.m,p.t,p.ds,p.cs,0⟩:=by
 unfold yO
 rw [h1,h2]
 dsimp only
 rw [decide_eq_true rfl,decide_eq_true rfl];rfl
theorem finD_cases (s:ByteArray) (p:Rp) (x:ByteArray×Int):(p.bad=false/\x=(s,0)/\yO s p x=⟨p.a,p.m,p.t,p.ds,p.cs,0⟩)∨yO s p x=drZ:=by
 cases h1:p.bad
 rotate_left
 . right;unfold yO;rw [h1];rfl
 by_cases h2:x.2=0
 rotate_left
 . right;unfold yO;rw [h1,decide_eq_false h2];rfl
 by_cases h3:x.1=s
 rotate_left
 . right;unfold yO;rw [h1,decide_eq_true h2,decide_eq_false h3];rfl
 have e:x=(s,0):=Prod.ext h3 h2
 exact .inl ⟨rfl,e,finD_acc h1 e⟩
theorem Vm (s:ByteArray):(badD s=false/\(wz (jk s).1.list).bad=false/\(jK (wz (jk s).1.list).a (wz (jk s).1.list).m (wz (jk s).1.list).t (wz (jk s).1.list).ds (wz (jk s).1.list).cs).2=(s,0)/\
  zK s=⟨(wz (jk s).1.list).a,(wz (jk s).1.list).m,(wz (jk s).1.list).t,(wz (jk s).1.list).ds,(wz (jk s).1.list).cs,0⟩)∨zK s=drZ:=by
 cases hb:badD s
 . rcases finD_cases s (wz (jk s).1.list) (jK (wz (jk s).1.list).a (wz (jk s).1.list).m (wz (jk s).1.list).t (wz (jk s).1.list).ds (wz (jk s).1.list).cs).2 with ⟨h1,h2,h3⟩ | h3
   . left
     refine ⟨rfl,h1,h2, ?_⟩
     rw [<- h3];unfold zK;rw [hb];rfl
   . right
     rw [<- h3];unfold zK;rw [hb];rfl
 . right;unfold zK;rw [hb];rfl
theorem xP_zero:xP ⟨#[]⟩ ⟨#[]⟩ 0 [] []:=⟨⟨by decide,by decide⟩,by decide,by decide,by decide,by decide,fun c hc=>by cases hc⟩
theorem decP_x {s:ByteArray} (h:Fine (wz (jk s).1.list)):xP (zK s).a (zK s).m (zK s).t (zK s).ds (zK s).cs:=by
 rcases Vm s with ⟨-, -, -,e⟩ | e<;>rw [e]
 . exact h.x
 . exact xP_zero
theorem small_bk {s:ByteArray} (h: ¬(3000:Int) < ((s.size:Nat):Int)):qg (jk s).1.list<=20000:=by
 have:=dcT_bk s
 rw [jl] at this
 omega
theorem patchCanonical.calls (g:prodL L10) (hw:WJ L10 g) (hb:ws L10 g<=1048576):FCalls Tryz.prog 10 (argsT S10 L10 g) [] (fun r _=>r= .bool true) fun _ _=>False:=by
 obtain ⟨s,⟨⟩⟩:=g
 have hb:s.size+1+0<=1048576:=hb
 refine F10_ok (s,()) _ _ ?_
 unfold F10
 show bif decide ((3000:Int) < ((s.size:Nat):Int))then _ else _
 by_cases hs:(3000:Int) < ((s.size:Nat):Int)
 . rw [decide_eq_true hs];exact ⟨trivial,rfl⟩
 rw [decide_eq_false hs,cond_false]
 have hP:=fineP (small_bk hs)
 refine ⟨⟨by show s.size<=_;omega,fun _ _=>hP.x⟩, ?_⟩
 have hx:=decP_x hP
 dsimp only
 rcases Vm s with ⟨-, -,h2,e⟩ | e
 . rw [e] at hx ⊢
   dsimp only at hx ⊢
   rw [decide_eq_true rfl,Bool.not_true,cond_false]
   refine ⟨hx, ?_⟩
   rw [h2]
   dsimp only
   rw [decide_eq_true rfl,cond_true,decide_eq_true rfl,cond_true]
   exact ⟨hx,⟨trivial,rfl⟩⟩
 . rw [e] at hx ⊢
   exact ⟨⟨⟨rfl,rfl,rfl,rfl,rfl⟩,preS_of hx⟩,trivial,rfl⟩
end Go.Proofs.YtbglndogddddoaaGreatDoor
namespace Go.Proofs.YtbglndogddddoaaGreatDoor
open Go.RowKit Go.ChangeShapes
def elsF (e:El):Bool:=(lvs e).all fun l=>match l with | .fd=>false | _=>true
def DR:TD:=D.filter fun p=>match p.2.el with | some e=>elsF e | none=>true
theorem Xp {t:TypeId} {te:TI}: ∀(l:TD),qG l t=some te->(t,te)∈l
 | [],h=>by cases h
 | (j,x)::r,h=>by
  simp only [qG] at h
  split at h
  . rename_i e;subst e;injection h with h;subst h;exact List.mem_cons_self
  . exact List.mem_cons_of_mem _ (Xp r h)
theorem JA {t:TypeId} {te:TI}: ∀(l:TD),(l.map (·.1)).Nodup->(t,te)∈l->qG l t=some te
 | [],_,h=>by cases h
 | (j,x)::r,hn,h=>by
  simp only [List.map_cons,List.nodup_cons] at hn
  rcases List.mem_cons.1 h with h | h
  . cases h;simp [qG]
  . have:j≠t:=by rintro rfl;exact hn.1 (List.mem_map.2 ⟨_,h,rfl⟩)
    simp only [qG]
    rw [if_neg (Ne.symm this)]
    exact JA r hn.2 h
theorem DR_ok:qR Tryz.prog DR:=fun t ti h=>
 qf t ti (JA D (of_decide_eq_true (by kernel_rfl:decide ((D.map (·.1)).Nodup)=true)) (List.mem_filter.1 (Xp DR h)).1)
theorem kinds_ok:J4 DR:=by
 have key:DR.all (fun p=>match p.2.el with | some e=>decide (wC DR 8 p.1=some (lvs e)) | none=>true)=true:=by kernel_rfl
 intro t te e ht he
 have:=List.all_eq_true.1 key _ (Xp DR ht)
 simp only [he] at this
 exact ⟨8,of_decide_eq_true this⟩
theorem the_kids:Kids Tryz.prog (· <Tryz.prog.types.size):=kids_rows (by kernel_rfl) (by kernel_rfl)
theorem the_full: ∀t e,t<Tryz.prog.types.size->Tryz.prog.underlying t=some (.slice e)->0<Tryz.prog.cellsOf e:=slices_full_of Tryz.prog (by kernel_rfl)
theorem the_knob:ownKnob Tryz.prog.godebug=none:=by kernel_rfl
theorem bulk_le {H:Type} {l:List (DataW H)} (hk:Rows.uptoSmall H l=true):Rows.uptoBulkAll l<=1048576:=by
 simpa [Rows.uptoSmall] using hk
theorem returns_row {H:Type} {enc:TypeId×Value->H} {a:Assume} {C:Checked} {os:Os} {f:FuncId} {fn:Func} {s:OpenSpec} {F:Stop.Interp} {conds:List PathCond} {apart fresh handsOn again:Bool} {laid:List (String×DataW Unit)}
  (own:ownKnob C.prog.godebug=none) (started:os.Started) (noInit:C.prog.inits.idxOf? f=none) (hfn:C.prog.funcs[f]? =some fn)
  (witness: ∃(w:World) (tape:Tape) (i:Input),w.os=os/\(w.forCall tape i).Shaped C.prog/\i.vars=[]/\Input.okWide C.prog (w.forCall tape i) .any w.heap.size f i/\
   s.preRow enc C.prog fn conds apart laid (w.forCall tape i).memory i.args/\a.holds C.prog (lone (Frame.enter C.prog f i.args .normal) [] (w.forCall tape i)))
  (contract: ∀(W:World) (base:Nat) (args:Array Value) (ds gs:List (DataW H)) (before:List MemPlace),
   (∀(j:Nat) t v,fn.params[j]? =some t->args[j]? =some v->Value.okWide C.prog W .any base t v)->
   DataW.Whole enc C.prog fn.params.toList s.vars apart W args.toList ds gs before->
   (∀k,s.cond=some k->k H (ds++gs)=true)->laidMetH C.prog laid W->
   Calls C.prog f args W fun e W'=> ∃v,e= .returned v/\(s.at F).post enc C.prog fn apart fresh handsOn again W args v W'):
  ReturnsInHanded a C os f .any (s.preRow enc C.prog fn conds apart laid) ((s.at F).post enc C.prog fn apart fresh handsOn again):=by
 refine returnsInHanded_of_calls own started noInit witness ?_
 intro w tape i _ _ _ hok hpre hholds
 obtain ⟨_,_,_,fn',hfn',_,_,_,_,hval⟩:=hok
 have e:fn'=fn:=Option.some.inj (hfn'.symm.trans hfn)
 subst e
 obtain ⟨⟨hp,hl⟩,_⟩:=hpre
 obtain ⟨ds,gs,before,hw,hc,hkk⟩:=OpenSpec.pre_parts hp
 have hw':=DataW.Whole.of_heap (w':=w.forCall tape i) (by rfl) hw
 refine (contract (w.forCall tape i) w.heap.size i.args ds gs before hval hw' hkk (hl.of_heap (by rfl))).mono fun e W' ⟨v,he,hp⟩=> ?_
 subst he
 exact ChangeSpec.post_blind hp
def qqA:List (String×DataW Unit):=Rows.patchDecodeUptoRow.laid
theorem door_met (os:Os) (args:Array Value):laidMetH Tryz.prog qqA ((World.doorLaid Tryz.prog 400 os).forCall (fun _ _=>0) ⟨#[],args,[]⟩).memory:=
 laidMetH_of_parts3 (fuel:=8) (laidMet_of_run' 8 (by kernel_rfl) (by kernel_rfl)) (by kernel_rfl) (by kernel_rfl)
theorem gPow:Tryz.prog.globalNamed "internal/strconv.uint64pow10" =some 3:=by kernel_rfl
theorem gRng:Tryz.prog.globalNamed "strconv.ErrRange" =some 2:=by kernel_rfl
theorem tPow:(Tryz.prog.globals[3]?).map (·.type)=some 255:=by kernel_rfl
theorem tRng:(Tryz.prog.globals[2]?).map (·.type)=some 176:=by kernel_rfl
theorem WO {P:Program} {w:World} {n:String} {g:Nat} {cs:Array Value} (hg:P.globalNamed n=some g) (h:w.var? P n=some cs): ∃E fr,w.heap[g]? =some (.cells cs E fr):=by
 simp only [World.var?,hg,Option.bind_some] at h
 split at h
 . rename_i c E fr e
   simp only [Option.some.injEq] at h
   subst h
   exact ⟨_,_,e⟩
 . cases h
theorem laid_rd {W:World} (h:laidMetH Tryz.prog qqA W):LaidG (RdB W):=by
 rw [MakeChecks.laidMetH_plain _ _ _ (by kernel_rfl)] at h
 obtain ⟨ps,⟨_,_,_,_,_,_,_,_,_,_,⟨_,_,_,_,_,_,_,_,_,_,⟨g2,t2,cs2,f2,p2,q2,hg2,ht2,hv2,hd2,⟨g3,t3,cs3,f3,p3,q3,hg3,ht3,hv3,hd3,_⟩,_⟩,_⟩,_⟩,_,_⟩:=h
 obtain rfl:=Option.some.inj (gPow.symm.trans hg2)
 obtain rfl:=Option.some.inj (gRng.symm.trans hg3)
 obtain rfl:=Option.some.inj (tPow.symm.trans ht2)
 obtain rfl:=Option.some.inj (tRng.symm.trans ht3)
 obtain ⟨E2,fr2,b2⟩:=WO hg2 hv2
 obtain ⟨E3,fr3,b3⟩:=WO hg3 hv3
 refine ⟨?_, ?_⟩
 . obtain ⟨xs,m,rfl,hx1,hlen,hn,hel⟩:=DataW.trod_array Tryz.underlying255 hd2
   have c1:Tryz.prog.cellsOf 137=1:=by kernel_rfl
   have c2:Tryz.prog.cellsOf 255=20:=by kernel_rfl
   rw [c2] at hlen
   simp only [Prod.mk.injEq] at hx1
   have hl:(.agg (xs.map (·.1)):DataW Unit)= .agg ((List.range 20).map fun i=> .lit (.int .u64 ((10^i:Nat):Int))):=hx1.1.symm.trans (by kernel_rfl)
   injection hl with hl
   have hsz:cs2.size=20:=by simpa using hlen
   have key: ∀j,j<20->cs2[j]? =some (.int .u64 ((10^j:Nat):Int)):=fun j hj=>by
    have h1:=hel j hj
    rw [c1,Nat.mul_one] at h1
    obtain ⟨y,hy⟩: ∃y,xs[j]? =some y:=⟨xs[j],List.getElem?_eq_getElem (by omega)⟩
    rw [hy] at h1
    obtain ⟨n,e1,e2,_⟩:=DataW.trod_int Tryz.underlying137 h1
    have h2:=congrArg (·[j]?) hl
    simp only [List.getElem?_map,hy,Option.map_some,e2,List.getElem?_range hj] at h2
    simp only [Option.some.injEq,DataW.lit.injEq,Lit.int.injEq,true_and] at h2
    subst h2
    have h3:=congrArg (·[0]?) e1
    simp only [List.getElem?_take,List.getElem?_drop,Nat.add_zero,List.getElem?_cons_zero] at h3
    simpa using h3
   exact ⟨.mk 3 Qw cs2 E2 fr2 b2 (fun n h=>by have:=congrArg List.length h;simp [Qw] at this) (by simp [Qw,hsz]) (fun j u x hu hx _=>by
    have hj:j<20:=by have:=(List.getElem?_eq_some_iff.1 hu).1;simpa [Qw] using this
    rw [key j hj] at hx
    simp [Qw,hj] at hu hx
    subst hu;subst hx
    exact .int _ _), .ex 3 20 cs2 E2 fr2 b2 hsz (by decide)⟩
 . obtain ⟨_,u,v,e,_⟩:=iface_of_trod Tryz.underlying176 hd3
   obtain ⟨l⟩:=cs3
   simp only at e
   subst e
   exact ⟨u,v, .mk 2 _ _ E3 fr3 b3 (fun n h=>by simp at h) (by simp) (fun j t x hu hx _=>by
    match j,hu,hx with
    | 0,hu,hx=>simp at hu hx;subst hu;subst hx;exact .cst _ rfl
    | j+1,hu,hx=>simp at hu)⟩
theorem door_shaped (os:Os) (args:Array Value):((World.doorLaid Tryz.prog 400 os).forCall (fun _ _=>0) ⟨#[],args,[]⟩).Shaped Tryz.prog:=
 World.shaped_of_RefB (by kernel_rfl) (by kernel_rfl)
theorem witness_row {H:Type} {enc:TypeId×Value->H} {os:Os} {f:FuncId} {fn:Func} {s:OpenSpec} {apart:Bool} (args:Array Value)
  (hok:Input.okWideB Tryz.prog ((World.doorLaid Tryz.prog 400 os).forCall (fun _ _=>0) ⟨#[],args,[]⟩) f ⟨#[],args,[]⟩=true)
  {x:List (DataW H)×List (DataW H)×List MemPlace} (hx:DataW.whole enc Tryz.prog ((World.doorLaid Tryz.prog 400 os).forCall (fun _ _=>0) ⟨#[],args,[]⟩).memory fn.params.toList s.vars apart args.toList 12=some x)
  (hkk: ∀k,s.cond=some k->k H (x.1++x.2.1)=true)
  (hsz:s.bare.sizedB enc Tryz.prog fn apart ((World.doorLaid Tryz.prog 400 os).forCall (fun _ _=>0) ⟨#[],args,[]⟩).memory args 12=true):
  ∃(w:World) (tape:Tape) (i:Input),w.os=os/\(w.forCall tape i).Shaped Tryz.prog/\i.vars=[]/\Input.okWide Tryz.prog (w.forCall tape i) .any w.heap.size f i/\
   s.preRow enc Tryz.prog fn [] apart qqA (w.forCall tape i).memory i.args/\({}:Assume).holds Tryz.prog (lone (Frame.enter Tryz.prog f i.args .normal) [] (w.forCall tape i)):=
 ⟨World.doorLaid Tryz.prog 400 os,fun _ _=>0,⟨#[],args,[]⟩,rfl,door_shaped os args,(Input.okWide_of_okWideB (base:=0) hok).1,(Input.okWide_of_okWideB hok).2,OpenSpec.preRow_of_cond 12 hx rfl hkk hsz (door_met os args),by
  simp only [Assume.holds]
  exact ⟨by simp,by simp,fun _=>Modest.zero,by simp,by simp⟩⟩
end Go.Proofs.YtbglndogddddoaaGreatDoor
