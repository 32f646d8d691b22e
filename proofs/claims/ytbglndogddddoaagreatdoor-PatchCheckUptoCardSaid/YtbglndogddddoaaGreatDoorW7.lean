import Derived.Shelf.SlSortCmp.WholeK
import Derived.Shelf.RegionOpenPlain
import Derived.WalkKit
import Derived.Lib.Walk
import Derived.Lib.Bytealg
import Derived.Lib.BytesEntry
import Derived.BigCall
import Derived.BigGuard
import Derived.Deep.Draws
import Derived.Deep.QuietTactic
import Derived.BigQuiet
import Derived.Shelf.SlSortCmp.NoneTotal
import Derived.Test.YtbglndogddddoaaGreatDoorCards
import Derived.LaidLaws
import Derived.LaidHandle
import Derived.MakeChecks
import Derived.LaidMore
import Derived.OpenShut
import Derived.ProofKit
import Derived.Stop.Joined
import Derived.JoinedCond
import Derived.Test.YtbglndogddddoaaGreatDoorW6
set_option linter.unusedVariables false
set_option linter.unusedSimpArgs false
set_option linter.unusedSectionVars false
namespace Go.Proofs.YtbglndogddddoaaGreatDoor
open Go.RowKit
attribute [local irreducible] qJ qh
set_option maxRecDepth 100000
def H1033004:List (Nat×Hint):=[]
def J1033004:List (Nat×Hint):=[]
abbrev yz:List Sh:=[.leaf, .pt 0 0]
abbrev xd:List Lf:=[.str, .int .u32, .int .u32, .int .u32, .int .u32, .int .u32, .int .u32, .int .u32, .int .u32]
abbrev Zm:List ObSh:=[.cells [.leaf, .leaf, .leaf, .leaf, .leaf, .leaf, .leaf, .leaf]]
def Vi (g:prodL xd) (K:Kn):Prop:=
 sp66.pre (g.2.1,g.2.2.1,g.2.2.2.1,g.2.2.2.2.1,g.2.2.2.2.2.1,g.2.2.2.2.2.2.1,g.2.2.2.2.2.2.2.1,g.2.2.2.2.2.2.2.2.1,g.1,())/\
 K (.bool true) [some (.cells [.int .u32 ((qt [g.2.1,g.2.2.1,g.2.2.2.1,g.2.2.2.2.1,g.2.2.2.2.2.1,g.2.2.2.2.2.2.1,g.2.2.2.2.2.2.2.1,g.2.2.2.2.2.2.2.2.1] g.1).getD 0 0), .int .u32 ((qt [g.2.1,g.2.2.1,g.2.2.2.1,g.2.2.2.2.1,g.2.2.2.2.2.1,g.2.2.2.2.2.2.1,g.2.2.2.2.2.2.2.1,g.2.2.2.2.2.2.2.2.1] g.1).getD 1 0), .int .u32 ((qt [g.2.1,g.2.2.1,g.2.2.2.1,g.2.2.2.2.1,g.2.2.2.2.2.1,g.2.2.2.2.2.2.1,g.2.2.2.2.2.2.2.1,g.2.2.2.2.2.2.2.2.1] g.1).getD 2 0), .int .u32 ((qt [g.2.1,g.2.2.1,g.2.2.2.1,g.2.2.2.2.1,g.2.2.2.2.2.1,g.2.2.2.2.2.2.1,g.2.2.2.2.2.2.2.1,g.2.2.2.2.2.2.2.2.1] g.1).getD 3 0), .int .u32 ((qt [g.2.1,g.2.2.1,g.2.2.2.1,g.2.2.2.2.1,g.2.2.2.2.2.1,g.2.2.2.2.2.2.1,g.2.2.2.2.2.2.2.1,g.2.2.2.2.2.2.2.2.1] g.1).getD 4 0), .int .u32 ((qt [g.2.1,g.2.2.1,g.2.2.2.1,g.2.2.2.2.1,g.2.2.2.2.2.1,g.2.2.2.2.2.2.1,g.2.2.2.2.2.2.2.1,g.2.2.2.2.2.2.2.2.1] g.1).getD 5 0), .int .u32 ((qt [g.2.1,g.2.2.1,g.2.2.2.1,g.2.2.2.2.1,g.2.2.2.2.2.1,g.2.2.2.2.2.2.1,g.2.2.2.2.2.2.2.1,g.2.2.2.2.2.2.2.2.1] g.1).getD 6 0), .int .u32 ((qt [g.2.1,g.2.2.1,g.2.2.2.1,g.2.2.2.2.1,g.2.2.2.2.2.1,g.2.2.2.2.2.2.1,g.2.2.2.2.2.2.2.1,g.2.2.2.2.2.2.2.2.1] g.1).getD 7 0)])]
theorem F1033004_eq (g:prodL xd) (K:Kn):Vi g K=qh D (qk [] [(66,true,sp66)]) (qx []) H1033004 J1033004 (Qb Tryz.prog 1033004) [3] (argsT yz xd g) (qe yz Zm xd g) (settleD (qe yz Zm xd g).length 0 K) 0:=by kernel_rfl
theorem F1033004_ok (g:prodL xd) (K X:Kn) (h:Vi g K):FCalls Tryz.prog 1033004 (argsT yz xd g) (qe yz Zm xd g) K X 0:=
 FCalls.settleD (JS (Γ:=qk [] [(66,true,sp66)]) (mu:=qx []) (H:=H1033004) (J:=J1033004) qW (qX (rs:=[]) (l:=[(66,true,sp66)]) (fun p hp=>by cases hp) (by intro p hp;simp only [List.mem_cons,List.not_mem_nil,or_false] at hp;subst hp;exact sp66_ok)) qj rfl (yi:=⟨33,4,[3]⟩) rfl (by kernel_rfl) (by kernel_rfl) (by kernel_rfl) (by rw [F1033004_eq g K] at h;exact h))
def vd:Raw:=⟨yz,Zm,xd,0,fun g K _=>Vi g K⟩
theorem qza:vd.Ok Tryz.prog 1033004:=fun g K X h=>F1033004_ok g K X h
def H111:List (Nat×Hint):=[(2,⟨[],[(0, .fn 1033004 [] [.pt 0 0]),(1, .leaf),(3, .leaf),(4, .leaf)],[.cells [.leaf, .leaf, .leaf, .leaf, .leaf, .leaf, .leaf, .leaf]],[.pr .str, .int .i64, .int .i64, .int .u32, .int .u32, .int .u32, .int .u32, .int .u32, .int .u32, .int .u32, .int .u32]⟩),(6,⟨[((5,[]),none)],[(0, .fn 1033004 [] [.pt 0 0]),(1, .leaf),(5, .oa .u8 1)],[.cells [.leaf, .leaf, .leaf, .leaf, .leaf, .leaf, .leaf, .leaf], .arr .u8],[.pr .str, .int .u32, .int .u32, .int .u32, .int .u32, .int .u32, .int .u32, .int .u32, .int .u32, .sl .u8]⟩),(9,⟨[((5,[]),none)],[(0, .fn 1033004 [] [.pt 0 0]),(1, .leaf),(5, .oa .u8 1),(6, .leaf)],[.cells [.leaf, .leaf, .leaf, .leaf, .leaf, .leaf, .leaf, .leaf], .arr .u8],[.pr .str, .int .i64, .int .u32, .int .u32, .int .u32, .int .u32, .int .u32, .int .u32, .int .u32, .int .u32, .sl .u8]⟩),(13,⟨[((5,[]),none)],[(0, .fn 1033004 [] [.pt 0 0]),(5, .oa .u8 1),(7, .leaf)],[.cells [.leaf, .leaf, .leaf, .leaf, .leaf, .leaf, .leaf, .leaf], .arr .u8],[.int .i64, .int .u32, .int .u32, .int .u32, .int .u32, .int .u32, .int .u32, .int .u32, .int .u32, .sl .u8]⟩)]
def J111:List (Nat×Hint):=[]
abbrev S111:List Sh:=[.fn 1033004 [] [.pt 0 0], .leaf]
abbrev qzV:List Lf:=[.pr .str, .int .u32, .int .u32, .int .u32, .int .u32, .int .u32, .int .u32, .int .u32, .int .u32]
abbrev O111:List ObSh:=[.cells [.leaf, .leaf, .leaf, .leaf, .leaf, .leaf, .leaf, .leaf]]
def qzx (K:Kn) (W9:prodL [.int .i64, .int .u32, .int .u32, .int .u32, .int .u32, .int .u32, .int .u32, .int .u32, .int .u32, .sl .u8]->Prop) (i_8 o01_8 o02_8 o03_8 o04_8 o05_8 o06_8 o07_8 o08_8:Int) (last_8:List Int):Prop:=
 bif decide (i_8< (last_8.length:Int))then (
  (0:Int)<=i_8/\i_8<=IntKind.i64.wrap (i_8+64)/\IntKind.i64.wrap (i_8+64)<=(last_8.length:Int)/\
 let g10:prodL [.str, .int .u32, .int .u32, .int .u32, .int .u32, .int .u32, .int .u32, .int .u32, .int .u32]:=(jJ ((last_8.drop i_8.toNat).take ((IntKind.i64.wrap (i_8+64)).toNat-i_8.toNat)),o01_8,o02_8,o03_8,o04_8,o05_8,o06_8,o07_8,o08_8,());
 sp66.pre (g10.2.1,g10.2.2.1,g10.2.2.2.1,g10.2.2.2.2.1,g10.2.2.2.2.2.1,g10.2.2.2.2.2.2.1,g10.2.2.2.2.2.2.2.1,g10.2.2.2.2.2.2.2.2.1,g10.1,())/\
 W9 (IntKind.i64.wrap (i_8+64),(qt [g10.2.1,g10.2.2.1,g10.2.2.2.1,g10.2.2.2.2.1,g10.2.2.2.2.2.1,g10.2.2.2.2.2.2.1,g10.2.2.2.2.2.2.2.1,g10.2.2.2.2.2.2.2.2.1] g10.1).getD 0 0,(qt [g10.2.1,g10.2.2.1,g10.2.2.2.1,g10.2.2.2.2.1,g10.2.2.2.2.2.1,g10.2.2.2.2.2.2.1,g10.2.2.2.2.2.2.2.1,g10.2.2.2.2.2.2.2.2.1] g10.1).getD 1 0,(qt [g10.2.1,g10.2.2.1,g10.2.2.2.1,g10.2.2.2.2.1,g10.2.2.2.2.2.1,g10.2.2.2.2.2.2.1,g10.2.2.2.2.2.2.2.1,g10.2.2.2.2.2.2.2.2.1] g10.1).getD 2 0,(qt [g10.2.1,g10.2.2.1,g10.2.2.2.1,g10.2.2.2.2.1,g10.2.2.2.2.2.1,g10.2.2.2.2.2.2.1,g10.2.2.2.2.2.2.2.1,g10.2.2.2.2.2.2.2.2.1] g10.1).getD 3 0,(qt [g10.2.1,g10.2.2.1,g10.2.2.2.1,g10.2.2.2.2.1,g10.2.2.2.2.2.1,g10.2.2.2.2.2.2.1,g10.2.2.2.2.2.2.2.1,g10.2.2.2.2.2.2.2.2.1] g10.1).getD 4 0,(qt [g10.2.1,g10.2.2.1,g10.2.2.2.1,g10.2.2.2.2.1,g10.2.2.2.2.2.1,g10.2.2.2.2.2.2.1,g10.2.2.2.2.2.2.2.1,g10.2.2.2.2.2.2.2.2.1] g10.1).getD 5 0,(qt [g10.2.1,g10.2.2.1,g10.2.2.2.1,g10.2.2.2.2.1,g10.2.2.2.2.2.1,g10.2.2.2.2.2.2.1,g10.2.2.2.2.2.2.2.1,g10.2.2.2.2.2.2.2.2.1] g10.1).getD 6 0,(qt [g10.2.1,g10.2.2.1,g10.2.2.2.1,g10.2.2.2.2.1,g10.2.2.2.2.2.1,g10.2.2.2.2.2.2.1,g10.2.2.2.2.2.2.2.1,g10.2.2.2.2.2.2.2.2.1] g10.1).getD 7 0,last_8,()))
 else (
  K (.tu []) [some (.cells [.int .u32 o01_8, .int .u32 o02_8, .int .u32 o03_8, .int .u32 o04_8, .int .u32 o05_8, .int .u32 o06_8, .int .u32 o07_8, .int .u32 o08_8])])
def Vw (K:Kn) (g:prodL [.int .i64, .int .u32, .int .u32, .int .u32, .int .u32, .int .u32, .int .u32, .int .u32, .int .u32, .sl .u8]):Prop:=
 qQ (γ:=prodL [.int .i64, .int .u32, .int .u32, .int .u32, .int .u32, .int .u32, .int .u32, .int .u32, .int .u32, .sl .u8]) (fun V y=>qzx K V y.1 y.2.1 y.2.2.1 y.2.2.2.1 y.2.2.2.2.1 y.2.2.2.2.2.1 y.2.2.2.2.2.2.1 y.2.2.2.2.2.2.2.1 y.2.2.2.2.2.2.2.2.1 y.2.2.2.2.2.2.2.2.2.1) g
def JW (K:Kn) (W7:prodL [.pr .str, .int .i64, .int .u32, .int .u32, .int .u32, .int .u32, .int .u32, .int .u32, .int .u32, .int .u32, .sl .u8]->Prop) (t_6:ByteArray) (i_6 o01_6 o02_6 o03_6 o04_6 o05_6 o06_6 o07_6 o08_6:Int) (last_6:List Int):Prop:=
 bif decide (0<=i_6)then (
  (0:Int)<=i_6/\
 qn (last_6.length+[IntKind.u8.wrap (Int.fdiv (IntKind.u64.wrap ((IntKind.u64.wrap (t_6.size:Int))*8)) (2^(min i_6.toNat IntKind.u64.bits)))].length) 1 (
 W7 (t_6,IntKind.i64.wrap (i_6-8),o01_6,o02_6,o03_6,o04_6,o05_6,o06_6,o07_6,o08_6,last_6++[IntKind.u8.wrap (Int.fdiv (IntKind.u64.wrap ((IntKind.u64.wrap (t_6.size:Int))*8)) (2^(min i_6.toNat IntKind.u64.bits)))],())))
 else (
  Vw K (0,o01_6,o02_6,o03_6,o04_6,o05_6,o06_6,o07_6,o08_6,last_6,()))
def VJ (K:Kn) (g:prodL [.pr .str, .int .i64, .int .u32, .int .u32, .int .u32, .int .u32, .int .u32, .int .u32, .int .u32, .int .u32, .sl .u8]):Prop:=
 qQ (γ:=prodL [.pr .str, .int .i64, .int .u32, .int .u32, .int .u32, .int .u32, .int .u32, .int .u32, .int .u32, .int .u32, .sl .u8]) (fun V y=>JW K V y.1 y.2.1 y.2.2.1 y.2.2.2.1 y.2.2.2.2.1 y.2.2.2.2.2.1 y.2.2.2.2.2.2.1 y.2.2.2.2.2.2.2.1 y.2.2.2.2.2.2.2.2.1 y.2.2.2.2.2.2.2.2.2.1 y.2.2.2.2.2.2.2.2.2.2.1) g
def qqF (K:Kn) (W5:prodL [.pr .str, .int .u32, .int .u32, .int .u32, .int .u32, .int .u32, .int .u32, .int .u32, .int .u32, .sl .u8]->Prop) (t_4:ByteArray) (o01_4 o02_4 o03_4 o04_4 o05_4 o06_4 o07_4 o08_4:Int) (last_4:List Int):Prop:=
 ¬64=(0:Int)/\
 bif !decide (Int.tmod (last_4.length:Int) 64=56)then (
  qn (last_4.length+[0].length) 1 (
 W5 (t_4,o01_4,o02_4,o03_4,o04_4,o05_4,o06_4,o07_4,o08_4,last_4++[0],())))
 else (
  VJ K (t_4,56,o01_4,o02_4,o03_4,o04_4,o05_4,o06_4,o07_4,o08_4,last_4,()))
def qqa (K:Kn) (g:prodL [.pr .str, .int .u32, .int .u32, .int .u32, .int .u32, .int .u32, .int .u32, .int .u32, .int .u32, .sl .u8]):Prop:=
 qQ (γ:=prodL [.pr .str, .int .u32, .int .u32, .int .u32, .int .u32, .int .u32, .int .u32, .int .u32, .int .u32, .sl .u8]) (fun V y=>qqF K V y.1 y.2.1 y.2.2.1 y.2.2.2.1 y.2.2.2.2.1 y.2.2.2.2.2.1 y.2.2.2.2.2.2.1 y.2.2.2.2.2.2.2.1 y.2.2.2.2.2.2.2.2.1 y.2.2.2.2.2.2.2.2.2.1) g
def F111_B2 (K:Kn) (W2:prodL [.pr .str, .int .i64, .int .i64, .int .u32, .int .u32, .int .u32, .int .u32, .int .u32, .int .u32, .int .u32, .int .u32]->Prop) (t_1:ByteArray) (whole_1 i_1 o01_1 o02_1 o03_1 o04_1 o05_1 o06_1 o07_1 o08_1:Int):Prop:=
 bif decide (i_1<whole_1)then (
  (0:Int)<=i_1/\i_1<=IntKind.i64.wrap (i_1+64)/\IntKind.i64.wrap (i_1+64)<=(t_1.size:Int)/\
 let g3:prodL [.str, .int .u32, .int .u32, .int .u32, .int .u32, .int .u32, .int .u32, .int .u32, .int .u32]:=(t_1.extract i_1.toNat (IntKind.i64.wrap (i_1+64)).toNat,o01_1,o02_1,o03_1,o04_1,o05_1,o06_1,o07_1,o08_1,());
 sp66.pre (g3.2.1,g3.2.2.1,g3.2.2.2.1,g3.2.2.2.2.1,g3.2.2.2.2.2.1,g3.2.2.2.2.2.2.1,g3.2.2.2.2.2.2.2.1,g3.2.2.2.2.2.2.2.2.1,g3.1,())/\
 W2 (t_1,whole_1,IntKind.i64.wrap (i_1+64),(qt [g3.2.1,g3.2.2.1,g3.2.2.2.1,g3.2.2.2.2.1,g3.2.2.2.2.2.1,g3.2.2.2.2.2.2.1,g3.2.2.2.2.2.2.2.1,g3.2.2.2.2.2.2.2.2.1] g3.1).getD 0 0,(qt [g3.2.1,g3.2.2.1,g3.2.2.2.1,g3.2.2.2.2.1,g3.2.2.2.2.2.1,g3.2.2.2.2.2.2.1,g3.2.2.2.2.2.2.2.1,g3.2.2.2.2.2.2.2.2.1] g3.1).getD 1 0,(qt [g3.2.1,g3.2.2.1,g3.2.2.2.1,g3.2.2.2.2.1,g3.2.2.2.2.2.1,g3.2.2.2.2.2.2.1,g3.2.2.2.2.2.2.2.1,g3.2.2.2.2.2.2.2.2.1] g3.1).getD 2 0,(qt [g3.2.1,g3.2.2.1,g3.2.2.2.1,g3.2.2.2.2.1,g3.2.2.2.2.2.1,g3.2.2.2.2.2.2.1,g3.2.2.2.2.2.2.2.1,g3.2.2.2.2.2.2.2.2.1] g3.1).getD 3 0,(qt [g3.2.1,g3.2.2.1,g3.2.2.2.1,g3.2.2.2.2.1,g3.2.2.2.2.2.1,g3.2.2.2.2.2.2.1,g3.2.2.2.2.2.2.2.1,g3.2.2.2.2.2.2.2.2.1] g3.1).getD 4 0,(qt [g3.2.1,g3.2.2.1,g3.2.2.2.1,g3.2.2.2.2.1,g3.2.2.2.2.2.1,g3.2.2.2.2.2.2.1,g3.2.2.2.2.2.2.2.1,g3.2.2.2.2.2.2.2.2.1] g3.1).getD 5 0,(qt [g3.2.1,g3.2.2.1,g3.2.2.2.1,g3.2.2.2.2.1,g3.2.2.2.2.2.1,g3.2.2.2.2.2.2.1,g3.2.2.2.2.2.2.2.1,g3.2.2.2.2.2.2.2.2.1] g3.1).getD 6 0,(qt [g3.2.1,g3.2.2.1,g3.2.2.2.1,g3.2.2.2.2.1,g3.2.2.2.2.2.1,g3.2.2.2.2.2.2.1,g3.2.2.2.2.2.2.2.1,g3.2.2.2.2.2.2.2.2.1] g3.1).getD 7 0,()))
 else (
  (0:Int)<=whole_1/\whole_1<=(t_1.size:Int)/\(t_1.size:Int)<=(t_1.size:Int)/\
 qn (t_1.extract whole_1.toNat (t_1.size:Int).toNat).size 1 (
 qn ((zV (t_1.extract whole_1.toNat (t_1.size:Int).toNat)).length+[128].length) 1 (
 qqa K (t_1,o01_1,o02_1,o03_1,o04_1,o05_1,o06_1,o07_1,o08_1,(zV (t_1.extract whole_1.toNat (t_1.size:Int).toNat))++[128],()))))
def qqM (K:Kn) (g:prodL [.pr .str, .int .i64, .int .i64, .int .u32, .int .u32, .int .u32, .int .u32, .int .u32, .int .u32, .int .u32, .int .u32]):Prop:=
 qQ (γ:=prodL [.pr .str, .int .i64, .int .i64, .int .u32, .int .u32, .int .u32, .int .u32, .int .u32, .int .u32, .int .u32, .int .u32]) (fun V y=>F111_B2 K V y.1 y.2.1 y.2.2.1 y.2.2.2.1 y.2.2.2.2.1 y.2.2.2.2.2.1 y.2.2.2.2.2.2.1 y.2.2.2.2.2.2.2.1 y.2.2.2.2.2.2.2.2.1 y.2.2.2.2.2.2.2.2.2.1 y.2.2.2.2.2.2.2.2.2.2.1) g
def F111 (g:prodL qzV) (K:Kn):Prop:=
 ¬64=(0:Int)/\
 qqM K (g.1,IntKind.i64.wrap ((IntKind.i64.wrap (Int.tdiv (g.1.size:Int) 64))*64),0,g.2.1,g.2.2.1,g.2.2.2.1,g.2.2.2.2.1,g.2.2.2.2.2.1,g.2.2.2.2.2.2.1,g.2.2.2.2.2.2.2.1,g.2.2.2.2.2.2.2.2.1,())
theorem F111_eq (g:prodL qzV) (K X:Kn):F111 g K=qJ D (qk [(1033004,vd)] []) (qx [(1033004,vd)]) H111 J111 67 [] (qz Tryz.f111) (argsT S111 qzV g) (qe S111 O111 qzV g) (settleD (qe S111 O111 qzV g).length 0 K) X 0:=by kernel_rfl
theorem F111_ok (g:prodL qzV) (K X:Kn) (h:F111 g K):FCalls Tryz.prog 111 (argsT S111 qzV g) (qe S111 O111 qzV g) K X 0:=
 FCalls.settleD (qq (Γ:=qk [(1033004,vd)] []) (mu:=qx [(1033004,vd)]) (H:=H111) (J:=J111) qW (qX (rs:=[(1033004,vd)]) (l:=[]) (by intro p hp;simp only [List.mem_cons,List.not_mem_nil,or_false] at hp;subst hp;exact qza) (fun p hp=>by cases hp)) qj rfl Tryz.func111 (c:=qz Tryz.f111) rfl Tryz.ntmps111 (rs:=[]) Tryz.results111 (by unfold qv;rw [Tryz.func111];kernel_rfl) (Nat.le_of_ble_eq_true (by kernel_rfl)) (X:=X) (c0:=0) (Eq.mp (F111_eq g K X) h))
end Go.Proofs.YtbglndogddddoaaGreatDoor
namespace Go.Proofs.YtbglndogddddoaaGreatDoor
open Go.RowKit
set_option maxRecDepth 100000
def vA (st:List Int) (l:List ByteArray) (n:Nat):List Int:=(l.take n).foldl qt st
theorem vA_zero (st:List Int) (l:List ByteArray):vA st l 0=st:=by simp [vA]
theorem vA_succ (st:List Int) {l:List ByteArray} {n:Nat} (h:n<l.length):vA st l (n+1)=qt (vA st l n) l[n]:=by
 unfold vA
 rw [zI h,List.foldl_append];rfl
theorem vA_len {st:List Int} (h:st.length=8) (l:List ByteArray) (n:Nat):(vA st l n).length=8:=foldl_len h
theorem vA_all (st:List Int) (l:List ByteArray):vA st l l.length=l.foldl qt st:=by unfold vA;rw [List.take_length]
theorem bStr_size (l:List Int):(jJ l).size=l.length:=by
 show (l.map fun n=>UInt8.ofNat n.toNat).toArray.size=_
 simp
theorem strB_cut (s:ByteArray) (a b:Nat) (hb:b<=s.size):(zV (s.extract a b)).length=b-a:=by
 rw [xb,ByteArray.size_extract];omega
theorem endL_len (s:ByteArray):(XC s).length=s.size%64+1:=by
 unfold XC
 rw [List.length_append,strB_cut _ _ _ (Nat.le_refl _),List.length_singleton];omega
theorem padL_len (s:ByteArray):(padL s).length%64=56/\(padL s).length<=130:=by
 unfold padL
 rw [List.length_append,List.length_replicate,endL_len]
 unfold padN
 omega
theorem lastL_len (s:ByteArray):(WP s).length%64=0/\(WP s).length<=138:=by
 have:=padL_len s
 unfold WP
 rw [List.length_append,List.length_map,List.length_range]
 omega
theorem F111_L9_is {x0 x1 x2 x3 x4 x5 x6 x7:Int} {last:List Int} {K:Kn} (h1:last.length%64=0) (h2:last.length<=1000) (h:K (.tu []) [some (.cells [.int .u32 ((((List.range (last.length / 64)).map (ym last)).foldl qt [x0,x1,x2,x3,x4,x5,x6,x7]).getD 0 0), .int .u32 ((((List.range (last.length / 64)).map (ym last)).foldl qt [x0,x1,x2,x3,x4,x5,x6,x7]).getD 1 0), .int .u32 ((((List.range (last.length / 64)).map (ym last)).foldl qt [x0,x1,x2,x3,x4,x5,x6,x7]).getD 2 0), .int .u32 ((((List.range (last.length / 64)).map (ym last)).foldl qt [x0,x1,x2,x3,x4,x5,x6,x7]).getD 3 0), .int .u32 ((((List.range (last.length / 64)).map (ym last)).foldl qt [x0,x1,x2,x3,x4,x5,x6,x7]).getD 4 0), .int .u32 ((((List.range (last.length / 64)).map (ym last)).foldl qt [x0,x1,x2,x3,x4,x5,x6,x7]).getD 5 0), .int .u32 ((((List.range (last.length / 64)).map (ym last)).foldl qt [x0,x1,x2,x3,x4,x5,x6,x7]).getD 6 0), .int .u32 ((((List.range (last.length / 64)).map (ym last)).foldl qt [x0,x1,x2,x3,x4,x5,x6,x7]).getD 7 0)])]):Vw K (0,x0,x1,x2,x3,x4,x5,x6,x7,last,()):=by
 have hN:((List.range (last.length / 64)).map (ym last)).length=last.length / 64:=by simp
 have hg: ∀n (hn:n< ((List.range (last.length / 64)).map (ym last)).length),((List.range (last.length / 64)).map (ym last))[n]=ym last n:=fun n hn=>by simp
 rw [<- vA_all,hN] at h
 have hz:=vA_zero [x0,x1,x2,x3,x4,x5,x6,x7] ((List.range (last.length / 64)).map (ym last))
 have hs: ∀n,n<last.length / 64->vA [x0,x1,x2,x3,x4,x5,x6,x7] ((List.range (last.length / 64)).map (ym last)) (n+1)=qt (vA [x0,x1,x2,x3,x4,x5,x6,x7] ((List.range (last.length / 64)).map (ym last)) n) (ym last n):=fun n hn=>by
  rw [vA_succ _ (by rw [hN];exact hn),hg]
 have hl:=vA_len (st:=[x0,x1,x2,x3,x4,x5,x6,x7]) rfl ((List.range (last.length / 64)).map (ym last))
 generalize vA [x0,x1,x2,x3,x4,x5,x6,x7] ((List.range (last.length / 64)).map (ym last))=v at h hz hs hl
 unfold Vw
 refine qQ.countTo (last.length / 64) (fun n=>(((64*n:Nat):Int),(v n).getD 0 0,(v n).getD 1 0,(v n).getD 2 0,(v n).getD 3 0,(v n).getD 4 0,(v n).getD 5 0,(v n).getD 6 0,(v n).getD 7 0,last,())) (fun _=>True) (by rw [hz];rfl) (fun n hn _ W hW=> ?_) trivial
 show qzx K W ((64*n:Nat):Int) ((v n).getD 0 0) ((v n).getD 1 0) ((v n).getD 2 0) ((v n).getD 3 0) ((v n).getD 4 0) ((v n).getD 5 0) ((v n).getD 6 0) ((v n).getD 7 0) last
 unfold qzx
 by_cases hlt:n<last.length / 64
 . rw [decide_eq_true (by omega),cond_true]
   have e:IntKind.i64.wrap (((64*n:Nat):Int)+64)=((64*n+64:Nat):Int):=by rw [wI (by omega)];omega
   have hb:(last.drop ((64*n:Nat):Int).toNat).take (((64*n+64:Nat):Int).toNat- ((64*n:Nat):Int).toNat)=(last.drop (64*n)).take 64:=by
    rw [toN,toN,show 64*n+64-64*n=64 by omega]
   rw [e,hb]
   have hW:=hW hlt trivial
   rw [hs n hlt] at hW
   obtain ⟨a,b,c,d,e,f,g,k,hv⟩:=eight (hl n)
   rw [hv] at hW ⊢
   refine ⟨by omega,by omega,by omega, ?_, ?_⟩
   . show (jJ ((last.drop (64*n)).take 64)).size=64
     rw [bStr_size,List.length_take,List.length_drop];omega
   . exact hW
 . have:n=last.length / 64:=by omega
   subst this
   rw [decide_eq_false (by omega),cond_false]
   exact h
theorem F111_L7_is {s:ByteArray} {x0 x1 x2 x3 x4 x5 x6 x7:Int} {K:Kn} (hs:s.size<=4194304) (h:Vw K (0,x0,x1,x2,x3,x4,x5,x6,x7,WP s,())):VJ K (s,56,x0,x1,x2,x3,x4,x5,x6,x7,padL s,()):=by
 have hp:=padL_len s
 unfold VJ
 refine qQ.mapN 8 (lenB s) (fun n out=>(s,56-8*(n:Int),x0,x1,x2,x3,x4,x5,x6,x7,padL s++out,())) (by rw [List.append_nil];rfl) (fun W n hn out ho hW=> ?_) fun W=> ?_
 . show JW K W s (56-8*(n:Int)) x0 x1 x2 x3 x4 x5 x6 x7 (padL s++out)
   unfold JW
   rw [decide_eq_true (by omega),cond_true]
   refine ⟨by omega,by simp only [List.length_append,List.length_singleton,ho];omega, ?_⟩
   rw [<- List.append_assoc] at hW
   rw [wI (by omega),show (56:Int) - 8*(n:Int) - 8=56-8*((n+1:Nat):Int)by omega]
   exact hW
 . show JW K W s (56-8*((8:Nat):Int)) x0 x1 x2 x3 x4 x5 x6 x7 (WP s)
   unfold JW
   rw [decide_eq_false (by omega),cond_false]
   exact h
theorem F111_L5_is {s:ByteArray} {x0 x1 x2 x3 x4 x5 x6 x7:Int} {K:Kn} (h:VJ K (s,56,x0,x1,x2,x3,x4,x5,x6,x7,padL s,())):qqa K (s,x0,x1,x2,x3,x4,x5,x6,x7,XC s,()):=by
 have he:=endL_len s
 unfold qqa
 refine qQ.countTo (padN (XC s).length) (fun n=>(s,x0,x1,x2,x3,x4,x5,x6,x7,XC s++List.replicate n 0,())) (fun _=>True) (by simp) (fun n hn _ W hW=> ?_) trivial
 show qqF K W s x0 x1 x2 x3 x4 x5 x6 x7 (XC s++List.replicate n 0)
 unfold qqF
 refine ⟨by omega, ?_⟩
 have hlen:(XC s++List.replicate n 0).length=s.size%64+1+n:=by rw [List.length_append,List.length_replicate,he]
 rw [hlen,Int.tmod_eq_emod_of_nonneg (Int.natCast_nonneg _)]
 have hp:padN (XC s).length=(120- (s.size%64+1)%64)%64:=by unfold padN;rw [he]
 by_cases hlt:n<padN (XC s).length
 . rw [decide_eq_false (show¬((s.size%64+1+n:Nat):Int)%64=56 by omega),Bool.not_false,cond_true]
   refine ⟨by simp only [List.length_singleton];omega, ?_⟩
   have:=hW hlt trivial
   rw [List.replicate_succ', <- List.append_assoc] at this
   exact this
 . have e:n=padN (XC s).length:=by omega
   rw [decide_eq_true (show ((s.size%64+1+n:Nat):Int)%64=56 by omega),Bool.not_true,cond_false]
   rw [e];exact h
theorem F111_is {s:ByteArray} {x0 x1 x2 x3 x4 x5 x6 x7:Int} {K:Kn} (hsz:s.size<=4194304) (h:K (.tu []) [some (.cells [.int .u32 ((zK [x0,x1,x2,x3,x4,x5,x6,x7] s).getD 0 0), .int .u32 ((zK [x0,x1,x2,x3,x4,x5,x6,x7] s).getD 1 0), .int .u32 ((zK [x0,x1,x2,x3,x4,x5,x6,x7] s).getD 2 0), .int .u32 ((zK [x0,x1,x2,x3,x4,x5,x6,x7] s).getD 3 0), .int .u32 ((zK [x0,x1,x2,x3,x4,x5,x6,x7] s).getD 4 0), .int .u32 ((zK [x0,x1,x2,x3,x4,x5,x6,x7] s).getD 5 0), .int .u32 ((zK [x0,x1,x2,x3,x4,x5,x6,x7] s).getD 6 0), .int .u32 ((zK [x0,x1,x2,x3,x4,x5,x6,x7] s).getD 7 0)])]):F111 (s,x0,x1,x2,x3,x4,x5,x6,x7,()) K:=by
 unfold F111
 refine ⟨by omega, ?_⟩
 have hw:IntKind.i64.wrap (IntKind.i64.wrap (Int.tdiv (s.size:Int) 64)*64)=((s.size / 64*64:Nat):Int):=by
  rw [Int.tdiv_eq_ediv_of_nonneg (Int.natCast_nonneg _),wI (n:=(s.size:Int) / 64) (by omega),wI (by omega)];omega
 show qqM K (s,IntKind.i64.wrap (IntKind.i64.wrap (Int.tdiv (s.size:Int) 64)*64),0,x0,x1,x2,x3,x4,x5,x6,x7,())
 rw [hw]
 unfold zK at h
 rw [List.foldl_append] at h
 have hN:(XD s).length=s.size / 64:=by simp [XD]
 have hg: ∀n (hn:n< (XD s).length),(XD s)[n]=blkW s n:=fun n hn=>by simp [XD]
 rw [<- vA_all [x0,x1,x2,x3,x4,x5,x6,x7] (XD s),hN] at h
 have hz:=vA_zero [x0,x1,x2,x3,x4,x5,x6,x7] (XD s)
 have hs: ∀n,n<s.size / 64->vA [x0,x1,x2,x3,x4,x5,x6,x7] (XD s) (n+1)=qt (vA [x0,x1,x2,x3,x4,x5,x6,x7] (XD s) n) (blkW s n):=fun n hn=>by
  rw [vA_succ _ (by rw [hN];exact hn),hg]
 have hl:=vA_len (st:=[x0,x1,x2,x3,x4,x5,x6,x7]) rfl (XD s)
 generalize vA [x0,x1,x2,x3,x4,x5,x6,x7] (XD s)=v at h hz hs hl
 unfold qqM
 refine qQ.countTo (s.size / 64) (fun n=>(s,((s.size / 64*64:Nat):Int),((64*n:Nat):Int),(v n).getD 0 0,(v n).getD 1 0,(v n).getD 2 0,(v n).getD 3 0,(v n).getD 4 0,(v n).getD 5 0,(v n).getD 6 0,(v n).getD 7 0,())) (fun _=>True) (by rw [hz];rfl) (fun n hn _ W hW=> ?_) trivial
 show F111_B2 K W s ((s.size / 64*64:Nat):Int) ((64*n:Nat):Int) ((v n).getD 0 0) ((v n).getD 1 0) ((v n).getD 2 0) ((v n).getD 3 0) ((v n).getD 4 0) ((v n).getD 5 0) ((v n).getD 6 0) ((v n).getD 7 0)
 unfold F111_B2
 by_cases hlt:n<s.size / 64
 . rw [decide_eq_true (by omega),cond_true]
   have e:IntKind.i64.wrap (((64*n:Nat):Int)+64)=((64*n+64:Nat):Int):=by rw [wI (by omega)];omega
   rw [e,toN,toN]
   have hW:=hW hlt trivial
   rw [hs n hlt] at hW
   obtain ⟨a,b,c,d,e,f,g,k,hv⟩:=eight (hl n)
   rw [hv] at hW ⊢
   refine ⟨by omega,by omega,by omega, ?_, ?_⟩
   . show (s.extract (64*n) (64*n+64)).size=64
     rw [ByteArray.size_extract];omega
   . exact hW
 . have:n=s.size / 64:=by omega
   subst this
   rw [decide_eq_false (by omega),cond_false]
   obtain ⟨a,b,c,d,e,f,g,k,hv⟩:=eight (hl (s.size / 64))
   rw [hv] at h ⊢
   rw [toN,toN]
   have hx:=strB_cut s (s.size / 64*64) s.size (Nat.le_refl _)
   refine ⟨by omega,by omega,by omega,by rw [ByteArray.size_extract];omega,by rw [hx,List.length_singleton];omega, ?_⟩
   have hla:=lastL_len s
   exact F111_L5_is (F111_L7_is hsz (F111_L9_is hla.1 (by omega) h))
def qqV:Raw:=⟨S111,O111,qzV,0,fun g K _=>pre111 g/\K (.tu []) [some (.cells [.int .u32 ((zK [g.2.1,g.2.2.1,g.2.2.2.1,g.2.2.2.2.1,g.2.2.2.2.2.1,g.2.2.2.2.2.2.1,g.2.2.2.2.2.2.2.1,g.2.2.2.2.2.2.2.2.1] g.1).getD 0 0), .int .u32 ((zK [g.2.1,g.2.2.1,g.2.2.2.1,g.2.2.2.2.1,g.2.2.2.2.2.1,g.2.2.2.2.2.2.1,g.2.2.2.2.2.2.2.1,g.2.2.2.2.2.2.2.2.1] g.1).getD 1 0), .int .u32 ((zK [g.2.1,g.2.2.1,g.2.2.2.1,g.2.2.2.2.1,g.2.2.2.2.2.1,g.2.2.2.2.2.2.1,g.2.2.2.2.2.2.2.1,g.2.2.2.2.2.2.2.2.1] g.1).getD 2 0), .int .u32 ((zK [g.2.1,g.2.2.1,g.2.2.2.1,g.2.2.2.2.1,g.2.2.2.2.2.1,g.2.2.2.2.2.2.1,g.2.2.2.2.2.2.2.1,g.2.2.2.2.2.2.2.2.1] g.1).getD 3 0), .int .u32 ((zK [g.2.1,g.2.2.1,g.2.2.2.1,g.2.2.2.2.1,g.2.2.2.2.2.1,g.2.2.2.2.2.2.1,g.2.2.2.2.2.2.2.1,g.2.2.2.2.2.2.2.2.1] g.1).getD 4 0), .int .u32 ((zK [g.2.1,g.2.2.1,g.2.2.2.1,g.2.2.2.2.1,g.2.2.2.2.2.1,g.2.2.2.2.2.2.1,g.2.2.2.2.2.2.2.1,g.2.2.2.2.2.2.2.2.1] g.1).getD 5 0), .int .u32 ((zK [g.2.1,g.2.2.1,g.2.2.2.1,g.2.2.2.2.1,g.2.2.2.2.2.1,g.2.2.2.2.2.2.1,g.2.2.2.2.2.2.2.1,g.2.2.2.2.2.2.2.2.1] g.1).getD 6 0), .int .u32 ((zK [g.2.1,g.2.2.1,g.2.2.2.1,g.2.2.2.2.1,g.2.2.2.2.2.1,g.2.2.2.2.2.2.1,g.2.2.2.2.2.2.2.1,g.2.2.2.2.2.2.2.2.1] g.1).getD 7 0)])]⟩
theorem rw111_ok:qqV.Ok Tryz.prog 111:=fun g K X h=>F111_ok g K X (F111_is h.1 h.2)
end Go.Proofs.YtbglndogddddoaaGreatDoor
namespace Go.Proofs.YtbglndogddddoaaGreatDoor
open Go.RowKit
attribute [local irreducible] qJ qh
set_option maxRecDepth 100000
def H33:List (Nat×Hint):=[(7,⟨[],[],[],[]⟩),(10,⟨[],[],[],[]⟩),(5000010,⟨[],[],[],[]⟩),(9000007,⟨[],[],[],[]⟩)]
def J33:List (Nat×Hint):=[]
abbrev S33:List Sh:=[.leaf]
abbrev L33:List Lf:=[.str]
def F33 (g:prodL L33) (K:Kn):Prop:=
 True/\
 True/\
 pre111 (g.1,1779033703,3144134277,1013904242,2773480762,1359893119,2600822924,528734635,1541459225,())/\
 (0:Int)<=0/\(0:Int).toNat<8/\
 (0:Int)<=24/\
 0<=(0:Int)/\(0:Int).toNat<32/\
 (0:Int)<=16/\
 0<=(1:Int)/\(1:Int).toNat<32/\
 (0:Int)<=8/\
 0<=(2:Int)/\(2:Int).toNat<32/\
 (0:Int)<=0/\
 0<=(3:Int)/\(3:Int).toNat<32/\
 (0:Int)<=1/\(1:Int).toNat<8/\
 (0:Int)<=24/\
 0<=(4:Int)/\(4:Int).toNat<32/\
 (0:Int)<=16/\
 0<=(5:Int)/\(5:Int).toNat<32/\
 (0:Int)<=8/\
 0<=(6:Int)/\(6:Int).toNat<32/\
 (0:Int)<=0/\
 0<=(7:Int)/\(7:Int).toNat<32/\
 (0:Int)<=2/\(2:Int).toNat<8/\
 (0:Int)<=24/\
 0<=(8:Int)/\(8:Int).toNat<32/\
 (0:Int)<=16/\
 0<=(9:Int)/\(9:Int).toNat<32/\
 (0:Int)<=8/\
 0<=(10:Int)/\(10:Int).toNat<32/\
 (0:Int)<=0/\
 0<=(11:Int)/\(11:Int).toNat<32/\
 (0:Int)<=3/\(3:Int).toNat<8/\
 (0:Int)<=24/\
 0<=(12:Int)/\(12:Int).toNat<32/\
 (0:Int)<=16/\
 0<=(13:Int)/\(13:Int).toNat<32/\
 (0:Int)<=8/\
 0<=(14:Int)/\(14:Int).toNat<32/\
 (0:Int)<=0/\
 0<=(15:Int)/\(15:Int).toNat<32/\
 (0:Int)<=4/\(4:Int).toNat<8/\
 (0:Int)<=24/\
 0<=(16:Int)/\(16:Int).toNat<32/\
 (0:Int)<=16/\
 0<=(17:Int)/\(17:Int).toNat<32/\
 (0:Int)<=8/\
 0<=(18:Int)/\(18:Int).toNat<32/\
 (0:Int)<=0/\
 0<=(19:Int)/\(19:Int).toNat<32/\
 (0:Int)<=5/\(5:Int).toNat<8/\
 (0:Int)<=24/\
 0<=(20:Int)/\(20:Int).toNat<32/\
 (0:Int)<=16/\
 0<=(21:Int)/\(21:Int).toNat<32/\
 (0:Int)<=8/\
 0<=(22:Int)/\(22:Int).toNat<32/\
 (0:Int)<=0/\
 0<=(23:Int)/\(23:Int).toNat<32/\
 (0:Int)<=6/\(6:Int).toNat<8/\
 (0:Int)<=24/\
 0<=(24:Int)/\(24:Int).toNat<32/\
 (0:Int)<=16/\
 0<=(25:Int)/\(25:Int).toNat<32/\
 (0:Int)<=8/\
 0<=(26:Int)/\(26:Int).toNat<32/\
 (0:Int)<=0/\
 0<=(27:Int)/\(27:Int).toNat<32/\
 (0:Int)<=7/\(7:Int).toNat<8/\
 (0:Int)<=24/\
 0<=(28:Int)/\(28:Int).toNat<32/\
 (0:Int)<=16/\
 0<=(29:Int)/\(29:Int).toNat<32/\
 (0:Int)<=8/\
 0<=(30:Int)/\(30:Int).toNat<32/\
 (0:Int)<=0/\
 0<=(31:Int)/\(31:Int).toNat<32/\
 K (.ag (enc .dig (⟨IntKind.u8.wrap (Int.fdiv ((zK [1779033703,3144134277,1013904242,2773480762,1359893119,2600822924,528734635,1541459225] g.1).getD 0 0) (2^(min (24:Int).toNat IntKind.u32.bits))),IntKind.u8.wrap (Int.fdiv ((zK [1779033703,3144134277,1013904242,2773480762,1359893119,2600822924,528734635,1541459225] g.1).getD 0 0) (2^(min (16:Int).toNat IntKind.u32.bits))),IntKind.u8.wrap (Int.fdiv ((zK [1779033703,3144134277,1013904242,2773480762,1359893119,2600822924,528734635,1541459225] g.1).getD 0 0) (2^(min (8:Int).toNat IntKind.u32.bits))),IntKind.u8.wrap (Int.fdiv ((zK [1779033703,3144134277,1013904242,2773480762,1359893119,2600822924,528734635,1541459225] g.1).getD 0 0) (2^(min (0:Int).toNat IntKind.u32.bits))),IntKind.u8.wrap (Int.fdiv ((zK [1779033703,3144134277,1013904242,2773480762,1359893119,2600822924,528734635,1541459225] g.1).getD 1 0) (2^(min (24:Int).toNat IntKind.u32.bits))),IntKind.u8.wrap (Int.fdiv ((zK [1779033703,3144134277,1013904242,2773480762,1359893119,2600822924,528734635,1541459225] g.1).getD 1 0) (2^(min (16:Int).toNat IntKind.u32.bits))),IntKind.u8.wrap (Int.fdiv ((zK [1779033703,3144134277,1013904242,2773480762,1359893119,2600822924,528734635,1541459225] g.1).getD 1 0) (2^(min (8:Int).toNat IntKind.u32.bits))),IntKind.u8.wrap (Int.fdiv ((zK [1779033703,3144134277,1013904242,2773480762,1359893119,2600822924,528734635,1541459225] g.1).getD 1 0) (2^(min (0:Int).toNat IntKind.u32.bits))),IntKind.u8.wrap (Int.fdiv ((zK [1779033703,3144134277,1013904242,2773480762,1359893119,2600822924,528734635,1541459225] g.1).getD 2 0) (2^(min (24:Int).toNat IntKind.u32.bits))),IntKind.u8.wrap (Int.fdiv ((zK [1779033703,3144134277,1013904242,2773480762,1359893119,2600822924,528734635,1541459225] g.1).getD 2 0) (2^(min (16:Int).toNat IntKind.u32.bits))),IntKind.u8.wrap (Int.fdiv ((zK [1779033703,3144134277,1013904242,2773480762,1359893119,2600822924,528734635,1541459225] g.1).getD 2 0) (2^(min (8:Int).toNat IntKind.u32.bits))),IntKind.u8.wrap (Int.fdiv ((zK [1779033703,3144134277,1013904242,2773480762,1359893119,2600822924,528734635,1541459225] g.1).getD 2 0) (2^(min (0:Int).toNat IntKind.u32.bits))),IntKind.u8.wrap (Int.fdiv ((zK [1779033703,3144134277,1013904242,2773480762,1359893119,2600822924,528734635,1541459225] g.1).getD 3 0) (2^(min (24:Int).toNat IntKind.u32.bits))),IntKind.u8.wrap (Int.fdiv ((zK [1779033703,3144134277,1013904242,2773480762,1359893119,2600822924,528734635,1541459225] g.1).getD 3 0) (2^(min (16:Int).toNat IntKind.u32.bits))),IntKind.u8.wrap (Int.fdiv ((zK [1779033703,3144134277,1013904242,2773480762,1359893119,2600822924,528734635,1541459225] g.1).getD 3 0) (2^(min (8:Int).toNat IntKind.u32.bits))),IntKind.u8.wrap (Int.fdiv ((zK [1779033703,3144134277,1013904242,2773480762,1359893119,2600822924,528734635,1541459225] g.1).getD 3 0) (2^(min (0:Int).toNat IntKind.u32.bits))),IntKind.u8.wrap (Int.fdiv ((zK [1779033703,3144134277,1013904242,2773480762,1359893119,2600822924,528734635,1541459225] g.1).getD 4 0) (2^(min (24:Int).toNat IntKind.u32.bits))),IntKind.u8.wrap (Int.fdiv ((zK [1779033703,3144134277,1013904242,2773480762,1359893119,2600822924,528734635,1541459225] g.1).getD 4 0) (2^(min (16:Int).toNat IntKind.u32.bits))),IntKind.u8.wrap (Int.fdiv ((zK [1779033703,3144134277,1013904242,2773480762,1359893119,2600822924,528734635,1541459225] g.1).getD 4 0) (2^(min (8:Int).toNat IntKind.u32.bits))),IntKind.u8.wrap (Int.fdiv ((zK [1779033703,3144134277,1013904242,2773480762,1359893119,2600822924,528734635,1541459225] g.1).getD 4 0) (2^(min (0:Int).toNat IntKind.u32.bits))),IntKind.u8.wrap (Int.fdiv ((zK [1779033703,3144134277,1013904242,2773480762,1359893119,2600822924,528734635,1541459225] g.1).getD 5 0) (2^(min (24:Int).toNat IntKind.u32.bits))),IntKind.u8.wrap (Int.fdiv ((zK [1779033703,3144134277,1013904242,2773480762,1359893119,2600822924,528734635,1541459225] g.1).getD 5 0) (2^(min (16:Int).toNat IntKind.u32.bits))),IntKind.u8.wrap (Int.fdiv ((zK [1779033703,3144134277,1013904242,2773480762,1359893119,2600822924,528734635,1541459225] g.1).getD 5 0) (2^(min (8:Int).toNat IntKind.u32.bits))),IntKind.u8.wrap (Int.fdiv ((zK [1779033703,3144134277,1013904242,2773480762,1359893119,2600822924,528734635,1541459225] g.1).getD 5 0) (2^(min (0:Int).toNat IntKind.u32.bits))),IntKind.u8.wrap (Int.fdiv ((zK [1779033703,3144134277,1013904242,2773480762,1359893119,2600822924,528734635,1541459225] g.1).getD 6 0) (2^(min (24:Int).toNat IntKind.u32.bits))),IntKind.u8.wrap (Int.fdiv ((zK [1779033703,3144134277,1013904242,2773480762,1359893119,2600822924,528734635,1541459225] g.1).getD 6 0) (2^(min (16:Int).toNat IntKind.u32.bits))),IntKind.u8.wrap (Int.fdiv ((zK [1779033703,3144134277,1013904242,2773480762,1359893119,2600822924,528734635,1541459225] g.1).getD 6 0) (2^(min (8:Int).toNat IntKind.u32.bits))),IntKind.u8.wrap (Int.fdiv ((zK [1779033703,3144134277,1013904242,2773480762,1359893119,2600822924,528734635,1541459225] g.1).getD 6 0) (2^(min (0:Int).toNat IntKind.u32.bits))),IntKind.u8.wrap (Int.fdiv ((zK [1779033703,3144134277,1013904242,2773480762,1359893119,2600822924,528734635,1541459225] g.1).getD 7 0) (2^(min (24:Int).toNat IntKind.u32.bits))),IntKind.u8.wrap (Int.fdiv ((zK [1779033703,3144134277,1013904242,2773480762,1359893119,2600822924,528734635,1541459225] g.1).getD 7 0) (2^(min (16:Int).toNat IntKind.u32.bits))),IntKind.u8.wrap (Int.fdiv ((zK [1779033703,3144134277,1013904242,2773480762,1359893119,2600822924,528734635,1541459225] g.1).getD 7 0) (2^(min (8:Int).toNat IntKind.u32.bits))),IntKind.u8.wrap (Int.fdiv ((zK [1779033703,3144134277,1013904242,2773480762,1359893119,2600822924,528734635,1541459225] g.1).getD 7 0) (2^(min (0:Int).toNat IntKind.u32.bits)))⟩:Dig))) []
theorem F33_eq (g:prodL L33) (K X:Kn):F33 g K=qJ D (qk [(111,qqV)] [(64,false,sp64),(65,false,sp65)]) (qx [(111,qqV)]) H33 J33 38 [.cell 2 32] (qz Tryz.f33) (argsT S33 L33 g) [] (settle0 K) X 0 1033000:=by kernel_rfl
theorem F33_ok (g:prodL L33) (K X:Kn) (h:F33 g K):FCalls Tryz.prog 33 (argsT S33 L33 g) [] K X:=
 FCalls.settle0 (qq (Γ:=qk [(111,qqV)] [(64,false,sp64),(65,false,sp65)]) (mu:=qx [(111,qqV)]) (H:=H33) (J:=J33) qW (qX (rs:=[(111,qqV)]) (l:=[(64,false,sp64),(65,false,sp65)]) (by intro p hp;simp only [List.mem_cons,List.not_mem_nil,or_false] at hp;subst hp;exact rw111_ok) (by intro p hp;simp only [List.mem_cons,List.not_mem_nil,or_false] at hp;rcases hp with rfl | rfl<;>first | exact sp64_ok | exact sp65_ok)) qj rfl Tryz.func33 (c:=qz Tryz.f33) rfl Tryz.ntmps33 Tryz.results33 (by unfold qv;rw [Tryz.func33];kernel_rfl) (Nat.le_of_ble_eq_true (by kernel_rfl)) (c0:=0) (Eq.mp (F33_eq g K X) h) (kj [4] (by kernel_rfl) (by kernel_rfl)))
end Go.Proofs.YtbglndogddddoaaGreatDoor
namespace Go.Proofs.YtbglndogddddoaaGreatDoor
open Go.RowKit
set_option maxRecDepth 100000
theorem F33_is {s:ByteArray} {K:Kn} (hs:s.size<=4194304) (h:K (.ag (enc .dig (YL s))) []):F33 (s,()) K:=by
 unfold F33
 refine ⟨trivial,trivial,hs, ?_⟩
 repeat (refine And.intro (by decide) ?_)
 unfold YL at h
 show K (.ag (enc .dig (digW (zK st0 s)))) []
 exact h
def sp33:Sp:=⟨S33,L33,fun g=>g.1.size<=4194304,fun g=> .ag (enc .dig (YL g.1)),fun _=>none⟩
theorem sp33_ok:sp33.Ok Tryz.prog 33 true:=
 ⟨fun g K X hp h=>F33_ok g K X (F33_is hp h),fun _ _ _=>rfl,fun _=>rfl,fun _ _=>⟨rfl,rfl⟩⟩
end Go.Proofs.YtbglndogddddoaaGreatDoor
namespace Go.Proofs.YtbglndogddddoaaGreatDoor
open Go.RowKit Go.Shelf Go.Lib
set_option maxRecDepth 100000
theorem cb_refl: ∀l:List UInt8,Lib.compareBytes l l=0
 | []=>rfl
 | a::l=>by
  unfold Lib.compareBytes
  simp [cb_refl l]
theorem cb_anti: ∀l m:List UInt8,Lib.compareBytes l m= - Lib.compareBytes m l
 | [],[]=>rfl
 | [],_::_=>rfl
 | _::_,[]=>rfl
 | a::l,b::m=>by
  have:=cb_anti l m
  unfold Lib.compareBytes
  have h: ∀x y:UInt8,x<y↔x.toNat<y.toNat:=fun x y=>Iff.rfl
  by_cases h1:a<b
  . have h2: ¬b<a:=by rw [h] at h1 ⊢;omega
    simp [h1,h2]
  . by_cases h2:b<a
    . simp [h1,h2]
    . simp [h1,h2,this]
theorem cb_trans: ∀l m n:List UInt8,Lib.compareBytes l m<=0->Lib.compareBytes m n<=0->Lib.compareBytes l n<=0/\(Lib.compareBytes l n=0->Lib.compareBytes l m=0/\Lib.compareBytes m n=0)
 | [],[],[],_,_=>⟨Int.le_refl 0,fun _=>⟨rfl,rfl⟩⟩
 | [],[],_::_,_,_=>⟨show (-1:Int)<=0 by decide,fun h=>absurd h (show¬(-1:Int)=0 by decide)⟩
 | [],_::_,[],_,h=>absurd h (show¬(1:Int)<=0 by decide)
 | [],_::_,_::_,_,_=>⟨show (-1:Int)<=0 by decide,fun h=>absurd h (show¬(-1:Int)=0 by decide)⟩
 | _::_,[],_,h,_=>absurd h (show¬(1:Int)<=0 by decide)
 | _::_,_::_,[],_,h=>absurd h (show¬(1:Int)<=0 by decide)
 | a::l,b::m,c::n,h1,h2=>by
  have ih:=cb_trans l m n
  unfold Lib.compareBytes at h1 h2 ⊢
  have h: ∀x y:UInt8,x<y↔x.toNat<y.toNat:=fun x y=>Iff.rfl
  by_cases a1:a<b
  . by_cases b1:b<c
    . have:a<c:=by rw [h] at a1 b1 ⊢;omega
      simp [this]
    . by_cases b2:c<b
      . simp [b1,b2] at h2
      . have:a<c:=by rw [h] at a1 b1 b2 ⊢;omega
        simp [this]
  . by_cases a2:b<a
    . simp [a1,a2] at h1
    . have e:a=b:=by rw [h] at a1 a2;exact UInt8.toNat_inj.1 (by omega)
      subst e
      simp only [a1,if_false] at h1
      by_cases b1:a<c
      . simp [b1]
      . by_cases b2:c<a
        . simp [b1,b2] at h2
        . simp only [b1,b2,if_false] at h2 ⊢
          simp only [a1,if_false]
          exact ih h1 h2
theorem kf (a b:Idn):(jy a b<0)↔(zz a.patch b.patch<0∨(zz a.patch b.patch=0/\a.n<b.n)):=by
 unfold jy
 by_cases z:zz a.patch b.patch=0
 . rw [decide_eq_true z,Bool.not_true,cond_false]
   unfold yC
   by_cases h1:a.n<b.n
   . rw [decide_eq_true h1,cond_true];exact ⟨fun _=> .inr ⟨z,h1⟩,fun _=>by decide⟩
   . rw [decide_eq_false h1,cond_false]
     by_cases h2:b.n<a.n
     . rw [decide_eq_true h2,cond_true];exact ⟨fun h=>absurd h (by decide),fun h=>by omega⟩
     . rw [decide_eq_false h2,cond_false];exact ⟨fun h=>absurd h (by decide),fun h=>by omega⟩
 . rw [decide_eq_false z,Bool.not_false,cond_true]
   exact ⟨.inl,fun h=>by omega⟩
theorem wR (a b:Dig):zz a b= - zz b a:=cb_anti _ _
theorem Vo {a b c:Dig} (h1:zz a b<=0) (h2:zz b c<=0):zz a c<=0/\(zz a c=0->zz a b=0/\zz b c=0):=cb_trans _ _ _ h1 h2
theorem JO (a:Dig):zz a a=0:=cb_refl _
theorem swo_id:Go.Sort.SWO (ltOf jy) where
 irrefl x:=by
  unfold ltOf
  rw [decide_eq_false_iff_not,kf,JO];omega
 trans x y z h1 h2:=by
  unfold ltOf at *
  rw [decide_eq_true_eq,kf] at *
  have:=Vo (a:=x.patch) (b:=y.patch) (c:=z.patch)
  omega
 ntrans x y z h1 h2:=by
  unfold ltOf at *
  rw [decide_eq_false_iff_not,kf] at *
  have:=Vo (a:=z.patch) (b:=y.patch) (c:=x.patch)
  have e1:=wR x.patch y.patch
  have e2:=wR y.patch z.patch
  have e3:=wR x.patch z.patch
  omega
instance:Inhabited Idn:=⟨iz⟩
instance:Inhabited Dig:=⟨dz⟩
def VT (l:List Idn):List Idn:=(Go.Sort.pdq (ltOf jy) l.toArray 0 l.toArray.size (Lib.bitLen l.toArray.size) true true).toList
def idP (a m:ByteArray) (t:Int) (ds:List Dig) (cs:List Chg):Dig×Int:=bif !decide ((jp a m t ds cs).2.2=0)then (dz,(jp a m t ds cs).2.2)else (YL (jp a m t ds cs).2.1,0)
def jC (d:Dig) (x:Idn):Idn:=bif (bif QC x then decide (0<=x.n)else false)then ⟨d,x.n⟩else x
def aJ17 (d:Dig) (x:Atm):Atm:=⟨x.id,x.kind,x.file,x.typ,x.parent,x.name,x.mode,x.data,x.text,x.frm,x.til,VT (x.over.map (jC d))⟩
def aJ18 (d:Dig) (x:Atm):Atm:=bif decide (x.kind=6)then aJ17 d ⟨x.id,x.kind,x.file,x.typ,x.parent,x.name,x.mode,x.data,x.text,jC d x.frm,jC d x.til,x.over⟩else aJ17 d x
def aJ19 (d:Dig) (x:Atm):Atm:=bif decide (x.kind=2)then aJ18 d ⟨x.id,x.kind,x.file,x.typ,jC d x.parent,x.name,x.mode,x.data,x.text,x.frm,x.til,x.over⟩else aJ18 d x
def cmpA (d:Dig) (x:Atm):Atm:=bif !decide (x.kind=7)then aJ19 d ⟨jC d x.id,x.kind,jC d x.file,x.typ,x.parent,x.name,x.mode,x.data,x.text,x.frm,x.til,x.over⟩else aJ19 d ⟨jC d x.id,x.kind,x.file,x.typ,x.parent,x.name,x.mode,x.data,x.text,x.frm,x.til,x.over⟩
def yy (a m:ByteArray) (t:Int) (ds:List Dig) (cs:List Chg):List Atm×Int:=
 bif !decide ((jp a m t ds cs).2.2=0)then ([],(jp a m t ds cs).2.2)else bif !decide ((idP a m t ds cs).2=0)then ([],(idP a m t ds cs).2)else ((jp a m t ds cs).1.map (cmpA (idP a m t ds cs).1),0)
def pre87 (g:prodL [.sl .idk]):Prop:=g.1.length<=4194304
end Go.Proofs.YtbglndogddddoaaGreatDoor
namespace Go.Proofs.YtbglndogddddoaaGreatDoor
open Go.RowKit Go.Lib Go.Shelf Go.Sort
theorem bytes_of {P:Program} {w:World} {b off:Nat} {l:List Int} (hc: ∀(j:Nat) (y:Int),l[j]? =some y->w.cell? ((⟨b,off,none⟩:Addr).add j)=some (.int .u8 y)) (c:Nat):
  (Extern.Bytes.bytesOf (.slice (some ⟨b,off,none⟩) l.length c)).run P w= .ok ⟨(bs l).toArray⟩ w:=by
 have hl:=run_loadBytesX (P:=P) w l ⟨b,off,none⟩ .empty hc
 show (Extern.Bytes.loadBytes ⟨b,off,none⟩ l.length .empty).run P w=_
 rw [hl]
 congr 1
 apply ByteArray.ext
 show (#[]:Array UInt8)++(Lib.bytesOf l).toArray=(bs l).toArray
 rw [Array.empty_append]
 rfl
set_option maxHeartbeats 1000000 in
set_option maxRecDepth 100000 in
theorem nan83 (x:Int) (W:World):Calls Tryz.prog 83 #[.int .i64 x] W fun e w'=>e= .returned (.bool false)/\w'=W:=by
 go_enter Tryz.func83,Tryz.ntmps83
 go_wp2
 go_ret
 exact ⟨rfl,rfl⟩
set_option maxHeartbeats 1000000 in
set_option maxRecDepth 100000 in
theorem cmp41 (x y:Int) (W:World):Calls Tryz.prog 41 #[.int .i64 x, .int .i64 y] W fun e w'=>e= .returned (.int .i64 (yC x y))/\w'=W:=by
 have hn:=fun x W=>nan83 x W
 go_enter Tryz.func41,Tryz.ntmps41
 go_wp2_with (go_at_call 83;refine (hn _ _).mono ?_;rintro e w' ⟨rfl,rfl⟩)
 . have e:yC x y= -1:=by unfold yC;rw [decide_eq_true (by assumption)];rfl
   rw [e];go_ret;exact ⟨rfl,rfl⟩
 . have e:yC x y=1:=by unfold yC;rw [decide_eq_false (by omega),cond_false,decide_eq_true (by assumption)];rfl
   rw [e];go_ret;exact ⟨rfl,rfl⟩
 . have e:yC x y=0:=by unfold yC;rw [decide_eq_false (by omega),cond_false,decide_eq_false (by omega)];rfl
   rw [e];go_ret;exact ⟨rfl,rfl⟩
def xq (x:Idn):List Value:=[.int .u8 x.patch.b0, .int .u8 x.patch.b1, .int .u8 x.patch.b2, .int .u8 x.patch.b3, .int .u8 x.patch.b4, .int .u8 x.patch.b5, .int .u8 x.patch.b6, .int .u8 x.patch.b7, .int .u8 x.patch.b8, .int .u8 x.patch.b9, .int .u8 x.patch.b10, .int .u8 x.patch.b11, .int .u8 x.patch.b12, .int .u8 x.patch.b13, .int .u8 x.patch.b14, .int .u8 x.patch.b15, .int .u8 x.patch.b16, .int .u8 x.patch.b17, .int .u8 x.patch.b18, .int .u8 x.patch.b19, .int .u8 x.patch.b20, .int .u8 x.patch.b21, .int .u8 x.patch.b22, .int .u8 x.patch.b23, .int .u8 x.patch.b24, .int .u8 x.patch.b25, .int .u8 x.patch.b26, .int .u8 x.patch.b27, .int .u8 x.patch.b28, .int .u8 x.patch.b29, .int .u8 x.patch.b30, .int .u8 x.patch.b31, .int .i64 x.n]
set_option maxHeartbeats 1000000 in
set_option maxRecDepth 100000 in
theorem cmp17a (x y:Idn) (W:World) (r r2:Int) (h3: ∀q,Calls Tryz.prog 40 #[.slice (some ⟨W.heap.size,0,none⟩) 32 32, .slice (some ⟨W.heap.size+1,0,none⟩) 32 32] ((((W.alloc (.cells (xq x).toArray 36)).alloc (.cells (xq y).toArray 36))).drewN q) fun e w'=>e= .returned (.int .i64 r)/\w'=((((W.alloc (.cells (xq x).toArray 36)).alloc (.cells (xq y).toArray 36))).drewN q))
  (h41: ∀W:World,Calls Tryz.prog 41 #[.int .i64 x.n, .int .i64 y.n] W fun e w'=>e= .returned (.int .i64 r2)/\w'=W):
  Calls Tryz.prog 17 #[.agg (xq x).toArray, .agg (xq y).toArray] W fun e w'=>e= .returned (.int .i64 (bif !decide (r=0)then r else r2))/\ ∃q os',w'=grow (W.drewN q) os':=by
 unfold xq at h3 ⊢
 go_enter Tryz.func17,Tryz.ntmps17
 go_wp2
 go_quiet (first | (go_at_call 40;refine Calls.quiet_of_same (h3 _)))
 go_wp2_with (go_at_call 41;refine (h41 _).mono ?_;rintro e w' ⟨rfl,rfl⟩)
 . rename_i hh
   rw [show (bif !decide (r=0)then r else r2)=r by rw [decide_eq_false (by simpa using hh)];rfl]
   go_ret
   refine ⟨by kernel_rfl, ?_⟩
   exact ⟨_,_,by rw [alloc_eq_grow,alloc_eq_grow,grow_grow];rfl⟩
 . rename_i hh
   rw [show (bif !decide (r=0)then r else r2)=r2 by rw [decide_eq_true (by simpa using hh)];rfl]
   go_ret
   refine ⟨by kernel_rfl, ?_⟩
   exact ⟨_,_,by rw [alloc_eq_grow,alloc_eq_grow,grow_grow];rfl⟩
theorem cmp17 (x y:Idn) (W:World):Calls Tryz.prog 17 #[.agg (xq x).toArray, .agg (xq y).toArray] W fun e w'=>e= .returned (.int .i64 (jy x y))/\ ∃q os',w'=grow (W.drewN q) os':=by
 have hb: ∀(d:Idn) (n:Nat) (w:World),w.heap[n]? =some (.cells (xq d).toArray 36 (0,0))->(Extern.Bytes.bytesOf (.slice (some ⟨n,0,none⟩) 32 32)).run Tryz.prog w= .ok ⟨(bs (xk d.patch)).toArray⟩ w:=fun d n w hw=>bytes_of (l:=xk d.patch) (fun j z hz=>by
  have:(xq d)[j]? =some (.int .u8 z):=by
   have e:xq d=(xk d.patch).map (Value.int .u8)++[.int .i64 d.n]:=rfl
   have hj:j< ((xk d.patch).map (Value.int .u8)).length:=by
    rw [List.length_map];exact (List.getElem?_eq_some_iff.1 hz).1
   rw [e,List.getElem?_append_left hj,List.getElem?_map,hz];rfl
  simp only [Addr.add_lit,World.cell?,hw]
  simpa using this) 32
 have h1: ∀q,(Extern.Bytes.bytesOf (.slice (some ⟨W.heap.size,0,none⟩) 32 32)).run Tryz.prog ((((W.alloc (.cells (xq x).toArray 36)).alloc (.cells (xq y).toArray 36))).drewN q)= .ok ⟨(bs (xk x.patch)).toArray⟩ _:=fun q=>hb x _ _ (by show ((W.heap.push _).push _)[W.heap.size]? =_;simp [Array.getElem?_push])
 have h2: ∀q,(Extern.Bytes.bytesOf (.slice (some ⟨W.heap.size+1,0,none⟩) 32 32)).run Tryz.prog ((((W.alloc (.cells (xq x).toArray 36)).alloc (.cells (xq y).toArray 36))).drewN q)= .ok ⟨(bs (xk y.patch)).toArray⟩ _:=fun q=>hb y _ _ (by show ((W.heap.push (.cells (xq x).toArray 36 (0,0))).push _)[W.heap.size+1]? =_;rw [show W.heap.size+1=(W.heap.push (.cells (xq x).toArray 36 (0,0))).size by simp,Array.getElem?_push_size])
 have h3: ∀q,Calls Tryz.prog 40 #[.slice (some ⟨W.heap.size,0,none⟩) 32 32, .slice (some ⟨W.heap.size+1,0,none⟩) 32 32] ((((W.alloc (.cells (xq x).toArray 36)).alloc (.cells (xq y).toArray 36))).drewN q) fun e w'=>e= .returned (.int .i64 (zz x.patch y.patch))/\w'=_:=fun q=>Kv (h1 q) (h2 q)
 exact cmp17a x y W _ _ h3 fun W=>cmp41 x.n y.n W
set_option maxRecDepth 100000
def YS:Go.Shelf.Ren:=⟨fun | 6=>87 | 15=>97 | 14=>138 | 28=>147 | 29=>148 | 20=>186 | 21=>187 | 22=>188 | 23=>189 | 24=>190 | 25=>191 | 26=>192 | 27=>193 | 46=>217 | 47=>195 | 48=>196 | 49=>218 | 50=>219 | 57=>231 | n=>n,fun | 22=>48 | 24=>36 | 25=>37 | 3=>3 | 39=>118 | 0=>0 | 53=>100 | 55=>137 | 4=>4 | 46=>161 | 45=>160 | 50=>165 | 5=>5 | 9=>9 | 66=>205 | 70=>209 | 76=>226 | 77=>227 | n=>n,fun | n=>n⟩
theorem Kw:Go.Proofs.SlLaysF0.n6 Tryz.prog YS:={
 mixed:=by kernel_rfl
 f6:=⟨Tryz.f87.name,by decide,Tryz.func87.trans (congrArg some (by kernel_rfl))⟩
 f14:=⟨Tryz.f138.name,by decide,Tryz.func138.trans (congrArg some (by kernel_rfl))⟩
 f15:=Tryz.func97.trans (congrArg some (by kernel_rfl))
 f20:=⟨Tryz.f186.name,by decide,Tryz.func186.trans (congrArg some (by kernel_rfl))⟩
 f21:=⟨Tryz.f187.name,by decide,Tryz.func187.trans (congrArg some (by kernel_rfl))⟩
 f22:=⟨Tryz.f188.name,by decide,Tryz.func188.trans (congrArg some (by kernel_rfl))⟩
 f23:=⟨Tryz.f189.name,by decide,Tryz.func189.trans (congrArg some (by kernel_rfl))⟩
 f24:=⟨Tryz.f190.name,by decide,Tryz.func190.trans (congrArg some (by kernel_rfl))⟩
 f25:=⟨Tryz.f191.name,by decide,Tryz.func191.trans (congrArg some (by kernel_rfl))⟩
 f26:=⟨Tryz.f192.name,by decide,Tryz.func192.trans (congrArg some (by kernel_rfl))⟩
 f27:=⟨Tryz.f193.name,by decide,Tryz.func193.trans (congrArg some (by kernel_rfl))⟩
 f28:=Tryz.func147.trans (congrArg some (by kernel_rfl))
 f29:=Tryz.func148.trans (congrArg some (by kernel_rfl))
 f46:=⟨Tryz.f217.name,by decide,Tryz.func217.trans (congrArg some (by kernel_rfl))⟩
 f47:=Tryz.func195.trans (congrArg some (by kernel_rfl))
 f48:=Tryz.func196.trans (congrArg some (by kernel_rfl))
 f49:=⟨Tryz.f218.name,by decide,Tryz.func218.trans (congrArg some (by kernel_rfl))⟩
 f50:=⟨Tryz.f219.name,by decide,Tryz.func219.trans (congrArg some (by kernel_rfl))⟩
 f57:=⟨Tryz.f231.name,by decide,Tryz.func231.trans (congrArg some (by kernel_rfl))⟩
 t0:=Tryz.underlying0
 a0:=Tryz.isAgg0
 z0:=Tryz.sizeOf0
 v0:=Tryz.zeroValue0
 t3:=Tryz.underlying3
 a3:=Tryz.isAgg3
 z3:=Tryz.sizeOf3
 v3:=Tryz.zeroValue3
 t4:=Tryz.underlying4
 a4:=Tryz.isAgg4
 z4:=Tryz.sizeOf4
 v4:=Tryz.zeroValue4
 t5:=Tryz.underlying5
 a5:=Tryz.isAgg5
 z5:=Tryz.sizeOf5
 v5:=Tryz.zeroValue5
 t9:=Tryz.underlying9
 a9:=Tryz.isAgg9
 z9:=Tryz.sizeOf9
 v9:=Tryz.zeroValue9
 t22:=Tryz.underlying48
 a22:=Tryz.isAgg48
 z22:=Tryz.sizeOf48
 v22:=Tryz.zeroValue48
 t25:=Tryz.underlying37
 a25:=Tryz.isAgg37
 z25:=Tryz.sizeOf37
 v25:=Tryz.zeroValue37
 t39:=Tryz.underlying118
 a39:=Tryz.isAgg118
 z39:=Tryz.sizeOf118
 v39:=Tryz.zeroValue118
 t45:=Tryz.underlying160
 a45:=Tryz.isAgg160
 z45:=Tryz.sizeOf160
 v45:=Tryz.zeroValue160
 t46:=Tryz.underlying161
 a46:=Tryz.isAgg161
 z46:=Tryz.sizeOf161
 v46:=Tryz.zeroValue161
 t50:=Tryz.underlying165
 a50:=Tryz.isAgg165
 z50:=Tryz.sizeOf165
 v50:=Tryz.zeroValue165
 t53:=Tryz.underlying100
 a53:=Tryz.isAgg100
 z53:=Tryz.sizeOf100
 v53:=Tryz.zeroValue100
 t55:=Tryz.underlying137
 a55:=Tryz.isAgg137
 z55:=Tryz.sizeOf137
 v55:=Tryz.zeroValue137
 t66:=Tryz.underlying205
 a66:=Tryz.isAgg205
 z66:=Tryz.sizeOf205
 v66:=Tryz.zeroValue205
 t70:=Tryz.underlying209
 a70:=Tryz.isAgg209
 z70:=Tryz.sizeOf209
 v70:=Tryz.zeroValue209
 t76:=Tryz.underlying226
 a76:=Tryz.isAgg226
 z76:=Tryz.sizeOf226
 v76:=Tryz.zeroValue226
 t77:=Tryz.underlying227
 a77:=Tryz.isAgg227
 z77:=Tryz.sizeOf227
 v77:=Tryz.zeroValue227}
def ww (e:El) (x:ty e):List Value:=(enc e x).map tv
theorem flat_at {e:El} [Inhabited (ty e)] (l:List (ty e)) (j:Nat) (hj:j<l.length*sz e): ∃u,(encs e l)[j]? =some u/\(flatK (ww e) (sz e) l.toArray)[j]! =tv u:=by
 have hk:0<sz e:=by
  rcases Nat.eq_zero_or_pos (sz e)with h | h
  . rw [h] at hj;simp at hj
  . exact h
 have hi:j / sz e<l.length:=by rw [Nat.div_lt_iff_lt_mul hk];exact hj
 have hr:j%sz e<sz e:=Nat.mod_lt _ hk
 have he:(encs e l)[j]? =(enc e l[j / sz e])[j%sz e]? :=by
  have:=jV (l:=l) (i:=j / sz e) (xK hi) hr
  rwa [Nat.mul_comm,Nat.div_add_mod] at this
 have hlen:j%sz e< (enc e l[j / sz e]).length:=by rw [ze];exact hr
 refine ⟨(enc e l[j / sz e])[j%sz e],by rw [he,xK hlen], ?_⟩
 rw [get_flatK _ _ _ _ (by simpa using hj)]
 have h1:l.toArray[j / sz e]! =l[j / sz e]:=by rw [getElem!_pos l.toArray _ (by simpa using hi)];simp
 rw [h1]
 unfold ww
 rw [List.getElem!_eq_getElem?_getD,List.getElem?_map,xK hlen];rfl
theorem sort_ok {e:El} [Inhabited (ty e)] (hI: ∀x:ty e, ∀u∈enc e x, ∃k n,u=T.int k n) {f c:FuncId} {srt:List (ty e)->List (ty e)} (he:qv Tryz.prog f=true) (hc:ytab c=none)
  (h0: ∀(p:Option Addr) (cap:Nat) (fv:Value) (w:World),Calls Tryz.prog f #[.slice p 0 cap,fv] w fun e w'=>e= .returned (.tuple #[])/\w'=w)
  (h1: ∀(b cap:Nat) (l:List (ty e)) (w:World),HoldsK (ww e) (sz e) w b 0 l.toArray->b<w.heap.size->l.length<=16777216->Calls Tryz.prog f #[.slice (some ⟨b,0,none⟩) l.length cap, .func (.func c) #[] #[]] w fun r w'=>r= .returned (.tuple #[])/\ ∃n os,w'=sortWorldK (ww e) (sz e) w b 0 n (srt l).toArray os)
  (hs: ∀l,(srt l).length=l.length) {l:List (ty e)} (hl:l.length<=16777216) {K X:Kn} (hK:K (.tu []) [some (.arr 0 e (srt l))]):FCalls Tryz.prog f [.oa e 0 0, .fn c [] []] [some (.arr 0 e l)] K X 1:=by
 intro g w hg
 refine kF.of he fun args hr=> ?_
 obtain ⟨x,y,rfl,hx,hy⟩:=rl_two hr
 have hy':y= .func (.func c) #[] #[]:=by
  cases hy with
  | fn _ _ _ xs ys _ a1 a2 _ _=>
   have e1:xs= #[]:=Array.eq_empty_of_size_eq_zero a1.symm
   have e2:ys= #[]:=Array.eq_empty_of_size_eq_zero a2.symm
   rw [e1,e2]
  | yl _ _ yi _ _ a1=>rw [hc] at a1;cases a1
 subst hy'
 obtain ⟨oi,o1,fits,row⟩:=hg.obj 0 (.arr 0 e l) rfl
 have o1:g.ob 0 0=some oi:=o1
 obtain ⟨f1,f2,f3⟩:=fits
 cases hx with
 | oa _ _ _ oi' A b1 b2 b3 b4=>
  rw [o1] at b1
  obtain rfl:=Option.some.inj b1
  by_cases hz:oi.cap=0
  . have hl0:l=[]:=List.length_eq_zero_iff.1 (by omega)
    subst hl0
    have hs0:srt []=[]:=List.length_eq_zero_iff.1 (by rw [hs];rfl)
    rw [show oi.len=0 by simpa using f1]
    refine (h0 _ _ _ w).mono ?_
    rintro r w' ⟨rfl,rfl⟩
    exact ⟨g,_,hg,Step.refl, .tu [],by rw [hs0] at hK;exact hK, .tu [] #[] rfl fun i c x hc=>by simp at hc⟩
  . obtain rfl:=b2 hz
    rcases row with ⟨_,r0⟩ | ⟨r1,blk,E,fr,r2,r3,r4,r5⟩
    . exact absurd r0 hz
    have r2:w.heap[oi.b]? =some (.cells blk E fr):=r2
    have hb:oi.b<w.heap.size:=v8 (m:=false) r2
    have hle:l.length*sz e<=blk.size:=by have:=r4.le;rwa [show qZ (.arr 0 e l)=encs e l from rfl,qc] at this
    have hH:HoldsK (ww e) (sz e) w oi.b 0 l.toArray:=by
     intro j hj
     have hj:j<l.length*sz e:=by simpa using hj
     obtain ⟨u,u1,u2⟩:=flat_at l j hj
     obtain ⟨x,x1,x2,x3⟩:=r4.at_ j u u1
     have hu: ∃k n,u=T.int k n:=by
      have:=List.mem_of_getElem? u1
      simp only [encs,List.mem_flatten,List.mem_map] at this
      obtain ⟨_,⟨z,_,rfl⟩,hz⟩:=this
      exact hI z u hz
     obtain ⟨k,n,rfl⟩:=hu
     cases x3
     refine ⟨?_, ?_⟩
     . rw [u2,Nat.zero_add]
       simp only [World.cell?,r2]
       have x1':blk[j]? =some (tv (.int k n)):=x1
       simpa using x1'
     . rw [Nat.zero_add]
       have:=r3 j (by omega)
       simp only [World.frozen?,r2]
       simp
       omega
    rw [f1]
    refine (h1 oi.b oi.cap l w hH hb hl).mono ?_
    rintro r w' ⟨rfl,n,os,rfl⟩
    have hF:(flatK (ww e) (sz e) (srt l).toArray).size=l.length*sz e:=by rw [size_flatK];simp [hs]
    have hheap:(sortWorldK (ww e) (sz e) w oi.b 0 n (srt l).toArray os).heap=w.heap.modify oi.b (onCells (putCells id 0 (flatK (ww e) (sz e) (srt l).toArray)))++os:=rfl
    have hat:(sortWorldK (ww e) (sz e) w oi.b 0 n (srt l).toArray os).heap[oi.b]? =some (.cells (putCells id 0 (flatK (ww e) (sz e) (srt l).toArray) blk) E fr):=by
     rw [hheap,Array.getElem?_append_left (by simpa using hb),Array.getElem?_modify,if_pos rfl,r2];rfl
    have hps:(putCells id 0 (flatK (ww e) (sz e) (srt l).toArray) blk).size=blk.size:=by simp [putCells]
    obtain ⟨k1,k2,k3⟩:=qO (st':=[some (.arr 0 e (srt l))]) (k:=0) (v:=0) (o':= .arr 0 e (srt l)) (oi:=oi) (w':=sortWorldK (ww e) (sz e) w oi.b 0 n (srt l).toArray os) hg
     (fun i=>by cases i<;>simp) (Nat.zero_le _) (Nat.le_refl _) rfl (.inr o1) (fun u oi' hu=>(hg.old 0 u oi' hu).2 _ rfl) ⟨by rw [hs];exact f1,f2,f3⟩
     (fun _=> .inr ⟨_,rfl,by unfold obBlk;rw [show g.ob 0 (obVer (.arr 0 e l))=some oi from o1];simp [hz]⟩) rfl rfl rfl (by rw [hheap];simp)
     (fun b hbs hbn=>by
      have hne:oi.b≠b:=fun h=>hbn _ rfl (by unfold obBlk;rw [show g.ob 0 (obVer (.arr 0 e l))=some oi from o1];simp [hz,h])
      rw [hheap,Array.getElem?_append_left (by simpa using hbs),Array.getElem?_modify,if_neg hne])
     (fun _=>⟨_,E,fr,hat,by rw [hps];exact r3,⟨by rw [hps];show (encs e (srt l)).length<=_;rw [qc,hs];exact hle,fun j u hj=>by
      have hj':j<l.length*sz e:=by
       have:=(List.getElem?_eq_some_iff.1 hj).1
       rwa [show qZ (.arr 0 e (srt l))=encs e (srt l) from rfl,qc,hs] at this
      obtain ⟨u',u1,u2⟩:=flat_at (srt l) j (by rw [hs];exact hj')
      have:u'=u:=by
       have hj:(encs e (srt l))[j]? =some u:=hj
       rw [u1] at hj;exact Option.some.inj hj
      subst this
      have hu: ∃k n,u'=T.int k n:=by
       have:=List.mem_of_getElem? u1
       simp only [encs,List.mem_flatten,List.mem_map] at this
       obtain ⟨_,⟨z,_,rfl⟩,hz⟩:=this
       exact hI z u' hz
      obtain ⟨k,n,rfl⟩:=hu
      refine ⟨.int k n, ?_,rfl, .int k n⟩
      unfold putCells
      have hjb:j<blk.size:=by omega
      rw [Array.getElem?_mapIdx,Array.getElem?_eq_getElem hjb]
      simp only [Option.map_some,Nat.zero_le,true_and,Nat.zero_add,Nat.sub_zero]
      rw [if_pos (by rw [hF];exact hj'),u2];rfl⟩,by rw [hps];exact r5⟩)
     (fun o ho=>by
      have:o= .arr 0 e l:=by simpa using ho.symm
      subst this
      exact ⟨0,srt l,rfl⟩)
    exact ⟨_,_,k1,k2 _, .tu [],hK, .tu [] #[] rfl fun i c x hc=>by simp at hc⟩
theorem int_idk (x:Idn): ∀u∈enc .idk x, ∃k n,u=T.int k n:=by
 intro u hu
 have:((enc .idk x).all fun u=>match u with | .int _ _=>true | _=>false)=true:=by kernel_rfl
 have:=List.all_eq_true.1 this u hu
 cases u<;>first | exact ⟨_,_,rfl⟩ | cases this
theorem len_pdq {α:Type} [Inhabited α] {lt:α->α->Bool} (hO:SWO lt) (d:Array α):(pdq lt d 0 d.size (Lib.bitLen d.size) true true).size=d.size:=
 (pdq_sorts lt hO d 0 d.size (Lib.bitLen d.size) true true (Nat.zero_le _) (Nat.le_refl _) (Or.inl rfl)).1.1
theorem sortI_len (l:List Idn):(VT l).length=l.length:=by
 have:=len_pdq swo_id l.toArray
 unfold VT
 simpa using this
theorem agg36: ∀w,(isAgg 36).run Tryz.prog w= .ok true w:=fun w=>by
 unfold isAgg underlying
 simp only [Sem.run_bind,show Tryz.prog.underlying 36=_ from Tryz.underlying36]
 rfl
end Go.Proofs.YtbglndogddddoaaGreatDoor
namespace Go.Proofs.YtbglndogddddoaaGreatDoor
open Go.RowKit
attribute [local irreducible] qJ qh
set_option maxRecDepth 100000
def H15:List (Nat×Hint):=[]
def J15:List (Nat×Hint):=[]
abbrev S15:List Sh:=[.ag [.leaf, .leaf, .leaf, .leaf, .leaf]]
abbrev L15:List Lf:=[.str, .str, .int .i64, .sl .dig, .sl .chg]
def F15 (g:prodL L15) (K:Kn):Prop:=
 sp13.pre (g.1,g.2.1,g.2.2.1,g.2.2.2.1,g.2.2.2.2.1,())/\
 bif !decide ((jp g.1 g.2.1 g.2.2.1 g.2.2.2.1 g.2.2.2.2.1).2.2=0)then (
  K (.tu [.ag (enc .dig dz), .int .i64 ((jp g.1 g.2.1 g.2.2.1 g.2.2.2.1 g.2.2.2.2.1).2.2)]) [])
 else (
  sp33.pre ((jp g.1 g.2.1 g.2.2.1 g.2.2.2.1 g.2.2.2.2.1).2.1,())/\
 K (.tu [.ag (enc .dig (YL ((jp g.1 g.2.1 g.2.2.1 g.2.2.2.1 g.2.2.2.2.1).2.1))), .int .i64 0]) [])
theorem F15_eq (g:prodL L15) (K X:Kn):F15 g K=qJ D (qk [] [(13,true,sp13),(33,true,sp33)]) (qx []) H15 J15 17 [.cell 2 32, .tmp 3] (qz Tryz.f15) (argsT S15 L15 g) [] (settle0 K) X:=by kernel_rfl
theorem F15_ok (g:prodL L15) (K X:Kn) (h:F15 g K):FCalls Tryz.prog 15 (argsT S15 L15 g) [] K X:=
 FCalls.settle0 (qq qW (jx (zj sp13_ok (zj sp33_ok jv))) qj rfl Tryz.func15 (c:=qz Tryz.f15) rfl Tryz.ntmps15 Tryz.results15 (by unfold qv;rw [Tryz.func15];kernel_rfl) (Nat.le_of_ble_eq_true (by kernel_rfl)) (c0:=0) (Eq.mp (F15_eq g K X) h))
def H86:List (Nat×Hint):=[]
def J86:List (Nat×Hint):=[(2,⟨[((2,[]),none),((3,[]),none)],[(1, .leaf),(2, .pt 0 0),(3, .pt 1 0),(10, .leaf)],[.el, .el],[.pr .dig, .bool, .el .idk, .el .idk]⟩),(3,⟨[((2,[]),none),((3,[]),none)],[(2, .pt 0 0),(3, .pt 1 0)],[.el, .el],[.el .idk, .el .idk]⟩)]
abbrev S86:List Sh:=[.leaf, .leaf]
abbrev L86:List Lf:=[.el .idk, .pr .dig]
def F86_J4 (K:Kn) (x_3 t_3:Idn):Prop:=
 K (.ag (enc .idk x_3)) []
def qzX (K:Kn) (t_1:Dig) (t2_1:Bool) (x_1 t3_1:Idn):Prop:=
 bif t2_1 then (
  F86_J4 K (⟨t_1,x_1.n⟩:Idn) t3_1)
 else (
  F86_J4 K x_1 t3_1)
def F86 (g:prodL L86) (K:Kn):Prop:=
 True/\
 bif QC g.1 then (
  qzX K g.2.1 (decide (0<=g.1.n)) g.1 iz)
 else (
  qzX K g.2.1 false g.1 iz)
theorem F86_eq (g:prodL L86) (K X:Kn):F86 g K=qJ D (qk [] [(47,true,sp47)]) (qx []) H86 J86 14 [.cell 3 36] (qz Tryz.f86) (argsT S86 L86 g) [] (settle0 K) X:=by kernel_rfl
theorem F86_ok (g:prodL L86) (K X:Kn) (h:F86 g K):FCalls Tryz.prog 86 (argsT S86 L86 g) [] K X:=
 FCalls.settle0 (qq (Γ:=qk [] [(47,true,sp47)]) (mu:=qx []) (H:=H86) (J:=J86) qW (qX (rs:=[]) (l:=[(47,true,sp47)]) (fun p hp=>by cases hp) (by intro p hp;simp only [List.mem_cons,List.not_mem_nil,or_false] at hp;subst hp;exact sp47_ok)) qj rfl Tryz.func86 (c:=qz Tryz.f86) rfl Tryz.ntmps86 Tryz.results86 (by unfold qv;rw [Tryz.func86];kernel_rfl) (Nat.le_of_ble_eq_true (by kernel_rfl)) (c0:=0) (Eq.mp (F86_eq g K X) h))
def sp86:Sp:=⟨S86,L86,fun _=>True,fun g=> .ag (enc .idk (jC g.2.1 g.1)),fun _=>none⟩
theorem sp86_ok:sp86.Ok Tryz.prog 86 false:=
 ⟨fun g K X hp h=>F86_ok g K X (by
  have h:K (.ag (enc .idk (jC g.2.1 g.1))) []:=h
  refine ⟨trivial, ?_⟩
  unfold jC at h
  exact xO (J:=fun b=>qzX K g.2.1 b g.1 iz) (f:=fun b=>bif b then (⟨g.2.1,g.1.n⟩:Idn)else g.1) (K:=fun x=>K (.ag (enc .idk x)) []) (fun b h=>by unfold qzX;cases b<;>exact h) h),fun _ _ _=>rfl,fun _=>rfl,by first | exact fun _ _=>⟨rfl,rfl⟩ | (intro h;cases h)⟩
end Go.Proofs.YtbglndogddddoaaGreatDoor
namespace Go.Proofs.YtbglndogddddoaaGreatDoor
open Go.RowKit Go.Lib Go.Shelf Go.Sort
set_option maxRecDepth 100000
theorem size36: ∀w,(Go.sizeOf 36).run Tryz.prog w= .ok 33 w:=fun w=>qM (by rw [jX,show Tryz.prog.info? 36=some Tryz.t36 from Tryz.type36];rfl) w
theorem encVs_one {e:El} (x:ty e) (hI: ∀u∈enc e x, ∃k n,u=T.int k n): ∀v∈ww e x,v.oneCell'=true:=fun v hv=>by
 obtain ⟨u,hu,rfl⟩:=List.mem_map.1 hv
 obtain ⟨k,n,rfl⟩:=hI u hu
 rfl
theorem F87_ok {l:List Idn} {K X:Kn} (hl:l.length<=4194304) (h:K (.tu []) [some (.arr 0 .idk (VT l))]):FCalls Tryz.prog 87 [.oa .idk 0 0, .fn 17 [] []] [some (.arr 0 .idk l)] K X 1:=
 sort_ok (e:= .idk) int_idk (srt:=VT) (by kernel_rfl) (by rfl)
  (fun p cap fv w=>AnyF.slices_SortFunc_none Kw p cap fv w)
  (fun b cap l w hH hb hs=>by
   have eg: ∀args w,(callFunc 17 args).run Tryz.prog w= .ok (.enter 17 args) w:=enters_of Tryz.func17 (by kernel_rfl) rfl
   have:=AnyQ.slices_SortFunc_eq Kw 33 agg36 size36 (ww .idk) (fun x=>rfl) (fun x=>encVs_one x (int_idk x)) jy swo_id 17 #[] b 0 cap l.toArray w eg (fun m os dk hk x y=>cmp17 x y _) hH hb (by show l.length<_;omega)
   exact this.mono fun r w' ⟨e1,n,os,e2⟩=>⟨e1,n,os,by rw [e2];rfl⟩)
  sortI_len (by omega) h
abbrev S87:List Sh:=[.oa .idk 0, .fn 17 [] []]
abbrev O87:List ObSh:=[.arr .idk]
abbrev L87:List Lf:=[.sl .idk]
def rw87:Raw:=⟨S87,O87,L87,1,fun g K _=>pre87 g/\K (.tu []) [some (.arr 0 .idk (VT g.1))]⟩
theorem rw87_ok:rw87.Ok Tryz.prog 87:=fun g K X h=>F87_ok h.1 h.2
theorem exP_size {a m:ByteArray} {t:Int} {ds:List Dig} {cs:List Chg}:(jp a m t ds cs).2.1.size<=65536:=by
 by_cases z:(jp a m t ds cs).2.2=0
 . have h:=qqG z
   rw [exP_eq z]
   show (xu (zE a m t (jt ds) cs)).1.size<=65536
   omega
 . have e0:(⟨#[]⟩:ByteArray).size=0:=rfl
   have:(jp a m t ds cs).2.1=⟨#[]⟩:=by
    unfold jp at z ⊢
    cases h1:decide (zG zz a m t ds cs=0)
    . rfl
    . rw [h1] at z
      simp only [Bool.not_true,cond_false] at z ⊢
      unfold Qg at z ⊢
      cases h2:decide ((yT cs).2=0)
      . rfl
      . rw [h2] at z
        simp only [Bool.not_true,cond_false] at z ⊢
        unfold qzy at z ⊢
        revert z
        generalize (bif !decide ((xu (zE a m t (jt ds) cs)).2=0)then true else decide (65536< ((xu (zE a m t (jt ds) cs)).1.size:Int)))=b
        intro z
        cases b
        . exact absurd rfl z
        . rfl
   rw [this,e0];omega
theorem F15_is {a m:ByteArray} {t:Int} {ds:List Dig} {cs:List Chg} {K:Kn} (hp:xP a m t ds cs) (h:K (.tu [.ag (enc .dig (idP a m t ds cs).1), .int .i64 (idP a m t ds cs).2]) []):F15 (a,m,t,ds,cs,()) K:=by
 unfold F15
 refine ⟨hp, ?_⟩
 unfold idP at h
 show bif !decide ((jp a m t ds cs).2.2=0)then _ else _
 by_cases z:(jp a m t ds cs).2.2=0
 . rw [decide_eq_true z] at h ⊢
   exact ⟨Nat.le_trans exP_size (by omega),h⟩
 . rw [decide_eq_false z] at h ⊢
   exact h
def sp15:Sp:=⟨S15,L15,fun g=>xP g.1 g.2.1 g.2.2.1 g.2.2.2.1 g.2.2.2.2.1,fun g=> .tu [.ag (enc .dig (idP g.1 g.2.1 g.2.2.1 g.2.2.2.1 g.2.2.2.2.1).1), .int .i64 (idP g.1 g.2.1 g.2.2.1 g.2.2.2.1 g.2.2.2.2.1).2],fun _=>none⟩
theorem sp15_ok:sp15.Ok Tryz.prog 15 true:=
 ⟨fun g K X hp h=>F15_ok g K X (F15_is hp h),fun _ _ _=>rfl,fun _=>rfl,fun _ _=>⟨rfl,rfl⟩⟩
end Go.Proofs.YtbglndogddddoaaGreatDoor
namespace Go.Proofs.YtbglndogddddoaaGreatDoor
open Go.RowKit
attribute [local irreducible] qJ qh
set_option maxRecDepth 100000
def H44:List (Nat×Hint):=[(9,⟨[((4,[]),none)],[(4, .oa .atm 0),(8, .fn 86 [] [.leaf]),(32, .oa .atm 0),(33, .leaf),(34, .leaf)],[.arr .atm],[.pr .dig, .int .i64, .int .i64, .sl .atm]⟩),(20,⟨[((4,[]),none),((10,[]),none),((11,[]),some .idk)],[(4, .oa .atm 0),(8, .fn 86 [] [.leaf]),(9, .leaf),(10, .pt 1 0),(11, .oa .idk 2),(32, .oa .atm 0),(33, .leaf),(34, .leaf),(74, .leaf),(75, .leaf),(76, .leaf)],[.arr .atm, .el, .arr .idk],[.pr .dig, .int .i64, .int .i64, .int .i64, .sl .idk, .int .i64, .int .i64, .sl .atm, .el .atm, .sl .idk]⟩)]
def J44:List (Nat×Hint):=[(7,⟨[((4,[]),none)],[(4, .oa .atm 0),(7, .leaf)],[.arr .atm],[.pr .dig, .sl .atm]⟩),(14,⟨[((4,[]),none),((10,[]),none)],[(4, .oa .atm 0),(8, .fn 86 [] [.leaf]),(9, .leaf),(10, .pt 1 0),(32, .oa .atm 0),(33, .leaf),(34, .leaf)],[.arr .atm, .el],[.pr .dig, .int .i64, .int .i64, .int .i64, .sl .atm, .el .atm]⟩),(16,⟨[((4,[]),none),((10,[]),none)],[(4, .oa .atm 0),(8, .fn 86 [] [.leaf]),(9, .leaf),(10, .pt 1 0),(32, .oa .atm 0),(33, .leaf),(34, .leaf)],[.arr .atm, .el],[.pr .dig, .int .i64, .int .i64, .int .i64, .sl .atm, .el .atm]⟩),(18,⟨[((4,[]),none),((10,[]),none)],[(4, .oa .atm 0),(8, .fn 86 [] [.leaf]),(9, .leaf),(10, .pt 1 0),(32, .oa .atm 0),(33, .leaf),(34, .leaf)],[.arr .atm, .el],[.pr .dig, .int .i64, .int .i64, .int .i64, .sl .atm, .el .atm]⟩),(25,⟨[((4,[]),none),((10,[]),none)],[(4, .oa .atm 0),(8, .fn 86 [] [.leaf]),(9, .leaf),(10, .pt 1 0),(11, .leaf),(32, .oa .atm 0),(33, .leaf),(34, .leaf)],[.arr .atm, .el],[.pr .dig, .int .i64, .sl .idk, .int .i64, .int .i64, .sl .atm, .el .atm]⟩)]
abbrev S44:List Sh:=[.ag [.leaf, .leaf, .leaf, .leaf, .leaf]]
abbrev L44:List Lf:=[.str, .str, .int .i64, .sl .dig, .sl .chg]
def F44_J16 (K:Kn) (W3:prodL [.pr .dig, .int .i64, .int .i64, .sl .atm]->Prop) (full_14:Dig) (i_14:Int) (over_14:List Idn) (t_14 t2_14:Int) (l_14:List Atm) (x_14:Atm):Prop:=
 0<=i_14/\i_14.toNat<l_14.length/\
 atI l_14 i_14.toNat fun x15=>
 W3 (full_14,t_14,IntKind.i64.wrap (t2_14+1),l_14.set i_14.toNat (⟨x_14.id,x_14.kind,x_14.file,x_14.typ,x_14.parent,x_14.name,x_14.mode,x_14.data,x_14.text,x_14.frm,x_14.til,over_14⟩:Atm),())
def ZC (K:Kn) (W3:prodL [.pr .dig, .int .i64, .int .i64, .sl .atm]->Prop) (W12:prodL [.pr .dig, .int .i64, .int .i64, .int .i64, .sl .idk, .int .i64, .int .i64, .sl .atm, .el .atm, .sl .idk]->Prop) (full_11:Dig) (i_11 t_11 t2_11:Int) (t3_11:List Idn) (t4_11 t5_11:Int) (l_11:List Atm) (x_11:Atm) (over_11:List Idn):Prop:=
 bif decide (t5_11<t4_11)then (
  At t3_11 t5_11 fun u13=>
 True/\
 qn (over_11.length+[(jC full_11 u13)].length) 40 (
 W12 (full_11,i_11,t_11,t2_11,t3_11,t4_11,IntKind.i64.wrap (t5_11+1),l_11,x_11,over_11++[(jC full_11 u13)],())))
 else (
  pre87 (over_11,())/\
 F44_J16 K W3 full_11 i_11 (VT over_11) t_11 t2_11 l_11 x_11)
def F44_L12 (K:Kn) (W3:prodL [.pr .dig, .int .i64, .int .i64, .sl .atm]->Prop) (g:prodL [.pr .dig, .int .i64, .int .i64, .int .i64, .sl .idk, .int .i64, .int .i64, .sl .atm, .el .atm, .sl .idk]):Prop:=
 qQ (γ:=prodL [.pr .dig, .int .i64, .int .i64, .int .i64, .sl .idk, .int .i64, .int .i64, .sl .atm, .el .atm, .sl .idk]) (fun V y=>ZC K W3 V y.1 y.2.1 y.2.2.1 y.2.2.2.1 y.2.2.2.2.1 y.2.2.2.2.2.1 y.2.2.2.2.2.2.1 y.2.2.2.2.2.2.2.1 y.2.2.2.2.2.2.2.2.1 y.2.2.2.2.2.2.2.2.2.1) g
def XP (K:Kn) (W3:prodL [.pr .dig, .int .i64, .int .i64, .sl .atm]->Prop) (full_7:Dig) (i_7 t_7 t2_7:Int) (l_7:List Atm) (x_7:Atm):Prop:=
 F44_L12 K W3 (full_7,i_7,t_7,t2_7,x_7.over,(x_7.over.length:Int),0,l_7,x_7,[],())
def Vx (K:Kn) (W3:prodL [.pr .dig, .int .i64, .int .i64, .sl .atm]->Prop) (full_6:Dig) (i_6 t_6 t2_6:Int) (l_6:List Atm) (x_6:Atm):Prop:=
 bif decide (x_6.kind=6)then (
  True/\
  True/\
  XP K W3 full_6 i_6 t_6 t2_6 l_6 (⟨x_6.id,x_6.kind,x_6.file,x_6.typ,x_6.parent,x_6.name,x_6.mode,x_6.data,x_6.text,jC full_6 x_6.frm,jC full_6 x_6.til,x_6.over⟩:Atm))
 else (
  XP K W3 full_6 i_6 t_6 t2_6 l_6 x_6)
def Vz (K:Kn) (W3:prodL [.pr .dig, .int .i64, .int .i64, .sl .atm]->Prop) (full_5:Dig) (i_5 t_5 t2_5:Int) (l_5:List Atm) (x_5:Atm):Prop:=
 bif decide (x_5.kind=2)then (
  True/\
  Vx K W3 full_5 i_5 t_5 t2_5 l_5 (⟨x_5.id,x_5.kind,x_5.file,x_5.typ,jC full_5 x_5.parent,x_5.name,x_5.mode,x_5.data,x_5.text,x_5.frm,x_5.til,x_5.over⟩:Atm))
 else (
  Vx K W3 full_5 i_5 t_5 t2_5 l_5 x_5)
def F44_B3 (K:Kn) (W3:prodL [.pr .dig, .int .i64, .int .i64, .sl .atm]->Prop) (full_2:Dig) (t_2 t2_2:Int) (l_2:List Atm):Prop:=
 bif decide (t2_2<t_2)then (
  0<=t2_2/\t2_2.toNat<l_2.length/\
 atI l_2 t2_2.toNat fun x4=>
 True/\
 bif !decide (x4.kind=7)then (
  True/\
  Vz K W3 full_2 t2_2 t_2 t2_2 l_2 (⟨jC full_2 x4.id,x4.kind,jC full_2 x4.file,x4.typ,x4.parent,x4.name,x4.mode,x4.data,x4.text,x4.frm,x4.til,x4.over⟩:Atm))
 else (
  Vz K W3 full_2 t2_2 t_2 t2_2 l_2 (⟨jC full_2 x4.id,x4.kind,x4.file,x4.typ,x4.parent,x4.name,x4.mode,x4.data,x4.text,x4.frm,x4.til,x4.over⟩:Atm)))
 else (
  K (.tu [.sl false .atm l_2, .int .i64 0]) [])
def F44_L3 (K:Kn) (g:prodL [.pr .dig, .int .i64, .int .i64, .sl .atm]):Prop:=
 qQ (γ:=prodL [.pr .dig, .int .i64, .int .i64, .sl .atm]) (fun V y=>F44_B3 K V y.1 y.2.1 y.2.2.1 y.2.2.2.1) g
def F44_J20 (K:Kn) (patch_1:Dig) (l_1:List Atm):Prop:=
 F44_L3 K (patch_1,(l_1.length:Int),0,l_1,())
def F44 (g:prodL L44) (K:Kn):Prop:=
 w8.pre (g.1,g.2.1,g.2.2.1,g.2.2.2.1,g.2.2.2.2.1,())/\
 bif !decide ((jp g.1 g.2.1 g.2.2.1 g.2.2.2.1 g.2.2.2.2.1).2.2=0)then (
  K (.tu [.nil, .int .i64 ((jp g.1 g.2.1 g.2.2.1 g.2.2.2.1 g.2.2.2.2.1).2.2)]) [])
 else (
  sp15.pre (g.1,g.2.1,g.2.2.1,g.2.2.2.1,g.2.2.2.2.1,())/\
 bif !decide ((idP g.1 g.2.1 g.2.2.1 g.2.2.2.1 g.2.2.2.2.1).2=0)then (
  K (.tu [.nil, .int .i64 ((idP g.1 g.2.1 g.2.2.1 g.2.2.2.1 g.2.2.2.2.1).2)]) [])
 else (
  F44_J20 K ((idP g.1 g.2.1 g.2.2.1 g.2.2.2.1 g.2.2.2.2.1).1) ((jp g.1 g.2.1 g.2.2.1 g.2.2.2.1 g.2.2.2.2.1).1)))
theorem F44_eq (g:prodL L44) (K X:Kn):F44 g K=qJ D (qk [(87,rw87)] [(15,true,sp15),(36,false,w8),(86,false,sp86)]) (qx [(87,rw87)]) H44 J44 97 [.tmp 2, .tmp 3] (qz Tryz.f44) (argsT S44 L44 g) [] (settle0 K) X:=by kernel_rfl
theorem F44_ok (g:prodL L44) (K X:Kn) (h:F44 g K):FCalls Tryz.prog 44 (argsT S44 L44 g) [] K X:=
 FCalls.settle0 (qq (Γ:=qk [(87,rw87)] [(15,true,sp15),(36,false,w8),(86,false,sp86)]) (mu:=qx [(87,rw87)]) (H:=H44) (J:=J44) qW (qX (rs:=[(87,rw87)]) (l:=[(15,true,sp15),(36,false,w8),(86,false,sp86)]) (by intro p hp;simp only [List.mem_cons,List.not_mem_nil,or_false] at hp;subst hp;exact rw87_ok) (by intro p hp;simp only [List.mem_cons,List.not_mem_nil,or_false] at hp;rcases hp with rfl | rfl | rfl<;>first | exact sp15_ok | exact XU | exact sp86_ok)) qj rfl Tryz.func44 (c:=qz Tryz.f44) rfl Tryz.ntmps44 Tryz.results44 (by unfold qv;rw [Tryz.func44];kernel_rfl) (Nat.le_of_ble_eq_true (by kernel_rfl)) (c0:=0) (Eq.mp (F44_eq g K X) h))
end Go.Proofs.YtbglndogddddoaaGreatDoor
namespace Go.Proofs.YtbglndogddddoaaGreatDoor
open Go.RowKit
set_option maxRecDepth 100000
def lAt (d:Dig) (l:List Atm) (n:Nat):List Atm:=(l.take n).map (cmpA d)++l.drop n
theorem lAt_len (d:Dig) (l:List Atm) (n:Nat):(lAt d l n).length=l.length:=by
 unfold lAt
 rw [List.length_append,List.length_map,List.length_take,List.length_drop];omega
theorem lAt_get (d:Dig) {l:List Atm} {n:Nat} (h:n<l.length):(lAt d l n)[n]'(by rw [lAt_len];exact h)=l[n]:=by
 unfold lAt
 rw [List.getElem_append_right (by simp;omega)]
 simp [List.length_take,Nat.min_eq_left (Nat.le_of_lt h)]
theorem lAt_set (d:Dig) {l:List Atm} {n:Nat} (h:n<l.length):(lAt d l n).set n (cmpA d l[n])=lAt d l (n+1):=by
 unfold lAt
 rw [List.set_append_right _ _ (by simp;omega)]
 simp only [List.length_map,List.length_take,Nat.min_eq_left (Nat.le_of_lt h),Nat.sub_self]
 rw [List.drop_eq_getElem_cons h,List.set_cons_zero,zI h,List.map_append]
 simp
theorem Wy {K:Kn} {W:prodL [.pr .dig, .int .i64, .int .i64, .sl .atm]->Prop} {d:Dig} {i t t2:Int} {l:List Atm} {x:Atm} (hx:x.over.length<=4194304) (hi:0<=i/\i.toNat<l.length)
  (h:W (d,t,IntKind.i64.wrap (t2+1),l.set i.toNat (aJ17 d x),())):XP K W d i t t2 l x:=by
 unfold XP F44_L12
 refine qQ.map x.over (jC d) (fun n out=>(d,i,t,t2,x.over,(x.over.length:Int),n,l,x,out,())) (by omega) rfl (fun V n hn out ho hV=> ?_) fun V=> ?_
 . show ZC K W V d i t t2 x.over x.over.length n l x out
   unfold ZC
   rw [qo hn,cond_true]
   exact qB hn ⟨trivial,by simp only [List.length_singleton,ho];omega,hV⟩
 . show ZC K W V d i t t2 x.over x.over.length x.over.length l x (x.over.map (jC d))
   unfold ZC
   rw [qg,cond_false]
   refine ⟨by show (x.over.map (jC d)).length<=_;rw [List.length_map];exact hx, ?_⟩
   unfold F44_J16
   exact ⟨hi.1,hi.2,l[i.toNat],xK hi.2,h⟩
theorem VA {K:Kn} {W:prodL [.pr .dig, .int .i64, .int .i64, .sl .atm]->Prop} {d:Dig} {i t t2:Int} {l:List Atm} {x:Atm} (hx:x.over.length<=4194304) (hi:0<=i/\i.toNat<l.length)
  (h:W (d,t,IntKind.i64.wrap (t2+1),l.set i.toNat (aJ18 d x),())):Vx K W d i t t2 l x:=by
 unfold Vx
 unfold aJ18 at h
 cases e:decide (x.kind=6)
 . rw [e] at h;exact Wy hx hi h
 . rw [e] at h;exact ⟨trivial,trivial,Wy (by exact hx) hi h⟩
theorem Yg {K:Kn} {W:prodL [.pr .dig, .int .i64, .int .i64, .sl .atm]->Prop} {d:Dig} {i t t2:Int} {l:List Atm} {x:Atm} (hx:x.over.length<=4194304) (hi:0<=i/\i.toNat<l.length)
  (h:W (d,t,IntKind.i64.wrap (t2+1),l.set i.toNat (aJ19 d x),())):Vz K W d i t t2 l x:=by
 unfold Vz
 unfold aJ19 at h
 cases e:decide (x.kind=2)
 . rw [e] at h;exact VA hx hi h
 . rw [e] at h;exact ⟨trivial,VA (by exact hx) hi h⟩
theorem F44_L3_is {K:Kn} {d:Dig} {l:List Atm} (hl:l.length<=16777216) (hx: ∀x∈l,x.over.length<=4194304) (h:K2 K (l.map (cmpA d),0)):F44_L3 K (d,(l.length:Int),0,l,()):=by
 unfold F44_L3
 refine qQ.countTo l.length (fun n=>(d,(l.length:Int),(n:Int),lAt d l n,())) (fun _=>True) (by simp [lAt]) (fun n hn _ W hW=> ?_) trivial
 show F44_B3 K W d l.length n (lAt d l n)
 unfold F44_B3
 have hlen:=lAt_len d l n
 by_cases hlt:n<l.length
 . rw [qo hlt,cond_true]
   have hn':((n:Nat):Int).toNat< (lAt d l n).length:=by omega
   refine ⟨by omega,hn', ?_⟩
   have hW:=hW hlt trivial
   rw [<- lAt_set d hlt, <- zy hlt (by omega)] at hW
   refine ⟨l[n],by rw [toN,xK (show n< (lAt d l n).length by omega),lAt_get d hlt],trivial, ?_⟩
   have hxo:=hx l[n] (List.getElem_mem _)
   generalize l[n]=x at hW hxo
   show bif !decide (x.kind=7)then _ else _
   unfold cmpA at hW
   cases e:decide (x.kind=7)
   . rw [e] at hW
     exact ⟨trivial,Yg (by exact hxo) ⟨by omega,hn'⟩ (by rw [toN];exact hW)⟩
   . rw [e] at hW
     exact Yg (by exact hxo) ⟨by omega,hn'⟩ (by rw [toN];exact hW)
 . have:n=l.length:=by omega
   subst this
   rw [qg,cond_false]
   have:lAt d l l.length=l.map (cmpA d):=by unfold lAt;simp
   rw [this];exact h
theorem madeL_over {c:Chg} {n:Int} {x:Atm} (hx:x∈j8 c n):x.over=c.over∨x.over=[]:=by
 unfold j8 madK at hx
 split at hx
 case h_5=>
  rcases List.mem_append.1 hx with hx | hx
  . obtain ⟨i,_,rfl⟩:=List.mem_map.1 hx;exact .inr rfl
  . obtain ⟨i,_,rfl⟩:=List.mem_map.1 hx;exact .inr rfl
 case h_8=>cases hx
 all_goals (rw [List.mem_singleton.1 hx];first | exact .inl rfl | exact .inr rfl)
theorem Vn {f:Chg->Int} {r:Chg->List Atm->Int} {Q:List Idn->Prop} (h0:Q []): ∀{cs:List Chg} {own:List Atm},(∀c∈cs,Q c.over)->(∀x∈own,Q x.over)-> ∀x∈(xj f r cs own).1,Q x.over
 | [],own,_,h,x,hx=>h x hx
 | c::l,own,hc,h,x,hx=>by
  rw [xj] at hx
  cases e1:decide (f c=0)
  . rw [e1] at hx;cases hx
  rw [e1] at hx
  cases e2:decide (r c own=0)
  . rw [e2] at hx;cases hx
  rw [e2] at hx
  refine Vn h0 (fun d hd=>hc d (List.mem_cons_of_mem _ hd)) (fun y hy=> ?_) x hx
  rcases List.mem_append.1 hy with hy | hy
  . exact h y hy
  . rcases madeL_over hy with e | e
    . rw [e];exact hc c (List.mem_cons_self ..)
    . rw [e];exact h0
theorem KB {f:Chg->Int} {r:Chg->List Atm->Int} (hk: ∀c,f c=0->zN c): ∀{cs:List Chg} {own:List Atm},(xj f r cs own).1.length<=own.length+2*(cs.map qf).sum
 | [],own=>by simp [xj]
 | c::l,own=>by
  rw [xj]
  cases e1:decide (f c=0)
  . simp
  cases e2:decide (r c own=0)
  . simp
  simp only [Bool.not_true,cond_false]
  have h1:=KB (r:=r) hk (cs:=l) (own:=own++j8 c own.length)
  have h2:=VO (n:=(own.length:Int)) (hk c (of_decide_eq_true e1))
  rw [List.length_append] at h1
  simp only [List.map_cons,List.sum_cons]
  omega
theorem exP_atoms {a m:ByteArray} {t:Int} {ds:List Dig} {cs:List Chg}:(jp a m t ds cs).1=(yT cs).1∨(jp a m t ds cs).1=[]:=by
 unfold jp
 cases decide (zG zz a m t ds cs=0)
 . exact .inr rfl
 . simp only [Bool.not_true,cond_false]
   unfold Qg
   cases decide ((yT cs).2=0)
   . exact .inr rfl
   . simp only [Bool.not_true,cond_false]
     unfold qzy
     generalize (bif !decide ((xu (zE a m t (jt ds) cs)).2=0)then true else decide (65536< ((xu (zE a m t (jt ds) cs)).1.size:Int)))=b
     cases b
     . exact .inl rfl
     . exact .inr rfl
theorem exP_lens {a m:ByteArray} {t:Int} {ds:List Dig} {cs:List Chg} (hp:xP a m t ds cs):(jp a m t ds cs).1.length<=16777216/\ ∀x∈(jp a m t ds cs).1,x.over.length<=4194304:=by
 have h5:=hp.2.2.2.2.1
 rcases exP_atoms (a:=a) (m:=m) (t:=t) (ds:=ds) (cs:=cs)with e | e
 . rw [e]
   refine ⟨?_, ?_⟩
   . have:=KB (f:=zp) (r:=yD) (fun c=>zo) (cs:=cs) (own:=[])
     unfold yT
     simp only [List.length_nil] at this
     omega
   . exact Vn (Q:=fun l=>l.length<=4194304) (by simp) (fun c hc=>(zk (kx h5 hc)).2.2.2.2) (fun x hx=>by cases hx)
 . rw [e]
   exact ⟨by simp,fun x hx=>by cases hx⟩
theorem F44_is {a m:ByteArray} {t:Int} {ds:List Dig} {cs:List Chg} {K:Kn} (hp:xP a m t ds cs) (h:K2 K (yy a m t ds cs)):F44 (a,m,t,ds,cs,()) (xa K):=by
 have hl:=exP_lens hp
 unfold F44
 unfold yy at h
 refine ⟨hp, ?_⟩
 show bif !decide ((jp a m t ds cs).2.2=0)then _ else _
 cases e1:decide ((jp a m t ds cs).2.2=0)
 . rw [e1] at h;exact jH h
 rw [e1] at h
 rw [Bool.not_true,cond_false] at h ⊢
 refine ⟨hp, ?_⟩
 show bif !decide ((idP a m t ds cs).2=0)then _ else _
 cases e2:decide ((idP a m t ds cs).2=0)
 . rw [e2] at h;exact jH h
 rw [e2] at h
 exact F44_L3_is hl.1 hl.2 (xa.same h)
def sp44:Sp:=⟨S44,L44,fun g=>xP g.1 g.2.1 g.2.2.1 g.2.2.2.1 g.2.2.2.2.1,fun g=> .tu [.sl false .atm (yy g.1 g.2.1 g.2.2.1 g.2.2.2.1 g.2.2.2.2.1).1, .int .i64 (yy g.1 g.2.1 g.2.2.1 g.2.2.2.1 g.2.2.2.2.1).2],fun _=>none⟩
theorem sp44_ok:sp44.Ok Tryz.prog 44 false:=
 ⟨fun g K X hp h=>FCalls.weak (F44_ok g (xa K) X (F44_is hp h)),fun _ _ _=>rfl,fun _=>rfl,fun h=>(by cases h)⟩
set_option maxRecDepth 100000
def zm:List Chg:=[⟨1,iz,1,iz,⟨#[]⟩,0,⟨#[]⟩,iz,iz,[],[]⟩,⟨2,iz,0,⟨dz, -1⟩,⟨#[102]⟩,0,⟨#[]⟩,iz,iz,[],[]⟩,⟨5,iz,0,iz,⟨#[]⟩,0,⟨#[]⟩,iz,iz,[⟨#[120]⟩],[]⟩]
def YE:ByteArray:=⟨#[97,110,110]⟩
def Yi (c:Chg):Bool:=bif ke c.lines then true else decide (40< (c.over.length:Int))
def wL (cs:List Chg):Nat:=(cs.map fun c=>c.name.size+c.data.size).sum
def WN (n:Nat) (ds:List Dig) (cs:List Chg):Bool:=bif decide (3000< (n:Int))then true else bif decide (20< (ds.length:Int))then true else decide (20< (cs.length:Int))
def ka (a m:ByteArray) (t:Int) (ds:List Dig) (cs:List Chg):Bool:=bif cs.all (fun c=> !Yi c)then WN (a.size+m.size+wL cs) ds cs else true
end Go.Proofs.YtbglndogddddoaaGreatDoor
namespace Go.Proofs.YtbglndogddddoaaGreatDoor
open Go.RowKit
attribute [local irreducible] qJ qh
set_option maxRecDepth 100000
def H25:List (Nat×Hint):=[]
def J25:List (Nat×Hint):=[]
abbrev S25:List Sh:=[.ag [.leaf, .leaf, .leaf, .leaf, .leaf]]
abbrev L25:List Lf:=[.str, .str, .int .i64, .sl .dig, .sl .chg]
def F25 (g:prodL L25) (K:Kn):Prop:=
 sp44.pre (g.1,g.2.1,g.2.2.1,g.2.2.2.1,g.2.2.2.2.1,())/\
 K (.tu [.sl false .atm ((yy g.1 g.2.1 g.2.2.1 g.2.2.2.1 g.2.2.2.2.1).1), .int .i64 ((yy g.1 g.2.1 g.2.2.1 g.2.2.2.1 g.2.2.2.2.1).2)]) []
theorem F25_eq (g:prodL L25) (K X:Kn):F25 g K=qJ D (qk [] [(44,false,sp44)]) (qx []) H25 J25 13 [.tmp 2, .tmp 3] (qz Tryz.f25) (argsT S25 L25 g) [] (settle0 K) X:=by kernel_rfl
theorem F25_ok (g:prodL L25) (K X:Kn) (h:F25 g K):FCalls Tryz.prog 25 (argsT S25 L25 g) [] K X:=
 FCalls.settle0 (qq (Γ:=qk [] [(44,false,sp44)]) (mu:=qx []) (H:=H25) (J:=J25) qW (qX (rs:=[]) (l:=[(44,false,sp44)]) (fun p hp=>by cases hp) (by intro p hp;simp only [List.mem_cons,List.not_mem_nil,or_false] at hp;subst hp;exact sp44_ok)) qj rfl Tryz.func25 (c:=qz Tryz.f25) rfl Tryz.ntmps25 Tryz.results25 (by unfold qv;rw [Tryz.func25];kernel_rfl) (Nat.le_of_ble_eq_true (by kernel_rfl)) (c0:=0) (Eq.mp (F25_eq g K X) h))
def sp25:Sp:=⟨S25,L25,fun g=>sp44.pre g,fun g=> .tu [.sl false .atm ((yy g.1 g.2.1 g.2.2.1 g.2.2.2.1 g.2.2.2.2.1).1), .int .i64 ((yy g.1 g.2.1 g.2.2.1 g.2.2.2.1 g.2.2.2.2.1).2)],fun _=>none⟩
theorem sp25_ok:sp25.Ok Tryz.prog 25 false:=
 ⟨fun g K X hp h=>F25_ok g K X (by
  have h:K (.tu [.sl false .atm ((yy g.1 g.2.1 g.2.2.1 g.2.2.2.1 g.2.2.2.2.1).1), .int .i64 ((yy g.1 g.2.1 g.2.2.1 g.2.2.2.1 g.2.2.2.2.1).2)]) []:=h
  exact ⟨hp,h⟩),fun _ _ _=>rfl,fun _=>rfl,by first | exact fun _ _=>⟨rfl,rfl⟩ | (intro h;cases h)⟩
def H35:List (Nat×Hint):=[]
def J35:List (Nat×Hint):=[]
abbrev S35:List Sh:=[]
abbrev L35:List Lf:=[]
def F35 (g:prodL L35) (K:Kn):Prop:=
 True/\
 K (.ag [.str (⟨#[97,110,110]⟩:ByteArray), .str (⟨#[]⟩:ByteArray), .int .i64 5, .nil, .sl true .chg [(⟨1,iz,1,iz,(⟨#[]⟩:ByteArray),0,(⟨#[]⟩:ByteArray),iz,iz,[],[]⟩:Chg),(⟨2,iz,0,⟨dz, -1⟩,(⟨#[102]⟩:ByteArray),0,(⟨#[]⟩:ByteArray),iz,iz,[],[]⟩:Chg),(⟨5,iz,0,iz,(⟨#[]⟩:ByteArray),0,(⟨#[]⟩:ByteArray),iz,iz,[(⟨#[120]⟩:ByteArray)],[]⟩:Chg)]]) []
theorem F35_eq (g:prodL L35) (K X:Kn):F35 g K=qJ D (qk [] [(28,false,sp28)]) (qx []) H35 J35 8 [.cell 0 25] (qz Tryz.f35) (argsT S35 L35 g) [] (settle0 K) X:=by kernel_rfl
theorem F35_ok (g:prodL L35) (K X:Kn) (h:F35 g K):FCalls Tryz.prog 35 (argsT S35 L35 g) [] K X:=
 FCalls.settle0 (qq (Γ:=qk [] [(28,false,sp28)]) (mu:=qx []) (H:=H35) (J:=J35) qW (qX (rs:=[]) (l:=[(28,false,sp28)]) (fun p hp=>by cases hp) (by intro p hp;simp only [List.mem_cons,List.not_mem_nil,or_false] at hp;subst hp;exact qqm)) qj rfl Tryz.func35 (c:=qz Tryz.f35) rfl Tryz.ntmps35 Tryz.results35 (by unfold qv;rw [Tryz.func35];kernel_rfl) (Nat.le_of_ble_eq_true (by kernel_rfl)) (c0:=0) (Eq.mp (F35_eq g K X) h))
def H11:List (Nat×Hint):=[(3,⟨[((1,[]),none)],[(1, .pt 0 0),(3, .leaf),(4, .leaf)],[.cells [.leaf, .leaf, .leaf, .leaf, .leaf]],[.int .i64, .int .i64, .str, .str, .int .i64, .sl .dig, .sl .chg]⟩)]
def J11:List (Nat×Hint):=[(7,⟨[((1,[]),none),((5,[]),none)],[(1, .pt 0 0),(3, .leaf),(4, .leaf),(5, .pt 1 0),(33, .leaf)],[.cells [.leaf, .leaf, .leaf, .leaf, .leaf], .el],[.int .i64, .int .i64, .bool, .str, .str, .int .i64, .sl .dig, .sl .chg, .el .chg]⟩)]
abbrev S11:List Sh:=[.ag [.leaf, .leaf, .leaf, .leaf, .leaf]]
abbrev L11:List Lf:=[.str, .str, .int .i64, .sl .dig, .sl .chg]
def qzp (K:Kn) (W2:prodL [.int .i64, .int .i64, .str, .str, .int .i64, .sl .dig, .sl .chg]->Prop) (n_4 i_4:Int) (t_4:Bool) (p1_4 p2_4:ByteArray) (p3_4:Int) (p4_4:List Dig) (p5_4:List Chg) (c_4:Chg):Prop:=
 bif t_4 then (
  K (.bool true) [])
 else (
  W2 (IntKind.i64.wrap ((IntKind.i64.wrap (n_4+(c_4.name.size:Int)))+(c_4.data.size:Int)),IntKind.i64.wrap (i_4+1),p1_4,p2_4,p3_4,p4_4,p5_4,()))
def Wv (K:Kn) (W2:prodL [.int .i64, .int .i64, .str, .str, .int .i64, .sl .dig, .sl .chg]->Prop) (n_1 i_1:Int) (p1_1 p2_1:ByteArray) (p3_1:Int) (p4_1:List Dig) (p5_1:List Chg):Prop:=
 bif decide (i_1< (p5_1.length:Int))then (
  At p5_1 i_1 fun u3=>
 sp34.pre (u3.lines,())/\
 bif ke u3.lines then (
  qzp K W2 n_1 i_1 true p1_1 p2_1 p3_1 p4_1 p5_1 u3)
 else (
  qzp K W2 n_1 i_1 (decide (40< (u3.over.length:Int))) p1_1 p2_1 p3_1 p4_1 p5_1 u3))
 else (
  bif decide (3000<n_1)then (
  K (.bool true) [])
 else (
  bif decide (20< (p4_1.length:Int))then (
   K (.bool true) [])
  else (
   K (.bool (decide (20< (p5_1.length:Int)))) [])))
def F11_L2 (K:Kn) (g:prodL [.int .i64, .int .i64, .str, .str, .int .i64, .sl .dig, .sl .chg]):Prop:=
 qQ (γ:=prodL [.int .i64, .int .i64, .str, .str, .int .i64, .sl .dig, .sl .chg]) (fun V y=>Wv K V y.1 y.2.1 y.2.2.1 y.2.2.2.1 y.2.2.2.2.1 y.2.2.2.2.2.1 y.2.2.2.2.2.2.1) g
def F11 (g:prodL L11) (K:Kn):Prop:=
 F11_L2 K (IntKind.i64.wrap ((g.1.size:Int)+(g.2.1.size:Int)),0,g.1,g.2.1,g.2.2.1,g.2.2.2.1,g.2.2.2.2.1,())
theorem F11_eq (g:prodL L11) (K X:Kn):F11 g K=qJ D (qk [] [(34,true,sp34)]) (qx []) H11 J11 57 [.tmp 2] (qz Tryz.f11) (argsT S11 L11 g) [] (settle0 K) X:=by kernel_rfl
theorem F11_ok (g:prodL L11) (K X:Kn) (h:F11 g K):FCalls Tryz.prog 11 (argsT S11 L11 g) [] K X:=
 FCalls.settle0 (qq (Γ:=qk [] [(34,true,sp34)]) (mu:=qx []) (H:=H11) (J:=J11) qW (qX (rs:=[]) (l:=[(34,true,sp34)]) (fun p hp=>by cases hp) (by intro p hp;simp only [List.mem_cons,List.not_mem_nil,or_false] at hp;subst hp;exact sp34_ok)) qj rfl Tryz.func11 (c:=qz Tryz.f11) rfl Tryz.ntmps11 Tryz.results11 (by unfold qv;rw [Tryz.func11];kernel_rfl) (Nat.le_of_ble_eq_true (by kernel_rfl)) (c0:=0) (Eq.mp (F11_eq g K X) h))
end Go.Proofs.YtbglndogddddoaaGreatDoor
namespace Go.Proofs.YtbglndogddddoaaGreatDoor
open Go.RowKit
set_option maxRecDepth 100000
def sp35:Sp:=⟨S35,L35,fun _=>True,fun _=> .ag [.str ⟨#[97,110,110]⟩, .str ⟨#[]⟩, .int .i64 5, .sl false .dig [], .sl false .chg zm],fun _=>none⟩
theorem sp35_ok:sp35.Ok Tryz.prog 35 false:=
 ⟨fun g K X _ h=>FCalls.weak (F35_ok g (xa K) X ⟨trivial,_,zr.ag (qP.cons (zr.refl _) (qP.cons (zr.refl _) (qP.cons (zr.refl _) (qP.cons (zr.nil .dig) (qP.cons (zr.sl true .chg _) qP.nil))))),h⟩),fun _ _ _=>rfl,fun _=>rfl,fun h=>(by cases h)⟩
theorem gsum_take {cs:List Chg} {n:Nat} (h:n<cs.length):wL (cs.take (n+1))=wL (cs.take n)+(cs[n].name.size+cs[n].data.size):=by
 unfold wL
 rw [zI h,List.map_append,List.sum_append];simp
theorem gsum_le {cs:List Chg} (h:(cs.map qf).sum<=4194304) (n:Nat):wL (cs.take n)<=4194304:=by
 have h1: ∀l:List Chg,wL l<=(l.map qf).sum:=fun l=>by
  induction l with
  | nil=>simp [wL]
  | cons c l ih=>
   unfold wL at ih ⊢
   simp only [List.map_cons,List.sum_cons]
   have hb:c.name.size+c.data.size<=qf c:=by unfold qf;omega
   omega
 have e:(cs.map qf).sum=((cs.take n).map qf).sum+((cs.drop n).map qf).sum:=by
  rw [<- List.sum_append, <- List.map_append,List.take_append_drop]
 have:=h1 (cs.take n)
 omega
theorem lines_sumP {c:Chg} (h:qf c<=2097152):sumP c.lines:=by
 unfold sumP
 unfold qf at h
 omega
theorem F11_is {a m:ByteArray} {t:Int} {ds:List Dig} {cs:List Chg} {K:Kn} (hp:xP a m t ds cs) (hp2:(cs.map qf).sum<=2097152) (h:Y5 K (ka a m t ds cs)):F11 (a,m,t,ds,cs,()) K:=by
 obtain ⟨h1,h2,h3,h4,h5,h6⟩:=hp
 have hl:=yg h5
 unfold F11 F11_L2
 unfold ka at h
 rw [dec_allO] at h
 refine qQ.all cs.length (fun n=>(((a.size+m.size+wL (cs.take n):Nat):Int),(n:Int),a,m,t,ds,cs,())) (fun n=>(cs[n]?).all fun c=> !Yi c) (fun r=>Y5 K (bif r then WN (a.size+m.size+wL cs) ds cs else true)) h (by show (IntKind.i64.wrap ((a.size:Int)+(m.size:Int)),_)=_;rw [w64 (by omega)];simp [wL]) (fun W n hn ht hf=> ?_) fun ht W=> ?_
 . show Wv K W ((a.size+m.size+wL (cs.take n):Nat):Int) n a m t ds cs
   unfold Wv
   rw [qo hn,cond_true]
   have hm:=List.getElem_mem hn
   have hs:=gsum_le h5 n
   have hs1:=gsum_le h5 (n+1)
   rw [gsum_take hn] at hs1 ht
   simp only [xK hn,Option.all_some] at ht hf
   refine qB hn ⟨lines_sumP (Nat.le_trans (Zu qf hm) hp2), ?_⟩
   generalize cs[n]=c at hs1 ht hf ⊢
   have hJ: ∀b,(b=false->W (((a.size+m.size+(wL (cs.take n)+(c.name.size+c.data.size)):Nat):Int),((n+1:Nat):Int),a,m,t,ds,cs,()))->(b=true->Y5 K true)->qzp K W ((a.size+m.size+wL (cs.take n):Nat):Int) n b a m t ds cs c:=by
    intro b hb1 hb2
    unfold qzp
    cases b
    . have:=hb1 rfl
      rw [cond_false,zy hn (by omega),w64 (n:=((a.size+m.size+wL (cs.take n):Nat):Int)+(c.name.size:Int)) (by omega),w64 (by omega)]
      rw [show ((a.size+m.size+(wL (cs.take n)+(c.name.size+c.data.size)):Nat):Int)=((a.size+m.size+wL (cs.take n):Nat):Int)+(c.name.size:Int)+(c.data.size:Int)by omega] at this
      exact this
    . exact hb2 rfl
   unfold Yi at ht hf
   cases e:ke c.lines
   . rw [e] at ht hf
     exact hJ _ (fun e2=>ht (by rw [e2];rfl)) (fun e2=>hf (by rw [e2];rfl))
   . rw [e] at hf
     exact hJ true (fun e=>by cases e) (fun _=>hf rfl)
 . show Wv K W ((a.size+m.size+wL (cs.take cs.length):Nat):Int) cs.length a m t ds cs
   unfold Wv
   rw [qg,cond_false,List.take_length]
   have ht:Y5 K (WN (a.size+m.size+wL cs) ds cs):=ht
   unfold WN at ht
   exact qH (K:=Y5 K) id (qH (K:=Y5 K) id id) ht
def sp11:Sp:=⟨S11,L11,fun g=>xP g.1 g.2.1 g.2.2.1 g.2.2.2.1 g.2.2.2.2.1/\(g.2.2.2.2.1.map qf).sum<=2097152,fun g=> .bool (ka g.1 g.2.1 g.2.2.1 g.2.2.2.1 g.2.2.2.2.1),fun _=>none⟩
theorem sp11_ok:sp11.Ok Tryz.prog 11 true:=
 ⟨fun g K X hp h=>F11_ok g K X (F11_is hp.1 hp.2 h),fun _ _ _=>rfl,fun _=>rfl,fun _ _=>⟨rfl,rfl⟩⟩
theorem chgsS:yT zm=([⟨QE 0,1,QE 0,1,iz,⟨#[]⟩,0,⟨#[]⟩,⟨#[]⟩,iz,iz,[]⟩,⟨QE 1,2,iz,0,⟨dz, -1⟩,⟨#[102]⟩,0,⟨#[]⟩,⟨#[]⟩,iz,iz,[]⟩,
 ⟨QE 2,5,iz,0,iz,⟨#[]⟩,0,⟨#[]⟩,⟨#[120]⟩,iz,iz,[]⟩,⟨QE 3,6,iz,0,iz,⟨#[]⟩,0,⟨#[]⟩,⟨#[]⟩,iz,QE 2,[]⟩,⟨QE 4,6,iz,0,iz,⟨#[]⟩,0,⟨#[]⟩,⟨#[]⟩,QE 2,iz,[]⟩],0):=by kernel_rfl
theorem headS:zG zz YE ⟨#[]⟩ 5 [] zm=0:=by kernel_rfl
theorem num1 {n:Nat} (h:n<10):qV (n:Int)=qE ⟨#[UInt8.ofNat (48+n)]⟩:=by
 unfold qV vX
 rw [if_neg (by omega),decB_one h];rfl
theorem numM:qV (-1)=qE ⟨#[45,49]⟩:=by
 unfold qV vX
 rw [if_neg (by omega)]
 show (⟨false,z8 (-1),[]⟩:Sx)=_
 have:z8 (-1)=⟨#[45,49]⟩:=by
  unfold z8 Lib.itoa
  rw [if_pos (by omega),show (-1:Int).natAbs=1 from rfl,Lib.decDigits_one (by omega)];rfl
 rw [this];rfl
def qq0:Sx:=zZ [qE Yh,qE YE,qE ⟨#[]⟩,qE ⟨#[53]⟩,zZ [],zZ [
 zZ [qE ⟨#[49]⟩,qE ⟨#[49]⟩],
 zZ [qE ⟨#[50]⟩,zZ [qE ⟨#[]⟩,qE ⟨#[48]⟩],zZ [qE ⟨#[]⟩,qE ⟨#[45,49]⟩],qE ⟨#[102]⟩,zZ []],
 zZ [qE ⟨#[53]⟩,zZ [qE ⟨#[]⟩,qE ⟨#[48]⟩],zZ [qE ⟨#[]⟩,qE ⟨#[48]⟩],zZ [qE ⟨#[]⟩,qE ⟨#[48]⟩],zZ [qE ⟨#[120]⟩]]]]
theorem patS:zE YE ⟨#[]⟩ 5 (jt []) zm=qq0:=by
 have n0:=num1 (n:=0) (by omega)
 have n1:=num1 (n:=1) (by omega)
 have n2:=num1 (n:=2) (by omega)
 have n5:=num1 (n:=5) (by omega)
 have hz:jc dz=qE ⟨#[]⟩:=by kernel_rfl
 have i0:ql iz=zZ [qE ⟨#[]⟩,qE ⟨#[48]⟩]:=by
  show zZ [jc dz,qV ((0:Nat):Int)]=_
  rw [hz,n0];rfl
 have iM:ql ⟨dz, -1⟩=zZ [qE ⟨#[]⟩,qE ⟨#[45,49]⟩]:=by
  show zZ [jc dz,qV (-1)]=_
  rw [hz,numM]
 have e:zE YE ⟨#[]⟩ 5 (jt []) zm=zZ [qE Yh,qE YE,qE ⟨#[]⟩,qV ((5:Nat):Int),zZ [],zZ [
  zZ [qV ((1:Nat):Int),qV ((1:Nat):Int)],
  zZ [qV ((2:Nat):Int),ql iz,ql ⟨dz, -1⟩,qE ⟨#[102]⟩,zZ []],
  zZ [qV ((5:Nat):Int),ql iz,ql iz,ql iz,zZ [qE ⟨#[120]⟩]]]]:=rfl
 rw [e,n1,n2,n5,i0,iM];rfl
theorem jB {s:ByteArray} (n:Nat) (hs:s.size=n) (hn:n<10):yn (qE s)=⟨#[UInt8.ofNat (48+n)]⟩++⟨#[58]⟩++s:=by
 unfold qE
 rw [yn,if_pos rfl,hs,decB_one hn]
theorem enc_list (l:List Sx):yn (zZ l)=XV l ⟨#[40]⟩++⟨#[41]⟩:=by
 unfold zZ
 rw [yn,if_neg (by simp)]
def vp:ByteArray:=⟨#[40,54,58,113,117,105,108,116,49,51,58,97,110,110,48,58,49,58,53,40,41,40,40,49,58,49,49,58,49,41,40,49,58,50,40,48,58,49,58,48,41,40,48,58,50,58,45,49,41,49,58,102,40,41,41,40,49,58,53,40,48,58,49,58,48,41,40,48,58,49,58,48,41,40,48,58,49,58,48,41,40,49,58,120,41,41,41,41]⟩
theorem encS:yn qq0=vp:=by
 unfold qq0
 simp only [enc_list,XV,jB (s:=Yh) 6 rfl (by omega),jB (s:=YE) 3 rfl (by omega),jB (s:=⟨#[]⟩) 0 rfl (by omega),jB (s:=⟨#[48]⟩) 1 rfl (by omega),jB (s:=⟨#[49]⟩) 1 rfl (by omega),jB (s:=⟨#[50]⟩) 1 rfl (by omega),jB (s:=⟨#[53]⟩) 1 rfl (by omega),jB (s:=⟨#[102]⟩) 1 rfl (by omega),jB (s:=⟨#[120]⟩) 1 rfl (by omega),jB (s:=⟨#[45,49]⟩) 2 rfl (by omega)]
 rfl
theorem enTS:xu (zE YE ⟨#[]⟩ 5 (jt []) zm)=(vp,0):=by
 rw [patS]
 have h:ckG qq0=0:=by kernel_rfl
 unfold xu
 rw [if_pos h,encS]
end Go.Proofs.YtbglndogddddoaaGreatDoor
namespace Go.Proofs.YtbglndogddddoaaGreatDoor
open Go.RowKit
attribute [local irreducible] qJ qh
set_option maxRecDepth 100000
def H12:List (Nat×Hint):=[(6,⟨[],[(3, .leaf),(32, .leaf),(33, .leaf),(34, .leaf)],[],[.sl .atm, .sl .i64, .int .i64, .int .i64]⟩)]
def J12:List (Nat×Hint):=[(4,⟨[],[(3, .leaf),(31, .leaf)],[],[.sl .atm, .bool]⟩),(9,⟨[],[(3, .leaf),(32, .leaf),(33, .leaf),(34, .leaf),(55, .leaf)],[],[.sl .atm, .sl .i64, .int .i64, .int .i64, .bool]⟩)]
abbrev S12:List Sh:=[]
abbrev L12:List Lf:=[]
def F12_J9 (K:Kn) (W4:prodL [.sl .atm, .sl .i64, .int .i64, .int .i64]->Prop) (l_8:List Atm) (t_8:List Int) (t2_8 t3_8:Int) (t4_8:Bool):Prop:=
 bif t4_8 then (
  K (.bool false) [])
 else (
  W4 (l_8,t_8,t2_8,IntKind.i64.wrap (t3_8+1),()))
def F12_B4 (K:Kn) (W4:prodL [.sl .atm, .sl .i64, .int .i64, .int .i64]->Prop) (l_3:List Atm) (t_3:List Int) (t2_3 t3_3:Int):Prop:=
 bif decide (t3_3<t2_3)then (
  At t_3 t3_3 fun u5=>
 At l_3 t3_3 fun u6=>
 bif !decide (u6.kind=u5)then (
  F12_J9 K W4 l_3 t_3 t2_3 t3_3 true)
 else (
  At l_3 t3_3 fun u7=>
  F12_J9 K W4 l_3 t_3 t2_3 t3_3 (!decide (u7.id.n=t3_3))))
 else (
  At l_3 3 fun u10=>
 At l_3 0 fun u11=>
 bif qs u10.frm u11.id then (
  At l_3 3 fun u12=>
  At l_3 2 fun u13=>
  bif qs u12.til u13.id then (
   At l_3 4 fun u14=>
   At l_3 2 fun u15=>
   bif qs u14.frm u15.id then (
    At l_3 4 fun u16=>
    At l_3 0 fun u17=>
    K (.bool (qs u16.til u17.id)) [])
   else (
    K (.bool false) []))
  else (
   K (.bool false) []))
 else (
  K (.bool false) []))
def F12_L4 (K:Kn) (g:prodL [.sl .atm, .sl .i64, .int .i64, .int .i64]):Prop:=
 qQ (γ:=prodL [.sl .atm, .sl .i64, .int .i64, .int .i64]) (fun V y=>F12_B4 K V y.1 y.2.1 y.2.2.1 y.2.2.2.1) g
def VU (K:Kn) (l_1:List Atm) (t_1:Bool):Prop:=
 bif t_1 then (
  K (.bool false) [])
 else (
  F12_L4 K (l_1,[1,2,5,6,6],(([1,2,5,6,6].length:Nat):Int),0,()))
def F12 (g:prodL L12) (K:Kn):Prop:=
 True/\
 sp13.pre ((⟨#[97,110,110]⟩:ByteArray),(⟨#[]⟩:ByteArray),5,[],zm,())/\
 True/\
 sp25.pre ((⟨#[97,110,110]⟩:ByteArray),(⟨#[]⟩:ByteArray),5,[],zm,())/\
 bif !decide ((jp (⟨#[97,110,110]⟩:ByteArray) (⟨#[]⟩:ByteArray) 5 [] zm).2.2=0)then (
  VU K ((yy (⟨#[97,110,110]⟩:ByteArray) (⟨#[]⟩:ByteArray) 5 [] zm).1) true)
 else (
  bif !decide ((yy (⟨#[97,110,110]⟩:ByteArray) (⟨#[]⟩:ByteArray) 5 [] zm).2=0)then (
   VU K ((yy (⟨#[97,110,110]⟩:ByteArray) (⟨#[]⟩:ByteArray) 5 [] zm).1) true)
  else (
   bif !decide ((jp (⟨#[97,110,110]⟩:ByteArray) (⟨#[]⟩:ByteArray) 5 [] zm).2.1=(⟨#[40,54,58,113,117,105,108,116,49,51,58,97,110,110,48,58,49,58,53,40,41,40,40,49,58,49,49,58,49,41,40,49,58,50,40,48,58,49,58,48,41,40,48,58,50,58,45,49,41,49,58,102,40,41,41,40,49,58,53,40,48,58,49,58,48,41,40,48,58,49,58,48,41,40,48,58,49,58,48,41,40,49,58,120,41,41,41,41]⟩:ByteArray))then (
    VU K ((yy (⟨#[97,110,110]⟩:ByteArray) (⟨#[]⟩:ByteArray) 5 [] zm).1) true)
   else (
    VU K ((yy (⟨#[97,110,110]⟩:ByteArray) (⟨#[]⟩:ByteArray) 5 [] zm).1) (!decide (((((yy (⟨#[97,110,110]⟩:ByteArray) (⟨#[]⟩:ByteArray) 5 [] zm).1).length:Nat):Int)=5)))))
theorem F12_eq (g:prodL L12) (K X:Kn):F12 g K=qJ D (qk [] [(13,true,sp13),(25,false,sp25),(35,false,sp35)]) (qx []) H12 J12 99 [.tmp 0] (qz Tryz.f12) (argsT S12 L12 g) [] (settle0 K) X:=by kernel_rfl
theorem F12_ok (g:prodL L12) (K X:Kn) (h:F12 g K):FCalls Tryz.prog 12 (argsT S12 L12 g) [] K X:=
 FCalls.settle0 (qq qW (jx (zj sp13_ok (zj sp25_ok (zj sp35_ok jv)))) qj rfl Tryz.func12 (c:=qz Tryz.f12) rfl Tryz.ntmps12 Tryz.results12 (by unfold qv;rw [Tryz.func12];kernel_rfl) (Nat.le_of_ble_eq_true (by kernel_rfl)) (c0:=0) (Eq.mp (F12_eq g K X) h))
end Go.Proofs.YtbglndogddddoaaGreatDoor
namespace Go.Proofs.YtbglndogddddoaaGreatDoor
open Go.RowKit
set_option maxRecDepth 100000
def atS:List Atm:=[⟨QE 0,1,QE 0,1,iz,⟨#[]⟩,0,⟨#[]⟩,⟨#[]⟩,iz,iz,[]⟩,⟨QE 1,2,iz,0,⟨dz, -1⟩,⟨#[102]⟩,0,⟨#[]⟩,⟨#[]⟩,iz,iz,[]⟩,
 ⟨QE 2,5,iz,0,iz,⟨#[]⟩,0,⟨#[]⟩,⟨#[120]⟩,iz,iz,[]⟩,⟨QE 3,6,iz,0,iz,⟨#[]⟩,0,⟨#[]⟩,⟨#[]⟩,iz,QE 2,[]⟩,⟨QE 4,6,iz,0,iz,⟨#[]⟩,0,⟨#[]⟩,⟨#[]⟩,QE 2,iz,[]⟩]
def lS (d:Dig):List Atm:=atS.map (cmpA d)
theorem exS:jp YE ⟨#[]⟩ 5 [] zm=(atS,vp,0):=by
 unfold jp
 rw [headS,chgsS,enTS]
 rfl
theorem atmS:yy YE ⟨#[]⟩ 5 [] zm=(lS (YL vp),0):=by
 unfold yy idP
 rw [exS]
 rfl
theorem xS:xP YE ⟨#[]⟩ 5 [] zm:=by
 have i: ∀n:Int, -10<=n/\n<=100->jk n:=fun n h=>⟨by omega,by omega⟩
 refine ⟨i 5 (by omega),Nat.le_of_ble_eq_true rfl,Nat.le_of_ble_eq_true rfl,Nat.le_of_ble_eq_true rfl,Nat.le_of_ble_eq_true rfl,fun c hc=> ?_⟩
 simp only [zm,List.mem_cons,List.not_mem_nil,or_false] at hc
 rcases hc with rfl | rfl | rfl<;>exact ⟨i _ (by decide),i _ (by decide),i _ (by decide),i _ (by decide),i _ (by decide),i _ (by decide),fun x hx=>by cases hx⟩
theorem kS (d:Dig):(lS d).map Atm.kind=[1,2,5,6,6]:=by kernel_rfl
theorem nS (d:Dig):(lS d).map (fun x=>x.id.n)=[0,1,2,3,4]:=by kernel_rfl
theorem lS_len (d:Dig):(lS d).length=5:=rfl
theorem refS (d:Dig):((lS d).getD 3 az).frm=((lS d).getD 0 az).id/\((lS d).getD 3 az).til=((lS d).getD 2 az).id/\((lS d).getD 4 az).frm=((lS d).getD 2 az).id/\((lS d).getD 4 az).til=((lS d).getD 0 az).id:=⟨by kernel_rfl,by kernel_rfl,by kernel_rfl,by kernel_rfl⟩
theorem F12_L4_is {d:Dig} {K:Kn} (h:Y5 K true):F12_L4 K (lS d,[1,2,5,6,6],(([1,2,5,6,6].length:Nat):Int),0,()):=by
 have hk:=kS d
 have hn:=nS d
 have hl:=lS_len d
 obtain ⟨r1,r2,r3,r4⟩:=refS d
 generalize lS d=l at hk hn hl r1 r2 r3 r4
 unfold F12_L4
 refine qQ.countTo 5 (fun n=>(l,[1,2,5,6,6],((5:Nat):Int),(n:Int),())) (fun _=>True) rfl (fun n hn5 _ W hW=> ?_) trivial
 show F12_B4 K W l [1,2,5,6,6] ((5:Nat):Int) n
 unfold F12_B4
 by_cases hlt:n<5
 . rw [qo hlt,cond_true]
   have h5:n< ([1,2,5,6,6]:List Int).length:=hlt
   have hln:n<l.length:=by omega
   have e1:l[n].kind=([1,2,5,6,6]:List Int)[n]:=by
    have:(l.map Atm.kind)[n]? =([1,2,5,6,6]:List Int)[n]? :=by rw [hk]
    rw [List.getElem?_map,xK hln,xK h5] at this
    exact Option.some.inj this
   have e2:l[n].id.n=(n:Int):=by
    have:(l.map (fun x=>x.id.n))[n]? =([0,1,2,3,4]:List Int)[n]? :=by rw [hn]
    rw [List.getElem?_map,xK hln] at this
    have h3:n=0∨n=1∨n=2∨n=3∨n=4:=by omega
    have:=Option.some.inj (this.trans (show ([0,1,2,3,4]:List Int)[n]? =some (n:Int)by rcases h3 with rfl | rfl | rfl | rfl | rfl<;>rfl))
    exact this
   refine qB h5 (qB hln ?_)
   rw [decide_eq_true e1,Bool.not_true,cond_false]
   refine qB hln ?_
   rw [decide_eq_true e2,Bool.not_true]
   unfold F12_J9
   rw [cond_false,zy hlt (by omega)]
   exact hW hlt trivial
 . have:n=5:=by omega
   subst this
   rw [qg,cond_false]
   have at3: ∀{Q:Atm->Prop},Q (l.getD 3 az)->At l 3 Q:=fun hQ=>qB (n:=3) (by omega) (by rwa [List.getD_eq_getElem?_getD,xK (show 3<l.length by omega)] at hQ)
   have at0: ∀{Q:Atm->Prop},Q (l.getD 0 az)->At l 0 Q:=fun hQ=>qB (n:=0) (by omega) (by rwa [List.getD_eq_getElem?_getD,xK (show 0<l.length by omega)] at hQ)
   have at2: ∀{Q:Atm->Prop},Q (l.getD 2 az)->At l 2 Q:=fun hQ=>qB (n:=2) (by omega) (by rwa [List.getD_eq_getElem?_getD,xK (show 2<l.length by omega)] at hQ)
   have at4: ∀{Q:Atm->Prop},Q (l.getD 4 az)->At l 4 Q:=fun hQ=>qB (n:=4) (by omega) (by rwa [List.getD_eq_getElem?_getD,xK (show 4<l.length by omega)] at hQ)
   refine at3 (at0 ?_)
   rw [QQ,decide_eq_true r1,cond_true]
   refine at3 (at2 ?_)
   rw [QQ,decide_eq_true r2,cond_true]
   refine at4 (at2 ?_)
   rw [QQ,decide_eq_true r3,cond_true]
   refine at4 (at0 ?_)
   rw [QQ,decide_eq_true r4]
   exact h
def sp12:Sp:=⟨S12,L12,fun _=>True,fun _=> .bool true,fun _=>none⟩
theorem sp12_ok:sp12.Ok Tryz.prog 12 true:=
 ⟨fun g K X _ h=>F12_ok g K X (by
  unfold F12
  refine ⟨trivial,xS,trivial,xS, ?_⟩
  have e1:jp ⟨#[97,110,110]⟩ ⟨#[]⟩ 5 [] zm=(atS,vp,0):=exS
  have e2:yy ⟨#[97,110,110]⟩ ⟨#[]⟩ 5 [] zm=(lS (YL vp),0):=atmS
  rw [e1,e2]
  have hl:=lS_len (YL vp)
  have hL:=F12_L4_is (d:=YL vp) (K:=K) h
  generalize lS (YL vp)=l at hl hL
  show bif !decide (vp=vp)then _ else VU K l (!decide (((l.length:Nat):Int)=5))
  rw [decide_eq_true rfl,hl]
  exact hL),fun _ _ _=>rfl,fun _=>rfl,fun _ _=>⟨rfl,rfl⟩⟩
end Go.Proofs.YtbglndogddddoaaGreatDoor
namespace Go.Proofs.YtbglndogddddoaaGreatDoor
open Go.RowKit
attribute [local irreducible] qJ qh
set_option maxRecDepth 100000
def H5:List (Nat×Hint):=[]
def J5:List (Nat×Hint):=[]
abbrev S5:List Sh:=[.ag [.leaf, .leaf, .leaf, .leaf, .leaf], .leaf]
abbrev L5:List Lf:=[.str, .str, .int .i64, .sl .dig, .sl .chg, .int .i64]
def F5 (g:prodL L5) (K:Kn):Prop:=
 sp11.pre (g.1,g.2.1,g.2.2.1,g.2.2.2.1,g.2.2.2.2.1,())/\
 bif ka g.1 g.2.1 g.2.2.1 g.2.2.2.1 g.2.2.2.2.1 then (
  sp12.pre (())/\
  K (.bool true) [])
 else (
  sp19.pre (g.1,g.2.1,g.2.2.1,g.2.2.2.1,g.2.2.2.2.1,())/\
 sp20.pre (g.1,g.2.1,g.2.2.1,g.2.2.2.1,g.2.2.2.2.1,())/\
 bif decide ((jp g.1 g.2.1 g.2.2.1 g.2.2.2.1 g.2.2.2.2.1).2.2=(Qa g.1 g.2.1 g.2.2.1 g.2.2.2.1 g.2.2.2.2.1).2)then (
  sp21.pre (g.1,g.2.1,g.2.2.1,g.2.2.2.1,g.2.2.2.2.1,())/\
  sp22.pre (g.1,g.2.1,g.2.2.1,g.2.2.2.1,g.2.2.2.2.1,())/\
  bif decide ((((jp g.1 g.2.1 g.2.2.1 g.2.2.2.1 g.2.2.2.2.1).1.length:Nat):Int)=(cntR g.1 g.2.1 g.2.2.1 g.2.2.2.1 g.2.2.2.2.1))then (
   sp23.pre (g.1,g.2.1,g.2.2.1,g.2.2.2.1,g.2.2.2.2.1,g.2.2.2.2.2.1,())/\
   sp24.pre (g.1,g.2.1,g.2.2.1,g.2.2.2.1,g.2.2.2.2.1,g.2.2.2.2.2.1,())/\
   bif decide (firP g.1 g.2.1 g.2.2.1 g.2.2.2.1 g.2.2.2.2.1 g.2.2.2.2.2.1=firR g.1 g.2.1 g.2.2.1 g.2.2.2.1 g.2.2.2.2.1 g.2.2.2.2.2.1)then (
    sp12.pre (())/\
    K (.bool true) [])
   else (
    K (.bool false) []))
  else (
   K (.bool false) []))
 else (
  K (.bool false) []))
theorem F5_eq (g:prodL L5) (K X:Kn):F5 g K=qJ D (qk [] [(11,true,sp11),(12,true,sp12),(19,true,sp19),(20,true,sp20),(21,true,sp21),(22,true,sp22),(23,true,sp23),(24,true,sp24)]) (qx []) H5 J5 32 [.tmp 4] (qz Tryz.f5) (argsT S5 L5 g) [] (settle0 K) X:=by kernel_rfl
theorem F5_ok (g:prodL L5) (K X:Kn) (h:F5 g K):FCalls Tryz.prog 5 (argsT S5 L5 g) [] K X:=
 FCalls.settle0 (qq qW (jx (zj sp11_ok (zj sp12_ok (zj sp19_ok (zj qqI (zj sp21_ok (zj sp22_ok (zj sp23_ok (zj sp24_ok jv))))))))) qj rfl Tryz.func5 (c:=qz Tryz.f5) rfl Tryz.ntmps5 Tryz.results5 (by unfold qv;rw [Tryz.func5];kernel_rfl) (Nat.le_of_ble_eq_true (by kernel_rfl)) (c0:=0) (Eq.mp (F5_eq g K X) h))
def H4:List (Nat×Hint):=[]
def J4:List (Nat×Hint):=[(3,⟨[((3,[]),none),((4,[]),none)],[(3, .pt 0 0),(4, .pt 1 0),(7, .leaf),(8, .leaf),(9, .leaf),(40, .leaf)],[.el, .el],[.int .i64, .int .i64, .int .i64, .bool, .el .idk, .el .idk]⟩),(5,⟨[],[(7, .leaf),(8, .leaf),(9, .leaf),(72, .leaf)],[],[.int .i64, .int .i64, .int .i64, .bool]⟩)]
abbrev S4:List Sh:=[.leaf, .leaf, .leaf]
abbrev L4:List Lf:=[.el .idk, .el .idk, .el .idk]
def Jz (K:Kn) (x_3 y_3 z_3:Int) (t_3:Bool):Prop:=
 bif t_3 then (
  K (.bool false) [])
 else (
  bif decide (0<x_3)then (
  sp12.pre (())/\
  K (.bool true) [])
 else (
  bif decide (0<y_3)then (
   sp12.pre (())/\
   K (.bool true) [])
  else (
   bif decide (z_3<=0)then (
    sp12.pre (())/\
    K (.bool true) [])
   else (
    K (.bool false) []))))
def qqj (K:Kn) (x_1 y_1 z_1:Int) (t_1:Bool) (a_1 b_1:Idn):Prop:=
 bif t_1 then (
  K (.bool false) [])
 else (
  bif zq a_1.patch b_1.patch then (
  bif decide (a_1.n<b_1.n)then (
   bif !decide (x_1=(-1))then (
    Jz K x_1 y_1 z_1 true)
   else (
    bif !(zq a_1.patch b_1.patch)then (
     True/\
     Jz K x_1 y_1 z_1 (!decide (x_1=zz a_1.patch b_1.patch)))
    else (
     Jz K x_1 y_1 z_1 false)))
  else (
   bif !(zq a_1.patch b_1.patch)then (
    True/\
    Jz K x_1 y_1 z_1 (!decide (x_1=zz a_1.patch b_1.patch)))
   else (
    Jz K x_1 y_1 z_1 false)))
 else (
  bif !(zq a_1.patch b_1.patch)then (
   True/\
   Jz K x_1 y_1 z_1 (!decide (x_1=zz a_1.patch b_1.patch)))
  else (
   Jz K x_1 y_1 z_1 false)))
def F4 (g:prodL L4) (K:Kn):Prop:=
 True/\
 True/\
 True/\
 True/\
 bif !decide (jy g.1 g.2.1=IntKind.i64.wrap (0- (jy g.2.1 g.1)))then (
  qqj K (jy g.1 g.2.1) (jy g.2.1 g.2.2.1) (jy g.1 g.2.2.1) true g.1 g.2.1)
 else (
  bif !decide (decide (jy g.1 g.2.1=0)=qs g.1 g.2.1)then (
   qqj K (jy g.1 g.2.1) (jy g.2.1 g.2.2.1) (jy g.1 g.2.2.1) true g.1 g.2.1)
  else (
   bif decide (jy g.1 g.2.1< (-1))then (
    qqj K (jy g.1 g.2.1) (jy g.2.1 g.2.2.1) (jy g.1 g.2.2.1) true g.1 g.2.1)
   else (
    qqj K (jy g.1 g.2.1) (jy g.2.1 g.2.2.1) (jy g.1 g.2.2.1) (decide (1<jy g.1 g.2.1)) g.1 g.2.1)))
theorem F4_eq (g:prodL L4) (K X:Kn):F4 g K=qJ D (qk [] [(12,true,sp12),(17,true,sp17),(18,true,sp18)]) (qx []) H4 J4 86 [.tmp 6] (qz Tryz.f4) (argsT S4 L4 g) [] (settle0 K) X:=by kernel_rfl
theorem F4_ok (g:prodL L4) (K X:Kn) (h:F4 g K):FCalls Tryz.prog 4 (argsT S4 L4 g) [] K X:=
 FCalls.settle0 (qq qW (jx (zj sp12_ok (zj sp17_ok (zj sp18_ok jv)))) qj rfl Tryz.func4 (c:=qz Tryz.f4) rfl Tryz.ntmps4 Tryz.results4 (by unfold qv;rw [Tryz.func4];kernel_rfl) (Nat.le_of_ble_eq_true (by kernel_rfl)) (c0:=0) (Eq.mp (F4_eq g K X) h))
end Go.Proofs.YtbglndogddddoaaGreatDoor
namespace Go.Proofs.YtbglndogddddoaaGreatDoor
open Go.RowKit
set_option maxRecDepth 100000
theorem XN {d:Dig} (h:xY d): ∀x∈xk d,0<=x/\x<=255:=by
 have: ∀x∈xk d,IntKind.u8.min<=x/\x<=IntKind.u8.max:=by
  unfold xY at h
  unfold xk
  simp only [List.forall_mem_cons,List.not_mem_nil,false_implies,implies_true,and_true]
  exact h
 exact fun x hx=>u8_wf (this x hx)
theorem xm {x:Idn} (h:zd x):xY x.patch:=by
 unfold zd at h
 unfold xY
 simp only [h,and_self]
theorem wf_idk_n {x:Idn} (h:zd x):jk x.n:=by
 unfold zd at h
 have:IntKind.i64.min<=x.n/\x.n<=IntKind.i64.max:=by simp only [h,and_self]
 have h1:IntKind.i64.min= -9223372036854775808:=rfl
 have h2:IntKind.i64.max=9223372036854775807:=rfl
 exact ⟨by omega,by omega⟩
theorem digL_inj {a b:Dig} (h:xk a=xk b):a=b:=by
 have:=kC a b
 obtain ⟨a0,a1,a2,a3,a4,a5,a6,a7,a8,a9,a10,a11,a12,a13,a14,a15,a16,a17,a18,a19,a20,a21,a22,a23,a24,a25,a26,a27,a28,a29,a30,a31⟩:=a
 obtain ⟨b0,b1,b2,b3,b4,b5,b6,b7,b8,b9,b10,b11,b12,b13,b14,b15,b16,b17,b18,b19,b20,b21,b22,b23,b24,b25,b26,b27,b28,b29,b30,b31⟩:=b
 simp only [xk,List.cons.injEq,and_true] at h
 simpa only [Dig.mk.injEq] using h
theorem bs_inj {l m:List Int} (hl: ∀x∈l,0<=x/\x<=255) (hm: ∀x∈m,0<=x/\x<=255) (h:bs l=bs m):l=m:=
 bStr_inj hl hm (by unfold jJ;unfold bs at h;rw [h])
theorem cb_vals: ∀l m:List UInt8,Lib.compareBytes l m= -1∨Lib.compareBytes l m=0∨Lib.compareBytes l m=1
 | [],[]=> .inr (.inl rfl)
 | [],_::_=> .inl rfl
 | _::_,[]=> .inr (.inr rfl)
 | a::l,b::m=>by
  have:=cb_vals l m
  unfold Lib.compareBytes
  split
  . exact .inl rfl
  . split
    . exact .inr (.inr rfl)
    . exact this
theorem cb_zero: ∀l m:List UInt8,Lib.compareBytes l m=0->l=m
 | [],[],_=>rfl
 | [],_::_,h=>absurd h (show¬(-1:Int)=0 by decide)
 | _::_,[],h=>absurd h (show¬(1:Int)=0 by decide)
 | a::l,b::m,h=>by
  unfold Lib.compareBytes at h
  have hh: ∀x y:UInt8,x<y↔x.toNat<y.toNat:=fun x y=>Iff.rfl
  by_cases h1:a<b
  . simp [h1] at h
  . by_cases h2:b<a
    . simp [h1,h2] at h
    . simp only [h1,h2,if_false] at h
      have e:a=b:=by rw [hh] at h1 h2;exact UInt8.toNat_inj.1 (by omega)
      rw [e,cb_zero l m h]
theorem KP {a b:Dig} (ha:xY a) (hb:xY b):zz a b=0↔a=b:=by
 refine ⟨fun h=>digL_inj (bs_inj (XN ha) (XN hb) (cb_zero _ _ h)),fun h=>by rw [h,JO]⟩
theorem Yr (a b:Idn):jy a b= -1∨jy a b=0∨jy a b=1:=by
 unfold jy yC
 have:=cb_vals (bs (xk a.patch)) (bs (xk b.patch))
 have:zz a.patch b.patch= -1∨zz a.patch b.patch=0∨zz a.patch b.patch=1:=this
 cases decide (zz a.patch b.patch=0)
 . exact this
 . simp only [Bool.not_true,cond_false]
   cases decide (a.n<b.n)
   . simp only [cond_false]
     cases decide (b.n<a.n)
     . exact .inr (.inl rfl)
     . exact .inr (.inr rfl)
   . exact .inl rfl
theorem wH (a b:Idn):jy a b= - jy b a:=by
 have h1:=kf a b
 have h2:=kf b a
 have h3:=wR a.patch b.patch
 have h4:=Yr a b
 have h5:=Yr b a
 by_cases c1:jy a b<0
 . have:=h1.1 c1
   have c2: ¬jy b a<0:=fun c=>by have:=h2.1 c;omega
   have c3: ¬jy b a=0:=fun c=>by
    have h6: ¬(jy b a<0):=c2
    unfold jy at c
    by_cases z:zz b.patch a.patch=0
    . rw [decide_eq_true z,Bool.not_true,cond_false] at c
      unfold yC at c
      by_cases y:b.n<a.n
      . rw [decide_eq_true y] at c;exact absurd c (show¬(-1:Int)=0 by decide)
      . rw [decide_eq_false y,cond_false] at c
        by_cases x:a.n<b.n
        . rw [decide_eq_true x] at c;exact absurd c (show¬(1:Int)=0 by decide)
        . omega
    . rw [decide_eq_false z] at c
      exact z c
   omega
 . by_cases c2:jy b a<0
   . have:=h2.1 c2
     have c3: ¬jy a b=0:=fun c=>by
      unfold jy at c
      by_cases z:zz a.patch b.patch=0
      . rw [decide_eq_true z,Bool.not_true,cond_false] at c
        unfold yC at c
        by_cases y:a.n<b.n
        . rw [decide_eq_true y] at c;exact absurd c (show¬(-1:Int)=0 by decide)
        . rw [decide_eq_false y,cond_false] at c
          by_cases x:b.n<a.n
          . rw [decide_eq_true x] at c;exact absurd c (show¬(1:Int)=0 by decide)
          . omega
      . rw [decide_eq_false z] at c
        exact z c
     omega
   . have d1:=fun h=>c1 (h1.2 h)
     have d2:=fun h=>c2 (h2.2 h)
     have z:zz a.patch b.patch=0:=by
      rcases Int.lt_trichotomy (zz a.patch b.patch) 0 with h | h | h
      . exact absurd (.inl h) d1
      . exact h
      . exact absurd (.inl (by omega)) d2
     have z2:zz b.patch a.patch=0:=by omega
     have hn:a.n=b.n:=by
      rcases Int.lt_trichotomy a.n b.n with h | h | h
      . exact absurd (.inr ⟨z,h⟩) d1
      . exact h
      . exact absurd (.inr ⟨z2,h⟩) d2
     unfold jy yC
     rw [z,z2,hn]
     simp
theorem idC_zero {a b:Idn} (ha:zd a) (hb:zd b):jy a b=0↔a=b:=by
 refine ⟨fun h=> ?_,fun h=> ?_⟩
 . have h1:=kf a b
   have h2:=kf b a
   have h3:=wH a b
   have h4:=wR a.patch b.patch
   have d1: ¬(zz a.patch b.patch<0∨(zz a.patch b.patch=0/\a.n<b.n)):=fun c=>by have:=h1.2 c;omega
   have d2: ¬(zz b.patch a.patch<0∨(zz b.patch a.patch=0/\b.n<a.n)):=fun c=>by have:=h2.2 c;omega
   have z:zz a.patch b.patch=0:=by omega
   have hn:a.n=b.n:=by omega
   have hp:=(KP (xm ha) (xm hb)).1 z
   cases a;cases b
   simp only at hp hn
   rw [hp,hn]
 . subst h
   have:=wH a a
   omega
theorem patchOrder.calls (g:prodL L4) (hw:Yx L4 g) (hb:wn L4 g<=1048576):FCalls Tryz.prog 4 (argsT S4 L4 g) [] (fun r _=>r= .bool true) fun _ _=>False:=by
 obtain ⟨a,b,c,⟨⟩⟩:=g
 obtain ⟨ha,hb',hc, -⟩:=hw
 have ha:zd a:=ha
 have hb':zd b:=hb'
 refine F4_ok (a,b,c,()) _ _ ?_
 have hv:=Yr a b
 have han:=wH a b
 unfold F4
 refine ⟨trivial,trivial,trivial,trivial, ?_⟩
 show bif !decide (jy a b=IntKind.i64.wrap (0-jy b a))then _ else _
 rw [show IntKind.i64.wrap (0-jy b a)=jy a b by rw [wI (by omega)];omega,decide_eq_true rfl,Bool.not_true,cond_false]
 show bif !decide (decide (jy a b=0)=qs a b)then _ else _
 rw [decide_eq_true (show decide (jy a b=0)=qs a b by rw [QQ,decide_eq_decide];exact idC_zero ha hb'),Bool.not_true,cond_false]
 show bif decide (jy a b< -1)then _ else qqj _ (jy a b) (jy b c) (jy a c) (decide (1<jy a b)) a b
 rw [decide_eq_false (show¬jy a b< -1 by omega),decide_eq_false (show¬1<jy a b by omega),cond_false]
 have h4:Jz (fun r _=>r= .bool true) (jy a b) (jy b c) (jy a c) false:=by
  unfold Jz
  rw [cond_false]
  by_cases z1:0<jy a b
  . rw [decide_eq_true z1];exact ⟨trivial,rfl⟩
  rw [decide_eq_false z1,cond_false]
  by_cases z2:0<jy b c
  . rw [decide_eq_true z2];exact ⟨trivial,rfl⟩
  rw [decide_eq_false z2,cond_false]
  have z3:jy a c<=0:=by
   have:=swo_id.ntrans c b a
   unfold Go.Proofs.ltOf at this
   rw [decide_eq_false_iff_not,decide_eq_false_iff_not,decide_eq_false_iff_not] at this
   have h1:=wH c b
   have h2:=wH b a
   have h3:=wH c a
   omega
  rw [decide_eq_true z3];exact ⟨trivial,rfl⟩
 unfold qqj
 rw [cond_false]
 by_cases e:zq a.patch b.patch=true
 . rw [e,cond_true]
   have ep:a.patch=b.patch:=by rw [kC] at e;exact of_decide_eq_true e
   by_cases hn:a.n<b.n
   . have hx:jy a b= -1:=by
      have:=(kf a b).2 (.inr ⟨by rw [ep,JO],hn⟩)
      omega
     rw [decide_eq_true hn,cond_true]
     show bif !decide (jy a b= -1)then _ else _
     rw [decide_eq_true hx]
     exact h4
   . rw [decide_eq_false hn,cond_false]
     exact h4
 . have e:zq a.patch b.patch=false:=by simpa using e
   rw [e,cond_false]
   have hne: ¬zz a.patch b.patch=0:=fun z=>by
    have:=(KP (xm ha) (xm hb')).1 z
    rw [kC,decide_eq_true this] at e;cases e
   refine ⟨trivial, ?_⟩
   have hx:jy a b=zz a.patch b.patch:=by
    unfold jy
    rw [decide_eq_false hne];rfl
   rw [decide_eq_true hx]
   exact h4
end Go.Proofs.YtbglndogddddoaaGreatDoor
namespace Go.Proofs.YtbglndogddddoaaGreatDoor
open Go.RowKit Go.ChangeShapes
def qqq (e:El):Bool:=(lvs e).all fun l=>match l with | .fd=>false | _=>true
def DR:TD:=D.filter fun p=>match p.2.el with | some e=>qqq e | none=>true
theorem Wc {t:TypeId} {te:TI}: ∀(l:TD),qN l t=some te->(t,te)∈l
 | [],h=>by cases h
 | (j,x)::r,h=>by
  simp only [qN] at h
  split at h
  . rename_i e;subst e;injection h with h;subst h;exact List.mem_cons_self
  . exact List.mem_cons_of_mem _ (Wc r h)
theorem XJ {t:TypeId} {te:TI}: ∀(l:TD),(l.map (·.1)).Nodup->(t,te)∈l->qN l t=some te
 | [],_,h=>by cases h
 | (j,x)::r,hn,h=>by
  simp only [List.map_cons,List.nodup_cons] at hn
  rcases List.mem_cons.1 h with h | h
  . cases h;simp [qN]
  . have:j≠t:=by rintro rfl;exact hn.1 (List.mem_map.2 ⟨_,h,rfl⟩)
    simp only [qN]
    rw [if_neg (Ne.symm this)]
    exact XJ r hn.2 h
theorem DR_ok:zv Tryz.prog DR:=fun t ti h=>
 qW t ti (XJ D (of_decide_eq_true (by kernel_rfl:decide ((D.map (·.1)).Nodup)=true)) (List.mem_filter.1 (Wc DR h)).1)
theorem kinds_ok:X5 DR:=by
 have key:DR.all (fun p=>match p.2.el with | some e=>decide (wD DR 8 p.1=some (lvs e)) | none=>true)=true:=by kernel_rfl
 intro t te e ht he
 have:=List.all_eq_true.1 key _ (Wc DR ht)
 simp only [he] at this
 exact ⟨8,of_decide_eq_true this⟩
theorem the_kids:Kids Tryz.prog (· <Tryz.prog.types.size):=kids_rows (by kernel_rfl) (by kernel_rfl)
theorem the_full: ∀t e,t<Tryz.prog.types.size->Tryz.prog.underlying t=some (.slice e)->0<Tryz.prog.cellsOf e:=slices_full_of Tryz.prog (by kernel_rfl)
theorem the_knob:ownKnob Tryz.prog.godebug=none:=by kernel_rfl
theorem bulk_le {H:Type} {l:List (DataW H)} (hk:Rows.uptoSmall H l=true):Rows.uptoBulkAll l<=1048576:=by
 simpa [Rows.uptoSmall] using hk
theorem returns_row {H:Type} {enc:TypeId×Value->H} {a:Assume} {C:Checked} {os:Os} {f:FuncId} {fn:Func} {s:OpenSpec} {F:Stop.Interp} {conds:List PathCond} {apart fresh handsOn again:Bool} {laid:List (String×DataW Unit)}
  (own:ownKnob C.prog.godebug=none) (started:os.Started) (noInit:C.prog.inits.idxOf? f=none) (hfn:C.prog.funcs[f]? =some fn)
  (witness: ∃(w:World) (tape:Tape) (i:Input),w.os=os/\(w.forCall tape i).Shaped C.prog/\i.vars=[]/\Input.okWide C.prog (w.forCall tape i) .any w.heap.size f i/\
   s.preRow enc C.prog fn conds apart laid (w.forCall tape i).memory i.args/\a.holds C.prog (lone (Frame.enter C.prog f i.args .normal) [] (w.forCall tape i)))
  (contract: ∀(W:World) (base:Nat) (args:Array Value) (ds gs:List (DataW H)) (before:List MemPlace),
   (∀(j:Nat) t v,fn.params[j]? =some t->args[j]? =some v->Value.okWide C.prog W .any base t v)->
   DataW.Whole enc C.prog fn.params.toList s.vars apart W args.toList ds gs before->
   (∀k,s.cond=some k->k H (ds++gs)=true)->laidMetH C.prog laid W->
   Calls C.prog f args W fun e W'=> ∃v,e= .returned v/\(s.at F).post enc C.prog fn apart fresh handsOn again W args v W'):
  ReturnsInHanded a C os f .any (s.preRow enc C.prog fn conds apart laid) ((s.at F).post enc C.prog fn apart fresh handsOn again):=by
 refine returnsInHanded_of_calls own started noInit witness ?_
 intro w tape i _ _ _ hok hpre hholds
 obtain ⟨_,_,_,fn',hfn',_,_,_,_,hval⟩:=hok
 have e:fn'=fn:=Option.some.inj (hfn'.symm.trans hfn)
 subst e
 obtain ⟨⟨hp,hl⟩,_⟩:=hpre
 obtain ⟨ds,gs,before,hw,hc,hkk⟩:=OpenSpec.pre_parts hp
 have hw':=DataW.Whole.of_heap (w':=w.forCall tape i) (by rfl) hw
 refine (contract (w.forCall tape i) w.heap.size i.args ds gs before hval hw' hkk (hl.of_heap (by rfl))).mono fun e W' ⟨v,he,hp⟩=> ?_
 subst he
 exact ChangeSpec.post_blind hp
def qqO:List (String×DataW Unit):=Rows.patchEncodeUptoRow.laid
theorem door_met (os:Os) (args:Array Value):laidMetH Tryz.prog qqO ((World.doorLaid Tryz.prog 400 os).forCall (fun _ _=>0) ⟨#[],args,[]⟩).memory:=
 laidMetH_of_parts3 (fuel:=8) (laidMet_of_run' 8 (by kernel_rfl) (by kernel_rfl)) (by kernel_rfl) (by kernel_rfl)
theorem gPow:Tryz.prog.globalNamed "internal/strconv.uint64pow10" =some 3:=by kernel_rfl
theorem tPow:(Tryz.prog.globals[3]?).map (·.type)=some 255:=by kernel_rfl
theorem var_block {P:Program} {w:World} {n:String} {g:Nat} {cs:Array Value} (hg:P.globalNamed n=some g) (h:w.var? P n=some cs): ∃E fr,w.heap[g]? =some (.cells cs E fr):=by
 simp only [World.var?,hg,Option.bind_some] at h
 split at h
 . rename_i c E fr e
   simp only [Option.some.injEq] at h
   subst h
   exact ⟨_,_,e⟩
 . cases h
theorem laid_rd {W:World} (h:laidMetH Tryz.prog qqO W):LaidG (RdB W):=by
 rw [MakeChecks.laidMetH_plain _ _ _ (by kernel_rfl)] at h
 obtain ⟨ps,⟨_,_,_,_,_,_,_,_,_,_,⟨_,_,_,_,_,_,_,_,_,_,⟨g2,t2,cs2,f2,p2,q2,hg2,ht2,hv2,hd2,_,_⟩,_⟩,_⟩,_,_⟩:=h
 obtain rfl:=Option.some.inj (gPow.symm.trans hg2)
 obtain rfl:=Option.some.inj (tPow.symm.trans ht2)
 obtain ⟨E2,fr2,b2⟩:=var_block hg2 hv2
 refine ⟨?_, ?_⟩
 . obtain ⟨xs,m,rfl,hx1,hlen,hn,hel⟩:=DataW.trod_array Tryz.underlying255 hd2
   have c1:Tryz.prog.cellsOf 137=1:=by kernel_rfl
   have c2:Tryz.prog.cellsOf 255=20:=by kernel_rfl
   rw [c2] at hlen
   simp only [Prod.mk.injEq] at hx1
   have hl:(.agg (xs.map (·.1)):DataW Unit)= .agg ((List.range 20).map fun i=> .lit (.int .u64 ((10^i:Nat):Int))):=hx1.1.symm.trans (by kernel_rfl)
   injection hl with hl
   have hsz:cs2.size=20:=by simpa using hlen
   have key: ∀j,j<20->cs2[j]? =some (.int .u64 ((10^j:Nat):Int)):=fun j hj=>by
    have h1:=hel j hj
    rw [c1,Nat.mul_one] at h1
    obtain ⟨y,hy⟩: ∃y,xs[j]? =some y:=⟨xs[j],List.getElem?_eq_getElem (by omega)⟩
    rw [hy] at h1
    obtain ⟨n,e1,e2,_⟩:=DataW.trod_int Tryz.underlying137 h1
    have h2:=congrArg (·[j]?) hl
    simp only [List.getElem?_map,hy,Option.map_some,e2,List.getElem?_range hj] at h2
    simp only [Option.some.injEq,DataW.lit.injEq,Lit.int.injEq,true_and] at h2
    subst h2
    have h3:=congrArg (·[0]?) e1
    simp only [List.getElem?_take,List.getElem?_drop,Nat.add_zero,List.getElem?_cons_zero] at h3
    simpa using h3
   exact ⟨.mk 3 Zz cs2 E2 fr2 b2 (fun n h=>by have:=congrArg List.length h;simp [Zz] at this) (by simp [Zz,hsz]) (fun j u x hu hx _=>by
    have hj:j<20:=by have:=(List.getElem?_eq_some_iff.1 hu).1;simpa [Zz] using this
    rw [key j hj] at hx
    simp [Zz,hj] at hu hx
    subst hu;subst hx
    exact .int _ _), .ex 3 20 cs2 E2 fr2 b2 hsz (by decide)⟩
 . trivial
theorem door_shaped (os:Os) (args:Array Value):((World.doorLaid Tryz.prog 400 os).forCall (fun _ _=>0) ⟨#[],args,[]⟩).Shaped Tryz.prog:=
 World.shaped_of_RefB (by kernel_rfl) (by kernel_rfl)
theorem witness_row {H:Type} {enc:TypeId×Value->H} {os:Os} {f:FuncId} {fn:Func} {s:OpenSpec} {apart:Bool} (args:Array Value)
  (hok:Input.okWideB Tryz.prog ((World.doorLaid Tryz.prog 400 os).forCall (fun _ _=>0) ⟨#[],args,[]⟩) f ⟨#[],args,[]⟩=true)
  {x:List (DataW H)×List (DataW H)×List MemPlace} (hx:DataW.whole enc Tryz.prog ((World.doorLaid Tryz.prog 400 os).forCall (fun _ _=>0) ⟨#[],args,[]⟩).memory fn.params.toList s.vars apart args.toList 12=some x)
  (hkk: ∀k,s.cond=some k->k H (x.1++x.2.1)=true)
  (hsz:s.bare.sizedB enc Tryz.prog fn apart ((World.doorLaid Tryz.prog 400 os).forCall (fun _ _=>0) ⟨#[],args,[]⟩).memory args 12=true):
  ∃(w:World) (tape:Tape) (i:Input),w.os=os/\(w.forCall tape i).Shaped Tryz.prog/\i.vars=[]/\Input.okWide Tryz.prog (w.forCall tape i) .any w.heap.size f i/\
   s.preRow enc Tryz.prog fn [] apart qqO (w.forCall tape i).memory i.args/\({}:Assume).holds Tryz.prog (lone (Frame.enter Tryz.prog f i.args .normal) [] (w.forCall tape i)):=
 ⟨World.doorLaid Tryz.prog 400 os,fun _ _=>0,⟨#[],args,[]⟩,rfl,door_shaped os args,(Input.okWide_of_okWideB (base:=0) hok).1,(Input.okWide_of_okWideB hok).2,OpenSpec.preRow_of_cond 12 hx rfl hkk hsz (door_met os args),by
  simp only [Assume.holds]
  exact ⟨by simp,by simp,fun _=>Modest.zero,by simp,by simp⟩⟩
end Go.Proofs.YtbglndogddddoaaGreatDoor
namespace Go.Proofs.YtbglndogddddoaaGreatDoor
open Go.RowKit
set_option maxRecDepth 100000
theorem ofN_lt {a b:Int} (ha:0<=a/\a<=255) (hb:0<=b/\b<=255):(UInt8.ofNat a.toNat<UInt8.ofNat b.toNat)↔a<b:=by
 rw [UInt8.lt_iff_toNat_lt,UInt8.toNat_ofNat',UInt8.toNat_ofNat']
 have h1:a.toNat%2^8=a.toNat:=Nat.mod_eq_of_lt (by omega)
 have h2:b.toNat%2^8=b.toNat:=Nat.mod_eq_of_lt (by omega)
 rw [h1,h2]
 omega
theorem cb_cmp: ∀l m:List Int,l.length=m.length->(∀x∈l,0<=x/\x<=255)->(∀x∈m,0<=x/\x<=255)->Lib.compareBytes (bs l) (bs m)=cmpI l m
 | [],[],_,_,_=>rfl
 | [],_::_,h,_,_=>by cases h
 | _::_,[],h,_,_=>by cases h
 | a::l,b::m,h,ha,hb=>by
  have ih:=cb_cmp l m (by simpa using h) (fun x hx=>ha x (List.mem_cons_of_mem _ hx)) (fun x hx=>hb x (List.mem_cons_of_mem _ hx))
  have ha:=ha a (List.mem_cons_self ..)
  have hb:=hb b (List.mem_cons_self ..)
  show (if UInt8.ofNat a.toNat<UInt8.ofNat b.toNat then (-1:Int)else if UInt8.ofNat b.toNat<UInt8.ofNat a.toNat then 1 else Lib.compareBytes (bs l) (bs m))=bif decide (a<b)then -1 else bif decide (b<a)then 1 else cmpI l m
  rw [ih,Bool.cond_decide,Bool.cond_decide]
  simp only [ofN_lt ha hb,ofN_lt hb ha]
theorem KD {a b:Dig} (ha:xY a) (hb:xY b):zz a b=jL a b:=cb_cmp _ _ rfl (XN ha) (XN hb)
theorem idC_idI {a b:Idn} (ha:zd a) (hb:zd b):jy a b=idI a b:=by
 unfold jy idI
 rw [KD (xm ha) (xm hb)]
theorem headB_eq {a m:ByteArray} {t:Int} {ds:List Dig} {cs:List Chg} (h: ∀d∈ds,xY d):zG zz a m t ds cs=zG jL a m t ds cs:=by
 have e:depsE zz ds=depsE jL ds:=by
  refine Xn fun n hn=> ?_
  rw [Ja hn,Ja hn,KD (h _ (List.getElem_mem _)) (h _ (List.getElem_mem _))]
 unfold zG jQ
 rw [e]
theorem KU {k:Int}: ∀{l:List Int},(∀e∈l,e=0∨e=k)->errs l=0∨errs l=k
 | [],_=> .inl rfl
 | e::l,h=>by
  have ih:=KU fun x hx=>h x (List.mem_cons_of_mem e hx)
  have h0:=h e (List.mem_cons_self ..)
  unfold errs
  cases decide (e=0)
  . exact h0
  . exact ih
theorem overEs_vals (cmp:Idn->Idn->Int) (l:List Idn):vu cmp l=0∨vu cmp l=9:=by
 refine KU fun e he=> ?_
 obtain ⟨n,_,rfl⟩:=List.mem_map.1 he
 unfold Vd
 split
 . rename_i a b _ _
   cases decide (0<=cmp a b)
   . exact .inl rfl
   . exact .inr rfl
 . exact .inl rfl
theorem overEs_eq {l:List Idn} (h: ∀x∈l,zd x):vu jy l=vu idI l:=by
 refine Xn fun n _=> ?_
 unfold Vd
 split
 . rename_i a b ha hb
   rw [idC_idI (h _ (List.mem_of_getElem? ha)) (h _ (List.mem_of_getElem? hb))]
 . rfl
theorem ascI_eq {l:List Idn} (h: ∀x∈l,zd x):vu jy l=bif !(ascI l)then 9 else 0:=by
 rw [overEs_eq h]
 unfold ascI
 rcases overEs_vals idI l with e | e<;>rw [e]<;>rfl
theorem emptyB_parts {c:Chg} (h:wY c=true):c.typ=0/\c.mode=0/\c.lines=[]/\c.over=[]:=by
 unfold wY at h
 simp only [Bool.cond_false_right,Bool.and_eq_true,decide_eq_true_eq] at h
 obtain ⟨-,h1, -, -,h2, -, -, -,h3,h4⟩:=h
 exact ⟨h1,h2,List.eq_nil_of_length_eq_zero (by omega),List.eq_nil_of_length_eq_zero (by omega)⟩
theorem tidy_eq (c:Chg):jo c=wY (wo c):=emptyT_eq _
theorem Wg {c:Chg} (hk:zN c) (h:jo c=true):(c.kind≠3->c.mode=0)/\(c.kind≠5->c.lines=[])/\(c.kind=1∨c.kind=5->c.over=[]):=by
 rw [tidy_eq] at h
 obtain ⟨kind,file,typ,parent,name,mode,data,after,before,lines,over⟩:=c
 have hk1:(1:Int)<=kind/\kind<=7:=hk
 have:kind=1∨kind=2∨kind=3∨kind=4∨kind=5∨kind=6∨kind=7:=by omega
 have:=emptyB_parts h
 rcases ‹_∨_› with rfl | rfl | rfl | rfl | rfl | rfl | rfl<;>obtain ⟨h1,h2,h3,h4⟩:=this
 . exact ⟨fun _=>h2,fun _=>h3,fun _=>h4⟩
 . exact ⟨fun _=>h2,fun _=>h3,fun h=>by rcases h with h | h<;>cases h⟩
 . exact ⟨fun h=>absurd rfl h,fun _=>h3,fun h=>by rcases h with h | h<;>cases h⟩
 . exact ⟨fun _=>h2,fun _=>h3,fun h=>by rcases h with h | h<;>cases h⟩
 . exact ⟨fun _=>h2,fun h=>absurd rfl h,fun _=>h4⟩
 . exact ⟨fun _=>h2,fun _=>h3,fun h=>by rcases h with h | h<;>cases h⟩
 . exact ⟨fun _=>h2,fun _=>h3,fun h=>by rcases h with h | h<;>cases h⟩
theorem fields_eq {c:Chg} (h: ∀x∈c.over,zd x):zp c=jN c:=by
 unfold zp jN fP10 fR2
 cases ek:(bif decide (c.kind<1)then true else decide (7<c.kind))
 rotate_left
 . rfl
 have hk:zN c:=by
  by_cases h1:c.kind<1
  . rw [decide_eq_true h1] at ek;cases ek
  . rw [decide_eq_false h1,cond_false] at ek
    have:=of_decide_eq_false ek
    exact ⟨by omega,by omega⟩
 rw [cond_false,cond_false, <- tidy_eq]
 cases et:jo c
 . rfl
 obtain ⟨t1,t2,t3⟩:=Wg hk et
 simp only [Bool.not_true,cond_false]
 unfold fP9 fR4
 cases (bif decide (c.kind=1)then (bif decide (c.typ<1)then true else decide (4<c.typ))else false)
 rotate_left
 . rfl
 rw [cond_false,cond_false]
 unfold fP8 fR6
 cases (bif decide (c.kind=2)then !(xc c.name)else false)
 rotate_left
 . rfl
 rw [cond_false,cond_false]
 unfold fP7 fR8
 have e3:(bif decide (c.kind=3)then (bif decide (c.mode<0)then true else decide (511<c.mode))else false)=(bif decide (c.mode<0)then true else decide (511<c.mode)):=by
  by_cases k:c.kind=3
  . rw [decide_eq_true k];rfl
  . rw [decide_eq_false k,t1 k];rfl
 rw [e3]
 cases (bif decide (c.mode<0)then true else decide (511<c.mode))
 rotate_left
 . rfl
 rw [cond_false,cond_false]
 cases decide (65536< (c.data.size:Int))
 rotate_left
 . rfl
 rw [cond_false,cond_false]
 unfold fP6
 by_cases k:c.kind=5
 . have e0:vu jy ([]:List Idn)=0:=rfl
   have e7:decide (c.kind=7)=false:=decide_eq_false (by omega)
   rw [decide_eq_true k,cond_true,cond_true]
   unfold JF
   cases decide ((c.lines.length:Int)=0)
   rotate_left
   . rfl
   rw [cond_false,cond_false]
   cases decide (2000< (c.lines.length:Int))
   rotate_left
   . rfl
   rw [cond_false,cond_false]
   unfold fP12 fP15
   rw [e7,t3 (.inr k),e0]
   cases ez:decide (ZH c.lines=0)
   . rfl
   . exact (of_decide_eq_true ez).symm
 . have e0:ZH ([]:List ByteArray)=0:=rfl
   rw [decide_eq_false k,cond_false,cond_false,cond_false]
   unfold fP12
   rw [t2 k,e0]
   show fP15 _ c=fR10 _ c
   unfold fP15 fR10
   rw [ascI_eq h]
set_option maxRecDepth 100000
def yG (own:List Atm):Prop:=own.length<=100000/\ ∀(i:Nat) (a:Atm),own[i]? =some a->a.id=QE i
theorem X9 {own:List Atm} {x:Idn} {fd:Fd} {b:Bool} (hl:own.length<=100000) (hb:zq x.patch dz=true->0<=x.n->x.n< (own.length:Int)->fitFd fd (own.getD x.n.toNat az)=b):yN own ⟨x,fd⟩=jA x own b:=by
 unfold yN jA alwB QC
 dsimp only
 cases eo:zq x.patch dz
 . simp only [cond_false]
   by_cases h1:x.n<0
   . rw [decide_eq_true h1,decide_eq_false (show¬0<=x.n by omega)];rfl
   . rw [decide_eq_false h1,decide_eq_true (show 0<=x.n by omega)]
     simp only [cond_false,cond_true]
     by_cases h2:x.n<100000
     . rw [decide_eq_true h2,decide_eq_false (show¬100000<=x.n by omega)];rfl
     . rw [decide_eq_false h2,decide_eq_true (show 100000<=x.n by omega)];rfl
 . simp only [cond_true]
   by_cases h1:x.n<0
   . rw [decide_eq_true h1,decide_eq_false (show¬0<=x.n by omega)];rfl
   . rw [decide_eq_false h1,decide_eq_true (show 0<=x.n by omega)]
     simp only [cond_false,cond_true]
     by_cases h2:x.n< (own.length:Int)
     . rw [decide_eq_true h2,decide_eq_false (show¬(own.length:Int)<=x.n by omega),decide_eq_false (show¬100000<=x.n by omega),hb eo (by omega) h2];rfl
     . rw [decide_eq_false h2,decide_eq_true (show (own.length:Int)<=x.n by omega)];rfl
theorem Z0 {own:List Atm} {x:Idn} (h0:zq x.patch dz=true) (h1:0<=x.n) (h2:x.n< (own.length:Int)):vQ own x=own.getD x.n.toNat az:=by
 unfold vQ
 rw [h0,decide_eq_true h1,decide_eq_true h2];rfl
theorem own_id {own:List Atm} {x:Idn} (hw:yG own) (h0:zq x.patch dz=true) (h1:0<=x.n) (h2:x.n< (own.length:Int)):(own.getD x.n.toNat az).id=x:=by
 have hlt:x.n.toNat<own.length:=by omega
 have:=hw.2 x.n.toNat own[x.n.toNat] (xK hlt)
 rw [List.getD_eq_getElem?_getD,xK hlt,Option.getD_some,this]
 obtain ⟨p,n⟩:=x
 rw [kC] at h0
 have h0:p=dz:=of_decide_eq_true h0
 subst h0
 show (⟨dz,((n.toNat:Nat):Int)⟩:Idn)=⟨dz,n⟩
 have h1:0<=n:=h1
 rw [show ((n.toNat:Nat):Int)=n by omega]
theorem file_eq {own:List Atm} (hw:yG own) {k:Int} {x:Idn} {fd:Fd} (h: ∀a,fitFd fd a=yL k a):yN own ⟨x,fd⟩=jA x own (yL k (vQ own x)):=
 X9 hw.1 fun h0 h1 h2=>by rw [h,Z0 h0 h1 h2]
theorem dir_eq {own:List Atm} (hw:yG own) {x:Idn}:yN own ⟨x, .dir⟩=jA x own (bif decide ((vQ own x).kind=1)then decide ((vQ own x).typ=4)else false):=
 X9 hw.1 fun h0 h1 h2=>by rw [Z0 h0 h1 h2];rfl
theorem fin_eq {own:List Atm} (hw:yG own) {c:Chg} {x:Idn}:yN own ⟨x, .fin c⟩=jA x own (Q1 own c.file x):=
 X9 hw.1 fun h0 h1 h2=>by
  show WQ _ c=Q1 own c.file x
  unfold WQ Q1 qqx
  rw [own_id hw h0 h1 h2,Z0 h0 h1 h2]
theorem over_K {k:Int} (h:k=2∨k=3∨k=4∨k=6):overK k=k/\XZ k=k/\k≠7/\k≠0:=by
 rcases h with rfl | rfl | rfl | rfl<;>exact ⟨by kernel_rfl,rfl,by decide,by decide⟩
theorem sup_eq {own:List Atm} (hw:yG own) {c:Chg} (hk:c.kind=2∨c.kind=3∨c.kind=4∨c.kind=6∨c.kind=7) {x:Idn}:yN own ⟨x, .sup c⟩=jA x own (JK c.kind c.file (vQ own x)):=
 X9 hw.1 fun h0 h1 h2=>by
  show We _ c=_
  rw [Z0 h0 h1 h2]
  unfold We JK
  by_cases k7:c.kind=7
  . rw [k7];rfl
  . obtain ⟨e1,e2, -,e4⟩:=over_K (k:=c.kind) (by omega)
    rw [e1,e2,decide_eq_false k7,decide_eq_false e4]
theorem sups_eq {own:List Atm} (hw:yG own) {c:Chg} (hk:(c.kind=1∨c.kind=5)->c.over=[]) (hp:zN c):(qqE c).map (yN own)=JX c own:=by
 unfold qqE JX
 rw [List.map_map]
 obtain ⟨k1,k2⟩:=hp
 by_cases h:c.kind=1∨c.kind=5
 . rw [hk h];rfl
 . exact List.map_congr_left fun x _=>sup_eq hw (by omega)
theorem last_eq (c:Chg):Jf c=KS c:=by
 unfold Jf KS Ze
 cases (bif decide (c.kind=2)then qs c.parent c.file else false)
 rotate_left
 . rfl
 rw [cond_false,cond_false]
 unfold ZJ kZ
 by_cases k5:c.kind=5
 . have k6:decide (c.kind=6)=false:=decide_eq_false (by omega)
   rw [decide_eq_true k5,k6]
   cases qs c.after c.before<;>cases qs c.after c.file<;>rfl
 . by_cases k6:c.kind=6
   . rw [decide_eq_false k5,decide_eq_true k6]
     cases qs c.after c.before<;>cases qs c.after c.file<;>rfl
   . rw [decide_eq_false k5,decide_eq_false k6];rfl
def kr (a b:Int):Int:=bif !decide (a=0)then a else b
theorem wv (a b c:Int):kr (kr a b) c=kr a (kr b c):=by
 unfold kr
 by_cases h:a=0
 . subst h;rfl
 . simp [h]
theorem ZM (e:Int):errs [e]=e:=by
 unfold errs
 by_cases h:e=0
 . subst h;rfl
 . rw [decide_eq_false h];rfl
theorem Qx (l m:List Int):errs (l++m)=kr (errs l) (errs m):=by
 rw [Xr]
 unfold kr
 cases decide (errs l=0)<;>rfl
def KX (c:Chg):List Rfn:=bif (bif decide (c.kind=5)then true else decide (c.kind=6))then [⟨c.after,Fd.fin c⟩,⟨c.before,Fd.fin c⟩]++qqE c else qqE c
def midR (c:Chg):List Rfn:=bif (bif decide (c.kind=2)then !(qs c.parent ⟨dz, -1⟩)else false)then [⟨c.parent,Fd.dir⟩]++KX c else KX c
theorem rL24_eq (c:Chg) (out:List Rfn):rL24 c out=out++KX c:=by
 unfold rL24 rL17 KX
 cases (bif decide (c.kind=5)then true else decide (c.kind=6))
 . rfl
 . simp only [cond_true,List.append_assoc,List.cons_append,List.nil_append]
theorem XM (c:Chg) (out:List Rfn):qzY c out=out++midR c:=by
 unfold qzY rL12 midR
 cases (bif decide (c.kind=2)then !(qs c.parent ⟨dz, -1⟩)else false)
 . exact rL24_eq c out
 . simp only [cond_true]
   rw [rL24_eq,List.append_assoc]
theorem tail_eq {own:List Atm} (hw:yG own) {c:Chg} (ho:(c.kind=1∨c.kind=5)->c.over=[]) (hp:zN c):kr (errs ((KX c).map (yN own))) (Jf c)=rF26 own c:=by
 rw [last_eq]
 unfold KX rF26 kZ rF25
 cases (bif decide (c.kind=5)then true else decide (c.kind=6))
 . rw [cond_false,cond_false,sups_eq hw ho hp];rfl
 . rw [cond_true,cond_true]
   rw [List.map_append,List.map_cons,List.map_cons,List.map_nil,fin_eq hw,fin_eq hw,sups_eq hw ho hp,Qx, <- List.singleton_append,Qx,ZM,ZM,wv,wv]
   rfl
theorem mid_eq {own:List Atm} (hw:yG own) {c:Chg} (ho:(c.kind=1∨c.kind=5)->c.over=[]) (hp:zN c):kr (errs ((midR c).map (yN own))) (Jf c)=rF27 own c:=by
 have ht:=tail_eq hw ho hp
 unfold midR rF27 rF7 rF6
 cases (bif decide (c.kind=2)then !(qs c.parent ⟨dz, -1⟩)else false)
 . exact ht
 . rw [cond_true,cond_true,List.map_append,List.map_cons,List.map_nil,dir_eq hw,Qx,ZM,wv,ht]
   rfl
theorem refs_eq {own:List Atm} (hw:yG own) {c:Chg} (ho:(c.kind=1∨c.kind=5)->c.over=[]) (hp:zN c):yD c own=Qh c own:=by
 have hm:=mid_eq hw ho hp
 show kr (errs ((jj c).map (yN own))) (Jf c)=_
 have one: ∀{fd:Fd},(∀a,fitFd fd a=yL c.kind a)->kr (errs (([(⟨c.file,fd⟩:Rfn)]++midR c).map (yN own))) (Jf c)=rF1 own c:=fun hfd=>by
  rw [List.map_append,List.map_cons,List.map_nil,file_eq hw hfd,Qx,ZM,wv,hm]
  rfl
 obtain ⟨k1,k2⟩:=hp
 unfold jj rL8 rL7 Qh rF2
 rw [XM,XM,XM,XM]
 have hk:c.kind=1∨c.kind=2∨c.kind=3∨c.kind=4∨c.kind=5∨c.kind=6∨c.kind=7:=by omega
 rcases hk with k | k | k | k | k | k | k
 . rw [k];exact hm
 . rw [k];refine one fun a=> ?_
   rw [k];show decide (a.kind=1)=_;unfold yL;cases decide (a.kind=1)<;>rfl
 . rw [k];refine one fun a=> ?_
   rw [k];show decide (a.kind=1)=_;unfold yL;cases decide (a.kind=1)<;>rfl
 . rw [k];refine one fun a=> ?_
   rw [k];rfl
 . rw [k];refine one fun a=> ?_
   rw [k];rfl
 . rw [k];refine one fun a=> ?_
   rw [k];rfl
 . rw [k];exact hm
set_option maxRecDepth 100000
theorem XE {c:Chg} (h:zp c=0):jo c=true:=by
 unfold zp fP10 at h
 cases ek:(bif decide (c.kind<1)then true else decide (7<c.kind))
 rotate_left
 . rw [ek] at h;cases h
 rw [ek,cond_false] at h
 cases et:jo c
 . rw [et] at h;cases h
 . rfl
theorem range_at {β:Type} {f:Nat->β} {N j:Nat} {a:β} (h:((List.range N).map f)[j]? =some a):j<N/\a=f j:=by
 rw [List.getElem?_map] at h
 obtain ⟨i,hi,rfl⟩:=Option.map_eq_some_iff.1 h
 obtain ⟨h1,h2⟩:=List.getElem?_eq_some_iff.1 hi
 rw [List.getElem_range] at h2
 subst h2
 exact ⟨by simpa using h1,rfl⟩
theorem one_at {β:Type} {x a:β} {j:Nat} (h:[x][j]? =some a):j=0/\a=x:=by
 cases j with
 | zero=>exact ⟨rfl,(Option.some.inj h).symm⟩
 | succ j=>simp at h
theorem madeL_ids {c:Chg} {n:Int} (hk:zN c) {j:Nat} {a:Atm} (h:(j8 c n)[j]? =some a):a.id=QE (n+j):=by
 obtain ⟨kind,file,typ,parent,name,mode,data,after,before,lines,over⟩:=c
 have hk1:(1:Int)<=kind/\kind<=7:=hk
 have h0:n+((0:Nat):Int)=n:=by omega
 have:kind=1∨kind=2∨kind=3∨kind=4∨kind=5∨kind=6∨kind=7:=by omega
 rcases this with rfl | rfl | rfl | rfl | rfl | rfl | rfl
 rotate_right 3
 . have h:(QY (⟨5,file,typ,parent,name,mode,data,after,before,lines,over⟩:Chg) n++egsL ⟨5,file,typ,parent,name,mode,data,after,before,lines,over⟩ n)[j]? =some a:=h
   have hl:(QY (⟨5,file,typ,parent,name,mode,data,after,before,lines,over⟩:Chg) n).length=lines.length:=by simp [QY]
   by_cases hj:j<lines.length
   . rw [List.getElem?_append_left (by rw [hl];exact hj)] at h
     obtain ⟨-,rfl⟩:=range_at h
     rfl
   . rw [List.getElem?_append_right (by rw [hl];omega),hl] at h
     obtain ⟨-,rfl⟩:=range_at h
     show QE (n+(lines.length:Int)+((j-lines.length:Nat):Int))=_
     rw [show n+(lines.length:Int)+((j-lines.length:Nat):Int)=n+j by omega]
 all_goals
  obtain ⟨rfl,rfl⟩:=one_at h
  rw [h0]
theorem owns_app {own:List Atm} {c:Chg} (hw:yG own) (hk:zN c) (hl:own.length+(j8 c own.length).length<=100000):yG (own++j8 c own.length):=by
 refine ⟨by rw [List.length_append];exact hl,fun i a h=> ?_⟩
 by_cases hi:i<own.length
 . rw [List.getElem?_append_left hi] at h
   exact hw.2 i a h
 . rw [List.getElem?_append_right (by omega)] at h
   rw [madeL_ids hk h,show (own.length:Int)+((i-own.length:Nat):Int)=i by omega]
def atN (cs:List Chg):Nat:=(cs.map fun c=>2*c.lines.length+1).sum
theorem made_at {c:Chg} {n:Int} (hk:zN c):(j8 c n).length<=2*c.lines.length+1:=by
 rw [JM hk]
 split<;>omega
theorem chgs_eqG: ∀{cs:List Chg} {own:List Atm},yG own->own.length+atN cs<=100000->(∀c∈cs, ∀x∈c.over,zd x)->xj zp yD cs own=xj jN Qh cs own
 | [],_,_,_,_=>rfl
 | c::l,own,hw,hl,hx=>by
  have hl:own.length+(2*c.lines.length+1+atN l)<=100000:=hl
  rw [xj,xj, <- fields_eq (hx c (List.mem_cons_self ..))]
  by_cases hf:zp c=0
  rotate_left
  . rw [decide_eq_false hf];rfl
  have hk:=zo hf
  have ho:=(Wg hk (XE hf)).2.2
  have hm:=made_at (n:=own.length) hk
  rw [decide_eq_true hf,Bool.not_true,cond_false,cond_false,refs_eq hw ho hk]
  have ih:=chgs_eqG (cs:=l) (owns_app hw hk (by omega)) (by rw [List.length_append];omega) fun c' hc=>hx c' (List.mem_cons_of_mem _ hc)
  rw [ih]
theorem chgs_eq {cs:List Chg} (hl:atN cs<=100000) (hx: ∀c∈cs, ∀x∈c.over,zd x):yT cs=yS cs:=
 chgs_eqG ⟨Nat.zero_le _,fun i a h=>by cases h⟩ (by simpa using hl) hx
theorem Js: ∀(l:List Chg) (n:Int),l.foldl (fun n c=>n+wd c) n=n+vS l
 | [],n=>(Int.add_zero n).symm
 | c::l,n=>by
  show l.foldl _ (n+wd c)=n+l.foldl _ (0+wd c)
  rw [Js l,Js l]
  omega
theorem cntS_cons (c:Chg) (l:List Chg):vS (c::l)=wd c+vS l:=by
 show l.foldl _ (0+wd c)=_
 rw [Js]
 omega
theorem Kl {f:Chg->Int} {r:Chg->List Atm->Int} (hf: ∀c,f c=0->zN c): ∀{cs:List Chg} {own:List Atm},(∀c∈cs,c.lines.length<=4194304)->(xj f r cs own).2=0->((xj f r cs own).1.length:Int)=own.length+vS cs
 | [],own,_,_=>(Int.add_zero _).symm
 | c::l,own,hl,h=>by
  rw [xj] at h ⊢
  by_cases z:f c=0
  . rw [decide_eq_true z,Bool.not_true,cond_false] at h ⊢
    by_cases y:r c own=0
    . rw [decide_eq_true y,Bool.not_true,cond_false] at h ⊢
      rw [Kl hf (fun d hd=>hl d (List.mem_cons_of_mem _ hd)) h,cntS_cons,cntC_eq (hl c (List.mem_cons_self ..)),List.length_append,JM (hf c z)]
      split<;>omega
    . rw [decide_eq_false y] at h;exact absurd h y
  . rw [decide_eq_false z] at h;exact absurd h z
theorem qqo {cmp:Dig->Dig->Int} {a m:ByteArray} {t:Int} {ds:List Dig} {cs:List Chg} (h:zG cmp a m t ds cs=0): ∀d∈ds,zq d dz=false:=by
 unfold zG at h
 cases c1:xc a
 . rw [c1] at h;cases h
 rw [c1,Bool.not_true,cond_false] at h
 cases c2:decide (1000< (m.size:Int))
 rotate_left
 . rw [c2] at h;cases h
 rw [c2,cond_false] at h
 cases c3:(bif decide (t<0)then true else decide (1099511627776<t))
 rotate_left
 . rw [c3] at h;cases h
 rw [c3,cond_false] at h
 by_cases z:jQ cmp ds=0
 rotate_left
 . rw [decide_eq_false z] at h;exact absurd h z
 unfold jQ at z
 cases c4:decide (100< (ds.length:Int))
 rotate_left
 . rw [c4] at z;cases z
 rw [c4,cond_false] at z
 intro d hd
 obtain ⟨n,hn,rfl⟩:=List.getElem_of_mem hd
 have:=errsN_zero.1 z n hn
 rw [Ja hn] at this
 cases e:zq ds[n] dz
 . rfl
 . rw [e] at this;cases this
theorem patD_eq {ds:List Dig} (h: ∀d∈ds,zq d dz=false):ds.map jc=jt ds:=by
 refine List.map_congr_left fun d hd=> ?_
 unfold jc
 rw [h d hd];rfl
theorem exam {a m:ByteArray} {t:Int} {ds:List Dig} {cs:List Chg} (hd: ∀d∈ds,xY d) (hl:atN cs<=100000) (hx: ∀c∈cs, ∀x∈c.over,zd x):
  (jp a m t ds cs).2=Qa a m t ds cs:=by
 unfold jp Qa JD
 rw [headB_eq hd,chgs_eq hl hx]
 by_cases z:zG jL a m t ds cs=0
 rotate_left
 . rw [decide_eq_false z]
   show (_,_)=bif !decide (zG jL a m t ds cs=0)then _ else _
   rw [decide_eq_false z];rfl
 rw [decide_eq_true z,Bool.not_true,cond_false,cond_false]
 unfold Qg
 by_cases y:(yS cs).2=0
 rotate_left
 . rw [decide_eq_false y];rfl
 rw [decide_eq_true y,Bool.not_true,cond_false,cond_false]
 unfold encQ qzy
 rw [patD_eq (qqo z)]
 cases (bif !decide ((xu (zE a m t (jt ds) cs)).2=0)then true else decide (65536< ((xu (zE a m t (jt ds) cs)).1.size:Int)))<;>rfl
theorem exam_len {a m:ByteArray} {t:Int} {ds:List Dig} {cs:List Chg} (hd: ∀d∈ds,xY d) (hl:atN cs<=100000) (hx: ∀c∈cs, ∀x∈c.over,zd x) (hs: ∀c∈cs,c.lines.length<=4194304):
  (((jp a m t ds cs).1.length:Nat):Int)=cntR a m t ds cs:=by
 unfold cntR
 rw [<- exam hd hl hx]
 by_cases z:(jp a m t ds cs).2.2=0
 . rw [decide_eq_true z,exP_eq z,Bool.not_true,cond_false]
   have:=Kl (r:=yD) (fun c=>zo) (own:=[]) hs (qqG z).2.1
   rw [show (([]:List Atm).length:Int)=0 from rfl,Int.zero_add] at this
   exact this
 . rw [decide_eq_false z]
   unfold jp at z ⊢
   by_cases y:zG zz a m t ds cs=0
   rotate_left
   . rw [decide_eq_false y];rfl
   rw [decide_eq_true y,Bool.not_true,cond_false] at z ⊢
   unfold Qg at z ⊢
   by_cases x:(yT cs).2=0
   rotate_left
   . rw [decide_eq_false x];rfl
   rw [decide_eq_true x,Bool.not_true,cond_false] at z ⊢
   unfold qzy at z ⊢
   cases e:(bif !decide ((xu (zE a m t (jt ds) cs)).2=0)then true else decide (65536< ((xu (zE a m t (jt ds) cs)).1.size:Int)))
   . rw [e] at z;exact absurd rfl z
   . rfl
theorem fir_eq {a m:ByteArray} {t:Int} {ds:List Dig} {cs:List Chg} (hd: ∀d∈ds,xY d) (hl:atN cs<=100000) (hx: ∀c∈cs, ∀x∈c.over,zd x) (i:Int):
  firP a m t ds cs i=firR a m t ds cs i:=by
 unfold firP firR
 rw [<- exam hd hl hx]
 cases decide ((jp a m t ds cs).2.2=0)<;>cases decide (i<0)<;>cases decide ((cs.length:Int)<=i)<;>rfl
theorem atN_small {cs:List Chg} (h:cs.length<=20) (h2: ∀c∈cs,c.lines.length<=40):atN cs<=100000:=by
 have: ∀l:List Chg,(∀c∈l,c.lines.length<=40)->atN l<=81*l.length:=by
  intro l
  induction l with
  | nil=>intro _;exact Nat.le_refl _
  | cons c l ih=>
   intro h
   have:=ih fun x hx=>h x (List.mem_cons_of_mem _ hx)
   have:=h c (List.mem_cons_self ..)
   show 2*c.lines.length+1+atN l<=81*(l.length+1)
   omega
 have:=this cs h2
 omega
theorem not_great {a m:ByteArray} {t:Int} {ds:List Dig} {cs:List Chg} (h:ka a m t ds cs=false):atN cs<=100000:=by
 unfold ka at h
 cases e:cs.all (fun c=> !Yi c)
 . rw [e] at h;cases h
 rw [e,cond_true] at h
 unfold WN at h
 have h1:cs.length<=20:=by
  cases c1:decide (3000< ((a.size+m.size+wL cs:Nat):Int))
  . rw [c1,cond_false] at h
    cases c2:decide (20< (ds.length:Int))
    . rw [c2,cond_false] at h
      have:=of_decide_eq_false h
      omega
    . rw [c2] at h;cases h
  . rw [c1] at h;cases h
 refine atN_small h1 fun c hc=> ?_
 have:=List.all_eq_true.1 e c hc
 unfold Yi at this
 cases c3:ke c.lines
 . unfold ke at c3
   have c3:=(Bool.or_eq_false_iff.1 c3).1
   have:=of_decide_eq_false c3
   omega
 . rw [c3] at this;cases this
set_option maxRecDepth 100000
theorem Zx {n:Int} (h:IntKind.i64.min<=n/\n<=IntKind.i64.max):jk n:=by
 have h1:IntKind.i64.min= -9223372036854775808:=rfl
 have h2:IntKind.i64.max=9223372036854775807:=rfl
 exact ⟨by omega,by omega⟩
theorem ZY {c:Chg} (h:wf_chg c):chW c/\ ∀x∈c.over,zd x:=by
 unfold wf_chg at h
 have ho: ∀x∈c.over,zd x:=by
  have h:=h
  repeat (first | exact h | replace h:=h.2)
 refine ⟨⟨Zx (by simp only [h,and_self]),Zx (by simp only [h,and_self]),Zx (by simp only [h,and_self]),Zx (by simp only [h,and_self]),Zx (by simp only [h,and_self]),Zx (by simp only [h,and_self]),fun x hx=>wf_idk_n (ho x hx)⟩,ho⟩
theorem pat_in {a m:ByteArray} {t:Int} {ds:List Dig} {cs:List Chg} {B:Nat} (hB:a.size+1+(m.size+1+(1+((ds.map (bk .dig)).sum+1+((cs.map (bk .chg)).sum+1))))<=B) (hB1:B<=1048576)
  (ht:IntKind.i64.min<=t/\t<=IntKind.i64.max) (hd: ∀d∈ds,wfE .dig d) (hc: ∀c∈cs,wfE .chg c):
  xP a m t ds cs/\(cs.map qf).sum<=2097152/\(∀d∈ds,xY d)/\(∀c∈cs, ∀x∈c.over,zd x)/\ ∀c∈cs,c.lines.length<=4194304:=by
 have e:(cs.map (bk .chg)).sum=(cs.map qf).sum:=rfl
 have hl:=v6 (bk .dig) 1 ds fun d _=>by show 1<=qqu d;unfold qqu;omega
 have h2:(cs.map qf).sum<=2097152:=by omega
 refine ⟨⟨Zx ht,by omega,by omega,by omega,by omega,fun c h=>(ZY (hc c h)).1⟩,h2,hd,fun c h=>(ZY (hc c h)).2,fun c h=> ?_⟩
 have:=Zu qf h
 exact (zk (show wm c by unfold wm;omega)).2.2.1
theorem patchCheck.calls (g:prodL L5) (hw:Yx L5 g) (hb:wn L5 g<=1048576):FCalls Tryz.prog 5 (argsT S5 L5 g) [] (fun r _=>r= .bool true) fun _ _=>False:=by
 obtain ⟨a,m,t,ds,cs,i,⟨⟩⟩:=g
 obtain ⟨ht,hd,hc, -⟩:=hw
 have hb:a.size+1+(m.size+1+(1+((ds.map (bk .dig)).sum+1+((cs.map (bk .chg)).sum+1+(1+0)))))<=1048576:=hb
 obtain ⟨h1,h2,h3,h4,h5⟩:=pat_in (a:=a) (m:=m) (t:=t) (ds:=ds) (cs:=cs) (B:=1048576) (by omega) (Nat.le_refl _) ht hd hc
 refine F5_ok (a,m,t,ds,cs,i,()) _ _ ?_
 unfold F5
 refine ⟨⟨h1,h2⟩, ?_⟩
 show bif ka a m t ds cs then _ else _
 cases eg:ka a m t ds cs
 rotate_left
 . exact ⟨trivial,rfl⟩
 have hl:=not_great eg
 refine ⟨h1,h1, ?_⟩
 show bif decide ((jp a m t ds cs).2.2=(Qa a m t ds cs).2)then _ else _
 rw [decide_eq_true (show (jp a m t ds cs).2.2=(Qa a m t ds cs).2 by rw [exam h3 hl h4]),cond_true]
 refine ⟨h1,h1, ?_⟩
 show bif decide ((((jp a m t ds cs).1.length:Nat):Int)=cntR a m t ds cs)then _ else _
 rw [decide_eq_true (exam_len h3 hl h4 h5),cond_true]
 refine ⟨h1,h1, ?_⟩
 show bif decide (firP a m t ds cs i=firR a m t ds cs i)then _ else _
 rw [decide_eq_true (fir_eq h3 hl h4 i),cond_true]
 exact ⟨trivial,rfl⟩
end Go.Proofs.YtbglndogddddoaaGreatDoor
