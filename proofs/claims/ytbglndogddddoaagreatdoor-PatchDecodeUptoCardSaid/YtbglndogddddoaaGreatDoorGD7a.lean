import Derived.Test.YtbglndogddddoaaGreatDoorGD7
set_option linter.unusedVariables false
set_option linter.unusedSimpArgs false
set_option linter.unusedSectionVars false
namespace Go.Proofs.YtbglndogddddoaaGreatDoor
section
open Go.RowKit
attribute [local irreducible] zb qa
set_option maxRecDepth 100000
def H55:List (Nat×Hint):=[(19,⟨[((2,[]),none),((3,[]),none),((4,[]),none),((4,[137]),none)],[(0,.pt 0 0),(2,.pt 1 0),(3,.pt 2 0),(4,.pt 3 0),(52,.leaf),(53,.leaf),(54,.leaf)],[.cells [.leaf,.leaf],.el,.cells [.leaf,.leaf],.elx 137 .str 4,.arr .str],[.sl .sexp,.int .i64,.int .i64,.sl .sexp,.bool,.el .chg,.sl .sexp,.bool,.el .chg,.sl .str]⟩)]
def J55:List (Nat×Hint):=[(4,⟨[((2,[]),none),((3,[]),none),((4,[]),none),((4,[137]),some .str)],[(0,.pt 0 0),(2,.pt 1 0),(3,.pt 2 0),(4,.pt 3 0),(19,.leaf)],[.cells [.leaf,.leaf],.el,.cells [.leaf,.leaf],.elx 137 .str 4,.arr .str],[.bool,.sl .sexp,.bool,.el .chg,.sl .sexp,.bool,.el .chg,.sl .str]⟩),(5,⟨[((2,[]),none),((3,[]),none),((4,[]),none),((4,[137]),none)],[(0,.pt 0 0),(2,.pt 1 0),(3,.pt 2 0),(4,.pt 3 0)],[.cells [.leaf,.leaf],.el,.cells [.leaf,.leaf],.elx 137 .str 4,.arr .str],[.sl .sexp,.bool,.el .chg,.sl .sexp,.bool,.el .chg,.sl .str]⟩),(16,⟨[((2,[]),none),((3,[]),none),((4,[]),none),((4,[137]),none)],[(0,.pt 0 0),(2,.pt 1 0),(3,.pt 2 0),(4,.pt 3 0),(42,.leaf)],[.cells [.leaf,.leaf],.el,.cells [.leaf,.leaf],.elx 137 .str 4,.arr .str],[.bool,.sl .sexp,.bool,.el .chg,.sl .sexp,.bool,.el .chg,.sl .str]⟩),(17,⟨[((2,[]),none),((3,[]),none),((4,[]),none),((4,[137]),none)],[(0,.pt 0 0),(2,.pt 1 0),(3,.pt 2 0),(4,.pt 3 0)],[.cells [.leaf,.leaf],.el,.cells [.leaf,.leaf],.elx 137 .str 4,.arr .str],[.sl .sexp,.bool,.el .chg,.sl .sexp,.bool,.el .chg,.sl .str]⟩),(25,⟨[((2,[]),none),((3,[]),none),((4,[]),none),((4,[137]),none)],[(0,.pt 0 0),(2,.pt 1 0),(3,.pt 2 0),(4,.pt 3 0)],[.cells [.leaf,.leaf],.el,.cells [.leaf,.leaf],.elx 137 .str 4,.arr .str],[.sl .sexp,.bool,.el .chg,.sl .sexp,.bool,.el .chg,.sl .str]⟩),(26,⟨[((2,[]),none),((4,[]),none),((4,[137]),none)],[(2,.pt 1 0),(4,.pt 2 0)],[.cells [.leaf,.leaf],.el,.elx 137 .str 3,.arr .str],[.sl .sexp,.bool,.el .chg,.el .chg,.sl .str]⟩)]
abbrev S55:List Sh:=[.pt 0 0]
abbrev L55:List Lf:=[.sl .sexp,.bool]
abbrev O55:List ObSh:=[.cells [.leaf,.leaf]]
def qZv (K:Kn) (b:List Sx) (c:Bool) (e a:Chg) (d:List ByteArray):Prop:=
 K (.ag (enc .chg (⟨a.kind,a.file,a.typ,a.parent,a.name,a.mode,a.data,a.after,a.before,d,a.over⟩:Chg))) [some (.cells [.sl false .sexp b,.bool c])]
def XB (K:Kn) (b:List Sx) (f:Bool) (c:Chg) (h:List Sx) (g:Bool) (a:Chg) (d:List ByteArray):Prop:=
 jQ (γ:=prodL [.sl .sexp,.bool,.el .chg,.el .chg,.sl .str]) (fun y=>qZv K y.1 y.2.1 y.2.2.1 y.2.2.2.1 y.2.2.2.2.1) (fun e=>
  bif f then (
   e (b,true,c,(⟨a.kind,a.file,a.typ,a.parent,a.name,a.mode,a.data,a.after,a.before,[],a.over⟩:Chg),d,()))
  else (
   e (b,g,c,(⟨a.kind,a.file,a.typ,a.parent,a.name,a.mode,a.data,a.after,a.before,[],a.over⟩:Chg),d,())))
def Jb (K:Kn) (m:prodL [.sl .sexp,.bool,.el .chg,.sl .sexp,.bool,.el .chg,.sl .str]->Prop) (n:prodL [.sl .sexp,.int .i64,.int .i64,.sl .sexp,.bool,.el .chg,.sl .sexp,.bool,.el .chg,.sl .str]->Prop) (d:List Sx) (e b:Int) (f:List Sx) (g:Bool) (h:Chg) (i:List Sx) (j:Bool) (a:Chg) (c:List ByteArray):Prop:=
 bif decide (b<e)then (
    At d b fun l=>
   ql (c.length+[l.atom].length) 16 (
   n (d,e,IntKind.i64.wrap (b+1),f,g,h,i,j,(⟨a.kind,a.file,a.typ,a.parent,a.name,a.mode,a.data,a.after,a.before,[],a.over⟩:Chg),c++[l.atom],())))
   else (
    m (f,g,h,i,j,(⟨a.kind,a.file,a.typ,a.parent,a.name,a.mode,a.data,a.after,a.before,[],a.over⟩:Chg),c,()))
def qQE (K:Kn) (a:prodL [.sl .sexp,.bool,.el .chg,.sl .sexp,.bool,.el .chg,.sl .str]->Prop) (g:prodL [.sl .sexp,.int .i64,.int .i64,.sl .sexp,.bool,.el .chg,.sl .sexp,.bool,.el .chg,.sl .str]):Prop:=
 qy (γ:=prodL [.sl .sexp,.int .i64,.int .i64,.sl .sexp,.bool,.el .chg,.sl .sexp,.bool,.el .chg,.sl .str]) (fun V y=>Jb K a V y.1 y.2.1 y.2.2.1 y.2.2.2.1 y.2.2.2.2.1 y.2.2.2.2.2.1 y.2.2.2.2.2.2.1 y.2.2.2.2.2.2.2.1 y.2.2.2.2.2.2.2.2.1 y.2.2.2.2.2.2.2.2.2.1) g
def WA (K:Kn) (d:List Sx) (e:Bool) (f:Chg) (b:List Sx) (c:Bool) (a:Chg) (g:List ByteArray):Prop:=
 jQ (γ:=prodL [.sl .sexp,.bool,.el .chg,.sl .sexp,.bool,.el .chg,.sl .str]) (fun y=>XB K y.1 y.2.1 y.2.2.1 y.2.2.2.1 y.2.2.2.2.1 y.2.2.2.2.2.1 y.2.2.2.2.2.2.1) (fun h=>
  bif decide (a.kind=5)then (
   qqn (b,c,())/\
   qQE K h ((qq zJ (b,c)).1,((((qq zJ (b,c)).1).length:Nat):Int),0,d,e,f,(qq zJ (b,c)).2.1,(qq zJ (b,c)).2.2,(⟨a.kind,a.file,a.typ,a.parent,a.name,a.mode,a.data,a.after,a.before,[],a.over⟩:Chg),g,()))
  else (
   bif decide (2<=a.kind)then (
    qKa (b,c,())/\
    h (d,e,f,(qq VL (b,c)).2.1,(qq VL (b,c)).2.2,(⟨a.kind,a.file,a.typ,a.parent,a.name,a.mode,a.data,a.after,a.before,[],(qq VL (b,c)).1⟩:Chg),g,()))
   else (
    h (d,e,f,b,c,(⟨a.kind,a.file,a.typ,a.parent,a.name,a.mode,a.data,a.after,a.before,[],a.over⟩:Chg),g,()))))
def qko (K:Kn) (d:prodL [.sl .sexp,.bool,.el .chg,.sl .sexp,.bool,.el .chg,.sl .str]->Prop) (i:Bool) (e:List Sx) (f:Bool) (g:Chg) (b:List Sx) (c:Bool) (a:Chg) (h:List ByteArray):Prop:=
 bif i then (
       X8 (b,c,())/\
       X8 ((qq zC (b,c)).2.1,(qq zC (b,c)).2.2,())/\
       d (e,f,g,(qq zC ((qq zC (b,c)).2)).2.1,(qq zC ((qq zC (b,c)).2)).2.2,(⟨a.kind,a.file,a.typ,a.parent,a.name,a.mode,a.data,(qq zC (b,c)).1,(qq zC ((qq zC (b,c)).2)).1,[],a.over⟩:Chg),h,()))
      else (
       d (e,f,g,b,c,(⟨a.kind,a.file,a.typ,a.parent,a.name,a.mode,a.data,a.after,a.before,[],a.over⟩:Chg),h,()))
def QR (K:Kn) (d:List Sx) (e:Bool) (f:Chg) (b:List Sx) (c:Bool) (a:Chg) (g:List ByteArray):Prop:=
 jQ (γ:=prodL [.sl .sexp,.bool,.el .chg,.sl .sexp,.bool,.el .chg,.sl .str]) (fun y=>WA K y.1 y.2.1 y.2.2.1 y.2.2.2.1 y.2.2.2.2.1 y.2.2.2.2.2.1 y.2.2.2.2.2.2.1) (fun h=>
  bif decide (a.kind=1)then (
   qza (b,c,())/\
   h (d,e,f,(qq zq (b,c)).2.1,(qq zq (b,c)).2.2,(⟨a.kind,a.file,(qq zq (b,c)).1,a.parent,a.name,a.mode,a.data,a.after,a.before,[],a.over⟩:Chg),g,()))
  else (
   bif decide (a.kind=2)then (
    X8 (b,c,())/\
    qqQ ((qq zC (b,c)).2.1,(qq zC (b,c)).2.2,())/\
    h (d,e,f,(qq jK ((qq zC (b,c)).2)).2.1,(qq jK ((qq zC (b,c)).2)).2.2,(⟨a.kind,a.file,a.typ,(qq zC (b,c)).1,(qq jK ((qq zC (b,c)).2)).1,a.mode,a.data,a.after,a.before,[],a.over⟩:Chg),g,()))
   else (
    bif decide (a.kind=3)then (
     qza (b,c,())/\
     h (d,e,f,(qq zq (b,c)).2.1,(qq zq (b,c)).2.2,(⟨a.kind,a.file,a.typ,a.parent,a.name,(qq zq (b,c)).1,a.data,a.after,a.before,[],a.over⟩:Chg),g,()))
    else (
     bif decide (a.kind=4)then (
      qqQ (b,c,())/\
      h (d,e,f,(qq jK (b,c)).2.1,(qq jK (b,c)).2.2,(⟨a.kind,a.file,a.typ,a.parent,a.name,a.mode,(qq jK (b,c)).1,a.after,a.before,[],a.over⟩:Chg),g,()))
     else (
      jQ (γ:=prodL [.bool,.sl .sexp,.bool,.el .chg,.sl .sexp,.bool,.el .chg,.sl .str]) (fun y=>qko K h y.1 y.2.1 y.2.2.1 y.2.2.2.1 y.2.2.2.2.1 y.2.2.2.2.2.1 y.2.2.2.2.2.2.1 y.2.2.2.2.2.2.2.1) (fun i=>
       bif decide (a.kind=5)then (
        i (true,d,e,f,b,c,(⟨a.kind,a.file,a.typ,a.parent,a.name,a.mode,a.data,a.after,a.before,[],a.over⟩:Chg),g,()))
       else (
        i (decide (a.kind=6),d,e,f,b,c,(⟨a.kind,a.file,a.typ,a.parent,a.name,a.mode,a.data,a.after,a.before,[],a.over⟩:Chg),g,()))))))))
def Y0 (K:Kn) (d:prodL [.sl .sexp,.bool,.el .chg,.sl .sexp,.bool,.el .chg,.sl .str]->Prop) (i:Bool) (e:List Sx) (f:Bool) (g:Chg) (b:List Sx) (c:Bool) (a:Chg) (h:List ByteArray):Prop:=
 bif i then (
   X8 (b,c,())/\
   d (e,f,g,(qq zC (b,c)).2.1,(qq zC (b,c)).2.2,(⟨a.kind,(qq zC (b,c)).1,a.typ,a.parent,a.name,a.mode,a.data,a.after,a.before,[],a.over⟩:Chg),h,()))
  else (
   d (e,f,g,b,c,(⟨a.kind,a.file,a.typ,a.parent,a.name,a.mode,a.data,a.after,a.before,[],a.over⟩:Chg),h,()))
def F55 (g:prodL L55) (K:Kn):Prop:=
 qqn (g.1,g.2.1,())/\
 qza ((qq zJ (g.1,g.2.1)).1,false,())/\
 jQ (γ:=prodL [.sl .sexp,.bool,.el .chg,.sl .sexp,.bool,.el .chg,.sl .str]) (fun y=>QR K y.1 y.2.1 y.2.2.1 y.2.2.2.1 y.2.2.2.2.1 y.2.2.2.2.2.1 y.2.2.2.2.2.2.1) (fun b=>
  jQ (γ:=prodL [.bool,.sl .sexp,.bool,.el .chg,.sl .sexp,.bool,.el .chg,.sl .str]) (fun y=>Y0 K b y.1 y.2.1 y.2.2.1 y.2.2.2.1 y.2.2.2.2.1 y.2.2.2.2.2.1 y.2.2.2.2.2.2.1 y.2.2.2.2.2.2.2.1) (fun a=>
   bif decide (2<=(qq zq ((qq zJ (g.1,g.2.1)).1,false)).1)then (
    a (decide ((qq zq ((qq zJ (g.1,g.2.1)).1,false)).1<=6),(qq zJ (g.1,g.2.1)).2.1,(qq zJ (g.1,g.2.1)).2.2,cz,(qq zq ((qq zJ (g.1,g.2.1)).1,false)).2.1,(qq zq ((qq zJ (g.1,g.2.1)).1,false)).2.2,(⟨(qq zq ((qq zJ (g.1,g.2.1)).1,false)).1,iz,0,iz,(⟨#[]⟩:ByteArray),0,(⟨#[]⟩:ByteArray),iz,iz,[],[]⟩:Chg),[],()))
   else (
    a (false,(qq zJ (g.1,g.2.1)).2.1,(qq zJ (g.1,g.2.1)).2.2,cz,(qq zq ((qq zJ (g.1,g.2.1)).1,false)).2.1,(qq zq ((qq zJ (g.1,g.2.1)).1,false)).2.2,(⟨(qq zq ((qq zJ (g.1,g.2.1)).1,false)).1,iz,0,iz,(⟨#[]⟩:ByteArray),0,(⟨#[]⟩:ByteArray),iz,iz,[],[]⟩:Chg),[],()))))
theorem qmW (g:prodL L55) (K X:Kn) (h:F55 g K):FCalls Tryz.prog 55 (argsT S55 L55 g) (qi S55 O55 L55 g) K X 0:=
 FCalls.settleG (qw Tryz.func55 Tryz.ntmps55 Tryz.results55 (qd qjh (qd qjP (qd Wq (qd qwM (qd qYv qj))))) qz H55 J55 (by kernel_rfl) (by kernel_rfl) h)
end
end Go.Proofs.YtbglndogddddoaaGreatDoor
