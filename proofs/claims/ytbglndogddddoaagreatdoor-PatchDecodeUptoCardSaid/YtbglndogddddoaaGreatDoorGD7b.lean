import Derived.Test.YtbglndogddddoaaGreatDoorGD7a
set_option linter.unusedVariables false
set_option linter.unusedSimpArgs false
set_option linter.unusedSectionVars false
namespace Go.Proofs.YtbglndogddddoaaGreatDoor
section
open Go.RowKit
attribute [local irreducible] zb qa
set_option maxRecDepth 100000
def J61:List (Nat×Hint):=[(5,⟨[((2,[]),none),((3,[]),none),((4,[]),none)],[(0,.pt 0 0),(2,.pt 1 0),(3,.pt 2 0),(4,.pt 3 0),(20,.leaf)],[.cells [.leaf,.leaf],.el,.cells [.leaf,.leaf],.el],[.bool,.sl .sexp,.bool,.el .chg,.sl .sexp,.bool,.el .chg]⟩),(6,⟨[((2,[]),none),((3,[]),none),((4,[]),none)],[(0,.pt 0 0),(2,.pt 1 0),(3,.pt 2 0),(4,.pt 3 0)],[.cells [.leaf,.leaf],.el,.cells [.leaf,.leaf],.el],[.sl .sexp,.bool,.el .chg,.sl .sexp,.bool,.el .chg]⟩),(18,⟨[((2,[]),none),((3,[]),none),((4,[]),none)],[(0,.pt 0 0),(2,.pt 1 0),(3,.pt 2 0),(4,.pt 3 0),(49,.leaf)],[.cells [.leaf,.leaf],.el,.cells [.leaf,.leaf],.el],[.bool,.sl .sexp,.bool,.el .chg,.sl .sexp,.bool,.el .chg]⟩),(20,⟨[((2,[]),none),((3,[]),none),((4,[]),none)],[(0,.pt 0 0),(2,.pt 1 0),(3,.pt 2 0),(4,.pt 3 0)],[.cells [.leaf,.leaf],.el,.cells [.leaf,.leaf],.el],[.sl .sexp,.bool,.el .chg,.sl .sexp,.bool,.el .chg]⟩),(24,⟨[((2,[]),none),((3,[]),none),((4,[]),none)],[(0,.pt 0 0),(2,.pt 1 0),(3,.pt 2 0),(4,.pt 3 0)],[.cells [.leaf,.leaf],.el,.cells [.leaf,.leaf],.el],[.sl .sexp,.bool,.el .chg,.sl .sexp,.bool,.el .chg]⟩),(25,⟨[((2,[]),none),((4,[]),none)],[(2,.pt 1 0),(4,.pt 2 0)],[.cells [.leaf,.leaf],.el,.el],[.sl .sexp,.bool,.el .chg,.el .chg]⟩)]
abbrev S61:List Sh:=[.pt 0 0]
abbrev L61:List Lf:=[.sl .sexp,.bool]
abbrev O61:List ObSh:=[.cells [.leaf,.leaf]]
def qZg (K:Kn) (a:List Sx) (b:Bool) (d c:Chg):Prop:=
 K (.ag (enc .chg c)) [some (.cells [.sl false .sexp a,.bool b])]
def qxY (K:Kn) (a:List Sx) (e:Bool) (b:Chg) (f:List Sx) (g:Bool) (c:Chg):Prop:=
 jQ (γ:=prodL [.sl .sexp,.bool,.el .chg,.el .chg]) (fun y=>qZg K y.1 y.2.1 y.2.2.1 y.2.2.2.1) (fun d=>
  bif e then (
   d (a,true,b,c,()))
  else (
   bif g then (
    d (a,true,b,c,()))
   else (
    d (a,decide (0< (f.length:Int)),b,c,()))))
def Wr (K:Kn) (d:List Sx) (e:Bool) (f:Chg) (b:List Sx) (c:Bool) (a:Chg):Prop:=
 jQ (γ:=prodL [.sl .sexp,.bool,.el .chg,.sl .sexp,.bool,.el .chg]) (fun y=>qxY K y.1 y.2.1 y.2.2.1 y.2.2.2.1 y.2.2.2.2.1 y.2.2.2.2.2.1) (fun g=>
  bif decide (a.kind=5)then (
   qYg (b,c,())/\
   g (d,e,f,(qq lRx (b,c)).2.1,(qq lRx (b,c)).2.2,(⟨a.kind,a.file,a.typ,a.parent,a.name,a.mode,a.data,a.after,a.before,(qq lRx (b,c)).1,a.over⟩:Chg),()))
  else (
   bif !decide (a.kind=1)then (
    qYK (b,c,())/\
    g (d,e,f,(qq VA (b,c)).2.1,(qq VA (b,c)).2.2,(⟨a.kind,a.file,a.typ,a.parent,a.name,a.mode,a.data,a.after,a.before,a.lines,(qq VA (b,c)).1⟩:Chg),()))
   else (
    g (d,e,f,b,c,a,()))))
def qyG (K:Kn) (d:prodL [.sl .sexp,.bool,.el .chg,.sl .sexp,.bool,.el .chg]->Prop) (h:Bool) (e:List Sx) (f:Bool) (g:Chg) (b:List Sx) (c:Bool) (a:Chg):Prop:=
 bif h then (
       Va (b,c,())/\
       Va ((qq zt (b,c)).2.1,(qq zt (b,c)).2.2,())/\
       d (e,f,g,(qq zt ((qq zt (b,c)).2)).2.1,(qq zt ((qq zt (b,c)).2)).2.2,(⟨a.kind,a.file,a.typ,a.parent,a.name,a.mode,a.data,(qq zt (b,c)).1,(qq zt ((qq zt (b,c)).2)).1,a.lines,a.over⟩:Chg),()))
      else (
       d (e,f,g,b,c,a,()))
def QT (K:Kn) (d:List Sx) (e:Bool) (f:Chg) (b:List Sx) (c:Bool) (a:Chg):Prop:=
 jQ (γ:=prodL [.sl .sexp,.bool,.el .chg,.sl .sexp,.bool,.el .chg]) (fun y=>Wr K y.1 y.2.1 y.2.2.1 y.2.2.2.1 y.2.2.2.2.1 y.2.2.2.2.2.1) (fun g=>
  bif decide (a.kind=1)then (
   qzM (b,c,())/\
   g (d,e,f,(qq zq (b,c)).2.1,(qq zq (b,c)).2.2,(⟨a.kind,a.file,(qq zq (b,c)).1,a.parent,a.name,a.mode,a.data,a.after,a.before,a.lines,a.over⟩:Chg),()))
  else (
   bif decide (a.kind=2)then (
    Va (b,c,())/\
    VS ((qq zt (b,c)).2.1,(qq zt (b,c)).2.2,())/\
    g (d,e,f,(qq z7 ((qq zt (b,c)).2)).2.1,(qq z7 ((qq zt (b,c)).2)).2.2,(⟨a.kind,a.file,a.typ,(qq zt (b,c)).1,(qq z7 ((qq zt (b,c)).2)).1,a.mode,a.data,a.after,a.before,a.lines,a.over⟩:Chg),()))
   else (
    bif decide (a.kind=3)then (
     qzM (b,c,())/\
     g (d,e,f,(qq zq (b,c)).2.1,(qq zq (b,c)).2.2,(⟨a.kind,a.file,a.typ,a.parent,a.name,(qq zq (b,c)).1,a.data,a.after,a.before,a.lines,a.over⟩:Chg),()))
    else (
     bif decide (a.kind=4)then (
      VS (b,c,())/\
      g (d,e,f,(qq z7 (b,c)).2.1,(qq z7 (b,c)).2.2,(⟨a.kind,a.file,a.typ,a.parent,a.name,a.mode,(qq z7 (b,c)).1,a.after,a.before,a.lines,a.over⟩:Chg),()))
     else (
      jQ (γ:=prodL [.bool,.sl .sexp,.bool,.el .chg,.sl .sexp,.bool,.el .chg]) (fun y=>qyG K g y.1 y.2.1 y.2.2.1 y.2.2.2.1 y.2.2.2.2.1 y.2.2.2.2.2.1 y.2.2.2.2.2.2.1) (fun h=>
       bif decide (a.kind=5)then (
        h (true,d,e,f,b,c,a,()))
       else (
        h (decide (a.kind=6),d,e,f,b,c,a,()))))))))
def Kl (K:Kn) (d:prodL [.sl .sexp,.bool,.el .chg,.sl .sexp,.bool,.el .chg]->Prop) (h:Bool) (e:List Sx) (f:Bool) (g:Chg) (b:List Sx) (c:Bool) (a:Chg):Prop:=
 bif h then (
   Va (b,c,())/\
   d (e,f,g,(qq zt (b,c)).2.1,(qq zt (b,c)).2.2,(⟨a.kind,(qq zt (b,c)).1,a.typ,a.parent,a.name,a.mode,a.data,a.after,a.before,a.lines,a.over⟩:Chg),()))
  else (
   d (e,f,g,b,c,a,()))
def F61 (g:prodL L61) (K:Kn):Prop:=
 KM (g.1,g.2.1,())/\
 qzM ((qq qN (g.1,g.2.1)).1,false,())/\
 jQ (γ:=prodL [.sl .sexp,.bool,.el .chg,.sl .sexp,.bool,.el .chg]) (fun y=>QT K y.1 y.2.1 y.2.2.1 y.2.2.2.1 y.2.2.2.2.1 y.2.2.2.2.2.1) (fun b=>
  jQ (γ:=prodL [.bool,.sl .sexp,.bool,.el .chg,.sl .sexp,.bool,.el .chg]) (fun y=>Kl K b y.1 y.2.1 y.2.2.1 y.2.2.2.1 y.2.2.2.2.1 y.2.2.2.2.2.1 y.2.2.2.2.2.2.1) (fun a=>
   bif decide (2<=(qq zq ((qq qN (g.1,g.2.1)).1,false)).1)then (
    a (decide ((qq zq ((qq qN (g.1,g.2.1)).1,false)).1<=6),(qq qN (g.1,g.2.1)).2.1,(qq qN (g.1,g.2.1)).2.2,cz,(qq zq ((qq qN (g.1,g.2.1)).1,false)).2.1,(qq zq ((qq qN (g.1,g.2.1)).1,false)).2.2,(⟨(qq zq ((qq qN (g.1,g.2.1)).1,false)).1,iz,0,iz,(⟨#[]⟩:ByteArray),0,(⟨#[]⟩:ByteArray),iz,iz,[],[]⟩:Chg),()))
   else (
    a (false,(qq qN (g.1,g.2.1)).2.1,(qq qN (g.1,g.2.1)).2.2,cz,(qq zq ((qq qN (g.1,g.2.1)).1,false)).2.1,(qq zq ((qq qN (g.1,g.2.1)).1,false)).2.2,(⟨(qq zq ((qq qN (g.1,g.2.1)).1,false)).1,iz,0,iz,(⟨#[]⟩:ByteArray),0,(⟨#[]⟩:ByteArray),iz,iz,[],[]⟩:Chg),()))))
theorem qoj (g:prodL L61) (K X:Kn) (h:F61 g K):FCalls Tryz.prog 61 (argsT S61 L61 g) (qi S61 O61 L61 g) K X 0:=
 FCalls.settleG (qw Tryz.func61 Tryz.ntmps61 Tryz.results61 (qd WK (qd qxZ (qd Ju (qd qv9 (qd qap (qd qYF qj)))))) qz [] J61 (by kernel_rfl) (by kernel_rfl) h)
end
end Go.Proofs.YtbglndogddddoaaGreatDoor
