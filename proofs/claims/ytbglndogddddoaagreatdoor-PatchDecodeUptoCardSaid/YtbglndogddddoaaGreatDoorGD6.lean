import Derived.Shelf.SlSortCmp.WholeK
import Derived.Shelf.RegionOpenPlain
import Derived.WalkKit
import Derived.Lib.Walk
import Derived.Lib.Bytealg
import Derived.Lib.BytesEntry
import Derived.BigCall
import Derived.BigGuard
import Derived.Deep.Draws
import Derived.Deep.QuietTactic
import Derived.BigQuiet
import Derived.Test.YtbglndogddddoaaGreatDoorGD5
set_option linter.unusedVariables false
set_option linter.unusedSimpArgs false
set_option linter.unusedSectionVars false
namespace Go.Proofs.YtbglndogddddoaaGreatDoor
section
open Go.RowKit
attribute [local irreducible] zb qa
set_option maxRecDepth 100000
def H68:List (Nat×Hint):=[(18,⟨[((1,[]),none)],[(1,.pt 0 0),(73,.leaf),(74,.leaf),(75,.leaf)],[.el],[.sl .str,.int .i64,.int .i64,.el .chg]⟩),(28,⟨[((1,[]),none)],[(1,.pt 0 0),(5,.leaf)],[.el],[.int .i64,.el .chg]⟩)]
def J68:List (Nat×Hint):=[(2,⟨[((1,[]),none)],[(1,.pt 0 0),(6,.leaf)],[.el],[.bool,.el .chg]⟩),(6,⟨[((1,[]),none)],[(1,.pt 0 0),(19,.leaf)],[.el],[.bool,.el .chg]⟩),(8,⟨[((1,[]),none)],[(1,.pt 0 0),(33,.leaf)],[.el],[.bool,.el .chg]⟩),(10,⟨[((1,[]),none)],[(1,.pt 0 0),(43,.leaf)],[.el],[.bool,.el .chg]⟩),(14,⟨[((1,[]),none)],[(1,.pt 0 0),(57,.leaf)],[.el],[.bool,.el .chg]⟩),(24,⟨[((1,[]),none)],[(1,.pt 0 0),(83,.leaf)],[.el],[.bool,.el .chg]⟩)]
abbrev S68:List Sh:=[.leaf]
abbrev L68:List Lf:=[.el .chg]
def XA (K:Kn) (c:prodL [.int .i64,.el .chg]->Prop) (a:Int) (b:Chg):Prop:=
 bif decide (a< (b.over.length:Int))then (
  At b.over (IntKind.i64.wrap (a-1)) fun d=>
 At b.over a fun e=>
 True/\
 bif decide (0<=idC d e)then (
  K (.int .i64 9) [])
 else (
  c (IntKind.i64.wrap (a+1),b,())))
 else (
  K (.int .i64 0) [])
def qj0 (K:Kn) (g:prodL [.int .i64,.el .chg]):Prop:=
 qy (γ:=prodL [.int .i64,.el .chg]) (fun V y=>XA K V y.1 y.2.1) g
def JP (K:Kn) (b:Bool) (a:Chg):Prop:=
 bif b then (
  K (.int .i64 1) [])
 else (
  bif decide (400< (a.over.length:Int))then (
   K (.int .i64 4) [])
  else (
   qj0 K (1,a,())))
def Xq (K:Kn) (f:prodL [.sl .str,.int .i64,.int .i64,.el .chg]->Prop) (c:List ByteArray) (d b:Int) (a:Chg):Prop:=
 bif decide (b<d)then (
  At c b fun e=>
 qh0.pre (e,())/\
 bif !(yp e)then (
  K (.int .i64 3) [])
 else (
  f (c,d,IntKind.i64.wrap (b+1),a,())))
 else (
  bif decide (a.kind=7)then (
  JP K (decide ((a.over.length:Int)=0)) a)
 else (
  JP K false a))
def qjw (K:Kn) (g:prodL [.sl .str,.int .i64,.int .i64,.el .chg]):Prop:=
 qy (γ:=prodL [.sl .str,.int .i64,.int .i64,.el .chg]) (fun V y=>Xq K V y.1 y.2.1 y.2.2.1 y.2.2.2.1) g
def qqK (K:Kn) (b:Bool) (a:Chg):Prop:=
 bif b then (
        K (.int .i64 1) [])
       else (
        bif decide (2000< (a.lines.length:Int))then (
         K (.int .i64 4) [])
        else (
         qjw K (a.lines,(a.lines.length:Int),0,a,())))
def qqJ (K:Kn) (b:Bool) (a:Chg):Prop:=
 bif b then (
      K (.int .i64 2) [])
     else (
      bif decide (65536< (a.data.size:Int))then (
       K (.int .i64 4) [])
      else (
       bif decide (a.kind=5)then (
        qqK K (decide ((a.lines.length:Int)=0)) a)
       else (
        qqK K false a)))
def qjp (K:Kn) (b:Bool) (a:Chg):Prop:=
 bif b then (
     K (.int .i64 5) [])
    else (
     bif decide (a.mode<0)then (
      qqJ K true a)
     else (
      qqJ K (decide (511<a.mode)) a))
def XO (K:Kn) (b:Bool) (a:Chg):Prop:=
 bif b then (
    K (.int .i64 8) [])
   else (
    bif decide (a.kind=2)then (
     qW8.pre (a.name,())/\
     qjp K (!(xZ a.name)) a)
    else (
     qjp K false a))
def WY (K:Kn) (b:Bool) (a:Chg):Prop:=
 bif b then (
  K (.int .i64 8) [])
 else (
  qhP.pre (a,())/\
  bif !(jw a)then (
   K (.int .i64 1) [])
  else (
   bif decide (a.kind=1)then (
    bif decide (a.typ<1)then (
     XO K true a)
    else (
     XO K (decide (4<a.typ)) a))
   else (
    XO K false a)))
def F68 (g:prodL L68) (K:Kn):Prop:=
 bif decide (g.1.kind<1)then (
  WY K true g.1)
 else (
  WY K (decide (7<g.1.kind)) g.1)
theorem ql1 (g:prodL L68) (K X:Kn) (h:F68 g K):FCalls Tryz.prog 68 (argsT S68 L68 g) [] K X:=
 FCalls.settle0 (qw Tryz.func68 Tryz.ntmps68 Tryz.results68 qj (qx qez (qx qww (qx qX9 (qx qa8 qz)))) H68 J68 (by kernel_rfl) (by kernel_rfl) h)
def qBC:List (Nat×Hint):=[(2,⟨[((1,[]),none)],[(1,.pt 0 0),(10,.leaf)],[.el],[.bool,.el .chg]⟩),(6,⟨[((1,[]),none)],[(1,.pt 0 0),(27,.leaf)],[.el],[.bool,.el .chg]⟩),(8,⟨[((1,[]),none)],[(1,.pt 0 0),(36,.leaf)],[.el],[.bool,.el .chg]⟩),(10,⟨[((1,[]),none)],[(1,.pt 0 0),(49,.leaf)],[.el],[.bool,.el .chg]⟩),(16,⟨[((1,[]),none)],[(1,.pt 0 0),(68,.leaf)],[.el],[.bool,.el .chg]⟩)]
abbrev qrT:List Sh:=[.leaf]
abbrev qgS:List Lf:=[.el .chg]
def QM (K:Kn) (b:Bool) (a:Chg):Prop:=
 bif b then (
  K (.int .i64 1) [])
 else (
  bif decide (400< (a.over.length:Int))then (
  K (.int .i64 4) [])
 else (
  qir.pre (a.over,())/\
 bif !(qkv a.over)then (
  K (.int .i64 9) [])
 else (
  K (.int .i64 0) [])))
def Q3 (K:Kn) (b:Bool) (a:Chg):Prop:=
 bif b then (
  K (.int .i64 2) [])
 else (
  bif decide (65536< (a.data.size:Int))then (
  K (.int .i64 4) [])
 else (
  bif decide (a.kind=5)then (
  qlw.pre (a.lines,())/\
  K (.int .i64 (XN a.lines)) [])
 else (
  bif decide (a.kind=7)then (
  QM K (decide ((a.over.length:Int)=0)) a)
 else (
  QM K false a))))
def Wo (K:Kn) (b:Bool) (a:Chg):Prop:=
 bif b then (
  K (.int .i64 5) [])
 else (
  bif decide (a.kind=3)then (
  bif decide (a.mode<0)then (
   Q3 K true a)
  else (
   Q3 K (decide (511<a.mode)) a))
 else (
  Q3 K false a))
def Zv (K:Kn) (b:Bool) (a:Chg):Prop:=
 bif b then (
  K (.int .i64 8) [])
 else (
  bif decide (a.kind=2)then (
  qor.pre (a.name,())/\
  Wo K (!(xZ a.name)) a)
 else (
  Wo K false a))
def Jd (K:Kn) (b:Bool) (a:Chg):Prop:=
 bif b then (
  K (.int .i64 8) [])
 else (
  True/\
 True/\
 bif !(vS (yE a))then (
  K (.int .i64 1) [])
 else (
  bif decide (a.kind=1)then (
  bif decide (a.typ<1)then (
   Zv K true a)
  else (
   Zv K (decide (4<a.typ)) a))
 else (
  Zv K false a)))
def qu6 (g:prodL qgS) (K:Kn):Prop:=
 bif decide (g.1.kind<1)then (
  Jd K true g.1)
 else (
  Jd K (decide (7<g.1.kind)) g.1)
theorem qeP (g:prodL qgS) (K X:Kn) (h:qu6 g K):FCalls Tryz.prog 125 (argsT qrT qgS g) [] K X:=
 FCalls.settle0 (qw Tryz.func125 Tryz.ntmps125 Tryz.results125 qj (qx qZn (qx qaq (qx qWO (qx qKx (qx qVE qz))))) [] qBC (by kernel_rfl) (by kernel_rfl) h)
def qBD:List (Nat×Hint):=[(13,⟨[((2,[]),none)],[(1,.leaf),(2,.pt 0 0),(8,.leaf),(9,.leaf)],[.el],[.sl .atm,.sl .idk,.int .i64,.el .chg]⟩),(19,⟨[((2,[]),none)],[(1,.leaf),(2,.pt 0 0),(11,.leaf)],[.el],[.sl .atm,.int .i64,.el .chg]⟩)]
def qBa:List (Nat×Hint):=[(2,⟨[((2,[]),none)],[(1,.leaf),(2,.pt 0 0),(20,.leaf)],[.el],[.sl .atm,.bool,.el .chg]⟩),(5,⟨[((2,[]),none)],[(1,.leaf),(2,.pt 0 0)],[.el],[.sl .atm,.el .chg]⟩),(6,⟨[((2,[]),none)],[(1,.leaf),(2,.pt 0 0),(43,.leaf)],[.el],[.sl .atm,.bool,.el .chg]⟩),(8,⟨[((2,[]),none)],[(1,.leaf),(2,.pt 0 0),(7,.leaf)],[.el],[.sl .atm,.int .i64,.el .chg]⟩),(10,⟨[((2,[]),none)],[(1,.leaf),(2,.pt 0 0)],[.el],[.sl .atm,.el .chg]⟩),(16,⟨[((2,[]),none)],[(1,.leaf),(2,.pt 0 0),(8,.leaf),(9,.leaf),(10,.leaf)],[.el],[.sl .atm,.sl .idk,.int .i64,.int .i64,.el .chg]⟩),(18,⟨[((2,[]),none)],[(1,.leaf),(2,.pt 0 0)],[.el],[.sl .atm,.el .chg]⟩),(25,⟨[((2,[]),none)],[(2,.pt 0 0),(140,.leaf)],[.el],[.bool,.el .chg]⟩),(27,⟨[],[(162,.leaf)],[],[.bool]⟩)]
abbrev qum:List Sh:=[.leaf,.leaf]
abbrev qc1:List Lf:=[.el .chg,.sl .atm]
def wh (K:Kn) (a:Bool):Prop:=
 bif a then (
  K (.int .i64 1) [])
 else (
  K (.int .i64 0) [])
def wn (K:Kn) (b:Bool) (a:Chg):Prop:=
 bif b then (
  K (.int .i64 20) [])
 else (
  True/\
 bif QH a.kind then (
  bif qr a.after a.before then (
   bif decide (a.kind=6)then (
    wh K true)
   else (
    wh K (!(qr a.after a.file))))
  else (
   wh K false))
 else (
  wh K false))
def Qi (K:Kn) (f:prodL [.sl .atm,.int .i64,.el .chg]->Prop) (b:List Atm) (c:Int) (a:Chg):Prop:=
 bif decide (c< (a.over.length:Int))then (
  At a.over c fun d=>
 At a.over c fun e=>
 True/\
 True/\
 True/\
 bif !decide (xj d b (J0 a.kind a.file (wx b e))=0)then (
  K (.int .i64 (xj d b (J0 a.kind a.file (wx b e)))) [])
 else (
  f (b,IntKind.i64.wrap (c+1),a,())))
 else (
  bif decide (a.kind=2)then (
  wn K (qr a.parent a.file) a)
 else (
  wn K false a))
def qwz (K:Kn) (g:prodL [.sl .atm,.int .i64,.el .chg]):Prop:=
 qy (γ:=prodL [.sl .atm,.int .i64,.el .chg]) (fun V y=>Qi K V y.1 y.2.1 y.2.2.1) g
def J1 (K:Kn) (a:List Atm) (b:Chg):Prop:=
 qwz K (a,0,b,())
def Xz (K:Kn) (b:prodL [.sl .atm,.sl .idk,.int .i64,.el .chg]->Prop) (c:List Atm) (d:List Idn) (e a:Int) (f:Chg):Prop:=
 bif !decide (a=0)then (
   K (.int .i64 a) [])
  else (
   b (c,d,IntKind.i64.wrap (e+1),f,()))
def Qp (K:Kn) (e:prodL [.sl .atm,.sl .idk,.int .i64,.el .chg]->Prop) (a:List Atm) (c:List Idn) (b:Int) (d:Chg):Prop:=
 bif decide (b<2)then (
   At c b fun f=>
  At c b fun g=>
  bif qr g d.file then (
   True/\
   Xz K e a c b (xj f a true) d)
  else (
   At c b fun h=>
   True/\
   True/\
   True/\
   Xz K e a c b (xj f a (qzr d.file (wx a h))) d))
  else (
   J1 K a d)
def qwX (K:Kn) (g:prodL [.sl .atm,.sl .idk,.int .i64,.el .chg]):Prop:=
 qy (γ:=prodL [.sl .atm,.sl .idk,.int .i64,.el .chg]) (fun V y=>Qp K V y.1 y.2.1 y.2.2.1 y.2.2.2.1) g
def JK (K:Kn) (b:List Atm) (a:Chg):Prop:=
 True/\
 bif QH a.kind then (
  qwX K (b,[a.after,a.before],0,a,()))
 else (
  J1 K b a)
def Wl (K:Kn) (b:List Atm) (a:Int) (c:Chg):Prop:=
 bif !decide (a=0)then (
   K (.int .i64 a) [])
  else (
   JK K b c)
def WD (K:Kn) (a:List Atm) (c:Bool) (b:Chg):Prop:=
 bif c then (
  True/\
  bif decide ((wx a b.parent).kind=1)then (
   True/\
   Wl K a (xj b.parent a (decide ((wx a b.parent).typ=4))) b)
  else (
   True/\
   Wl K a (xj b.parent a false) b))
 else (
  JK K a b)
def Xk (K:Kn) (b:List Atm) (a:Chg):Prop:=
 bif decide (a.kind=2)then (
  True/\
  WD K b (!(qr a.parent (⟨dz, -1⟩:Idn))) a)
 else (
  WD K b false a)
def JO (K:Kn) (b:List Atm) (c:Bool) (a:Chg):Prop:=
 bif c then (
  True/\
  True/\
  True/\
  bif !decide (xj a.file b (Qz a.kind (wx b a.file))=0)then (
   K (.int .i64 (xj a.file b (Qz a.kind (wx b a.file)))) [])
  else (
   Xk K b a))
 else (
  Xk K b a)
def qtF (g:prodL qc1) (K:Kn):Prop:=
 bif decide (2<=g.1.kind)then (
  JO K g.2.1 (decide (g.1.kind<=6)) g.1)
 else (
  JO K g.2.1 false g.1)
theorem qct (g:prodL qc1) (K X:Kn) (h:qtF g K):FCalls Tryz.prog 126 (argsT qum qc1 g) [] K X:=
 FCalls.settle0 (qw Tryz.func126 Tryz.ntmps126 Tryz.results126 qj (qx qjH (qx qWg (qx qaW (qx qaF (qx qwk (qx qaV (qx qX6 qz))))))) qBD qBa (by kernel_rfl) (by kernel_rfl) h)
end
section
open Go.RowKit
set_option maxRecDepth 100000
theorem qkk {c:Chg} {K:Kn} (hl:c.over.length<=4194304) (h:KI K (wA idC c.over)):qj0 K (1,c,()):=by
 unfold qj0;unfold wA at h;refine qy.errsN (c.over.length-1) (KH idC c.over) (fun n=>(((n+1:Nat):Int),c,())) (KI K) h rfl (fun W n hn h0 h1=> ?_) fun h W=> ?_
 . show XA K W ((n+1:Nat):Int) c
   unfold XA;rw [qu (show n+1<c.over.length by omega),Jae]
   rw [qvc (by omega)] at h0 h1
   rw [qZh (by omega)]
   refine qD (show n+1-1<c.over.length by omega) (qD (show n+1<c.over.length by omega) ⟨trivial, ?_⟩)
   simp only [Nat.add_sub_cancel];cases e:decide (0<=idC c.over[n] c.over[n+1])
   . rw [e] at h0;rw [Jaf,zd (show n+1<c.over.length by omega) (by omega)];exact h0 rfl
   . rw [e] at h1;exact h1 (by decide)
 . show XA K W ((c.over.length-1+1:Nat):Int) c
   unfold XA;rw [Jab (by omega),Jaf];exact h
theorem qyU {t:Bool} {c:Chg} {K:Kn} (hp:kZ c) (h:KI K (qvv t c)):JP K t c:=by
 unfold JP;revert h;unfold qvv;exact qU (K:=KI K) id (qU (K:=KI K) id (qkk (zA hp).2.2.2.2))
theorem qkt {c:Chg} {K:Kn} (hp:kZ c) (h:KI K (qWA c)):qjw K (c.lines,(c.lines.length:Int),0,c,()):=by
 obtain ⟨p1,p2,p3,p4,p5⟩:=zA hp;unfold qjw;unfold qWA at h;refine qy.errsN c.lines.length (qw8 c.lines) (fun n=>(c.lines,(c.lines.length:Int),(n:Int),c,())) (fun e=>KI K (bif !decide (e=0)then e else qvv (bif decide (c.kind=7)then decide ((c.over.length:Int)=0)else false) c)) h rfl (fun W n hn h0 h1=> ?_) fun h W=> ?_
 . show Xq K W c.lines c.lines.length n c
   unfold Xq;rw [qu hn,Jae];rw [qwp hn] at h0 h1;refine qD hn ⟨trivial, ?_⟩;cases e:yp c.lines[n]
   . rw [e] at h1;exact h1 (by decide)
   . rw [e] at h0;simp only [Jap,Jaf];rw [zd hn (by omega)];exact h0 rfl
 . show Xq K W c.lines c.lines.length c.lines.length c
   unfold Xq;rw [qm,Jaf];exact vz (J:=fun b=>JP K b c) (f:=fun b=>qvv b c) (K:=KI K) (fun _ h=>qyU hp h) h
theorem qXS {t:Bool} {c:Chg} {K:Kn} (hp:kZ c) (h:KI K (fP6 t c)):qqK K t c:=by
 unfold qqK;revert h;unfold fP6;exact qU (K:=KI K) id (qU (K:=KI K) id (qkt hp))
theorem qZ0 {t:Bool} {c:Chg} {K:Kn} (hp:kZ c) (h:KI K (fP7 t c)):qqJ K t c:=by
 unfold qqJ;revert h;unfold fP7;exact qU (K:=KI K) id (qU (K:=KI K) id (vz (J:=fun b=>qqK K b c) (f:=fun b=>fP6 b c) (K:=KI K) (fun _ h=>qXS hp h)))
theorem qzN {t:Bool} {c:Chg} {K:Kn} (hp:kZ c) (h:KI K (fP8 t c)):qjp K t c:=by
 unfold qjp;revert h;unfold fP8;exact qU (K:=KI K) id (vz (J:=fun b=>qqJ K b c) (f:=fun b=>fP7 b c) (K:=KI K) (fun _ h=>qZ0 hp h))
theorem qzH {t:Bool} {c:Chg} {K:Kn} (hp:kZ c) (h:KI K (fP9 t c)):XO K t c:=by
 unfold XO;revert h;unfold fP9;refine qU (K:=KI K) id fun h=> ?_
 show bif decide (c.kind=2)then _ else _
 cases e:decide (c.kind=2)
 . rw [e] at h;exact qzN hp h
 . rw [e] at h;exact ⟨Jau (zA hp).1 (by omega),qzN hp h⟩
theorem W2 {t:Bool} {c:Chg} {K:Kn} (hp:kZ c) (hk:t=false->zR c) (h:KI K (qvw t c)):WY K t c:=by
 unfold WY;unfold qvw at h;cases t;rotate_left
 . exact h
 rw [Jaf] at h ⊢;refine ⟨hk rfl, ?_⟩;revert h;refine qU (K:=KI K) id fun h=> ?_
 show bif decide (c.kind=1)then _ else _
 cases e:decide (c.kind=1)
 . rw [e] at h;exact qzH hp h
 . rw [e] at h;exact vz (J:=fun b=>XO K b c) (f:=fun b=>fP9 b c) (K:=KI K) (fun _ h=>qzH hp h) h
theorem qoU {c:Chg} {K:Kn} (hp:kZ c) (h:KI K (zD c)):F68 (c,()) K:=by
 unfold F68;unfold zD at h;show bif decide (c.kind<1)then _ else _
 cases e:decide (c.kind<1)
 . rw [e] at h;exact W2 hp (fun e2=>⟨by have: ¬c.kind<1:=Jad e;show 1<=c.kind;omega,by have: ¬7<c.kind:=Jad e2;show c.kind<=7;omega⟩) h
 . rw [e] at h;exact W2 hp (fun e2=>by cases e2) h
def qYk:Sp:=⟨S68,L68,fun g=>kZ g.1,fun g=> .int .i64 (zD g.1),fun _=>none⟩
theorem qbe:qYk.Ok Tryz.prog 68 true:=
 .mk (fun g K X hp h=>ql1 g K X (qoU hp h))
theorem qvu {t:Bool} {c:Chg} {K:Kn} (hp:kZ c) (h:KI K (qXE t c)):QM K t c:=by
 unfold QM;revert h;unfold qXE;exact qU (K:=KI K) id (qU (K:=KI K) id fun h=>⟨Jau (zA hp).2.2.2.2 (by omega),qU (K:=KI K) id id h⟩)
theorem Ka {t:Bool} {c:Chg} {K:Kn} (hp:kZ c) (h:KI K (fR8 t c)):Q3 K t c:=by
 unfold Q3;revert h;unfold fR8;exact qU (K:=KI K) id (qU (K:=KI K) id (qU (K:=KI K) (fun h=>⟨(zA hp).2.2.2.1,h⟩) (vz (J:=fun b=>QM K b c) (f:=fun b=>qXE b c) (K:=KI K) (fun _ h=>qvu hp h))))
theorem Yz {t:Bool} {c:Chg} {K:Kn} (hp:kZ c) (h:KI K (fR6 t c)):Wo K t c:=by
 unfold Wo;revert h;unfold fR6;refine qU (K:=KI K) id fun h=> ?_
 show bif decide (c.kind=3)then _ else _
 cases e:decide (c.kind=3)
 . rw [e] at h;exact Ka hp h
 . rw [e] at h;exact vz (J:=fun b=>Q3 K b c) (f:=fun b=>fR8 b c) (K:=KI K) (fun _ h=>Ka hp h) h
theorem Kw {t:Bool} {c:Chg} {K:Kn} (hp:kZ c) (h:KI K (fR4 t c)):Zv K t c:=by
 unfold Zv;revert h;unfold fR4;refine qU (K:=KI K) id fun h=> ?_
 show bif decide (c.kind=2)then _ else _
 cases e:decide (c.kind=2)
 . rw [e] at h;exact Yz hp h
 . rw [e] at h;exact ⟨Jau (zA hp).1 (by omega),Yz hp h⟩
theorem qks {t:Bool} {c:Chg} {K:Kn} (hp:kZ c) (h:KI K (fR2 t c)):Jd K t c:=by
 unfold Jd;revert h;unfold fR2;refine qU (K:=KI K) id fun h=>⟨trivial,trivial, ?_⟩
 revert h;refine qU (K:=KI K) id fun h=> ?_
 show bif decide (c.kind=1)then _ else _
 cases e:decide (c.kind=1)
 . rw [e] at h;exact Kw hp h
 . rw [e] at h;exact vz (J:=fun b=>Zv K b c) (f:=fun b=>fR4 b c) (K:=KI K) (fun _ h=>Kw hp h) h
theorem qgC {c:Chg} {K:Kn} (hp:kZ c) (h:KI K (xY c)):qu6 (c,()) K:=
 vz (J:=fun b=>Jd K b c) (f:=fun b=>fR2 b c) (K:=KI K) (fun _ h=>qks hp h) h
def qid:Sp:=⟨qrT,qgS,fun g=>kZ g.1,fun g=> .int .i64 (xY g.1),fun _=>none⟩
theorem qYb:qid.Ok Tryz.prog 125 true:=
 .mk (fun g K X hp h=>qeP g K X (qgC hp h))
theorem qwO {c:Chg} {K:Kn} (h:KI K (qzn c)):(bif decide (c.kind=2)then wn K (qr c.parent c.file) c else wn K false c):=by
 unfold qzn at h;have hJ: ∀b,KI K (bif b then 20 else bif (bif QH c.kind then (bif qr c.after c.before then (bif decide (c.kind=6)then true else !(qr c.after c.file))else false)else false)then 1 else 0)->wn K b c:=by
  intro b;unfold wn;refine qU (K:=KI K) id fun h=>⟨trivial, ?_⟩
  have hL: ∀b:Bool,KI K (bif b then 1 else 0)->wh K b:=fun b=>by unfold wh;exact qU (K:=KI K) id id
  cases e1:QH c.kind
  . rw [e1] at h;exact hL _ h
  . rw [e1] at h;show bif qr c.after c.before then _ else _
    cases e2:qr c.after c.before
    . rw [e2] at h;exact hL _ h
    . rw [e2] at h;exact vz (J:=wh K) (f:=fun b:Bool=>bif b then (1:Int)else 0) (K:=KI K) hL h
 exact vz (J:=fun b=>wn K b c) (f:=fun b=>bif b then 20 else bif (bif QH c.kind then (bif qr c.after c.before then (bif decide (c.kind=6)then true else !(qr c.after c.file))else false)else false)then 1 else 0) (K:=KI K) hJ h
theorem VR {own:List Atm} {c:Chg} {K:Kn} (hp:kZ c) (h:KI K (qwx own c)):J1 K own c:=by
 have hl:=(zA hp).2.2.2.2;unfold J1 qwz;unfold qwx at h;have hlen:(XW c own).length=c.over.length:=by simp [XW]
 refine qy.errs (XW c own) (fun n=>(own,(n:Int),c,())) (fun e=>KI K (bif !decide (e=0)then e else qzn c)) h rfl (fun W n hn h0 h1=> ?_) fun h W=> ?_
 . show Qi K W own n c
   rw [hlen] at hn;unfold Qi;rw [qu hn,Jae];simp only [XW,List.getElem_map] at h0 h1;refine qD hn (qD hn ⟨trivial,trivial,trivial, ?_⟩);generalize xj c.over[n] own (J0 c.kind c.file (wx own c.over[n]))=e at h0 h1 ⊢;by_cases z:e=0
   . rw [Jaa z,Jap,Jaf,zd hn (by omega)];exact h0 z
   . have h1:=h1 z;rw [Jab z] at h1 ⊢;exact h1
 . show Qi K W own ((XW c own).length:Nat) c
   rw [hlen];unfold Qi;rw [qm,Jaf];exact qwO h
theorem VB {own:List Atm} {c:Chg} {K:Kn} (hp:kZ c) (h:KI K (qJZ own c)):JK K own c:=by
 unfold JK;unfold qJZ at h;refine ⟨trivial, ?_⟩;cases e1:QH c.kind
 . rw [e1] at h;exact VR hp h
 rw [e1] at h;rw [Jae] at h ⊢;unfold qwX;refine qy.errs [xj c.after own (ZE own c.file c.after),xj c.before own (ZE own c.file c.before)] (fun n=>(own,[c.after,c.before],(n:Int),c,())) (fun e=>KI K (bif !decide (e=0)then e else qwx own c)) ?_ rfl (fun W n hn h0 h1=> ?_) fun h W=> ?_
 . show KI K (bif !decide (errs _=0)then errs _ else qwx own c)
   revert h;generalize xj c.after own (ZE own c.file c.after)=a;generalize xj c.before own (ZE own c.file c.before)=b;intro h;by_cases z:a=0
   . rw [Jaa z] at h;rw [Jap,Jaf] at h;by_cases y:b=0
     . have e:errs [a,b]=0:=by simp [errs,z,y]
       rw [Jaa y] at h;rw [e];exact h
     . have e:errs [a,b]=b:=by simp [errs,z,y]
       rw [e,Jab y];rw [Jab y] at h;exact h
   . have e:errs [a,b]=a:=by simp [errs,z]
     rw [e,Jab z];rw [Jab z] at h;exact h
 . show Qp K W own [c.after,c.before] n c
   unfold Qp;have hn2:n< [c.after,c.before].length:=hn;rw [show decide ((n:Int) <2)=true from Jaa (by simp only [Jaj,Ja1] at hn;omega),Jae]
   have hg: ∃x,[c.after,c.before][n]'hn2=x/\[xj c.after own (ZE own c.file c.after),xj c.before own (ZE own c.file c.before)][n]=xj x own (ZE own c.file x):=by
    have:n=0∨n=1:=by simp only [Jaj,Ja1] at hn;omega
    rcases this with rfl | rfl
    . exact ⟨_,rfl,rfl⟩
    . exact ⟨_,rfl,rfl⟩
   obtain ⟨x,hx,hy⟩:=hg;rw [hy] at h0 h1;have hJ: ∀e:Int,(e=0->W (own,[c.after,c.before],((n+1:Nat):Int),c,()))->(e≠0->KI K (bif !decide (e=0)then e else qwx own c))->Xz K W own [c.after,c.before] n e c:=by
    intro e h0 h1;unfold Xz;by_cases z:e=0
    . rw [Jaa z,Jap,Jaf,zd hn2 (by simp)];exact h0 z
    . have h1:=h1 z;rw [Jab z] at h1 ⊢;exact h1
   refine qD hn2 (qD hn2 ?_);rw [hx];unfold ZE at h0 h1;cases e2:qr x c.file
   . rw [e2] at h0 h1;rw [Jaf];refine qD hn2 ?_;rw [hx];exact ⟨trivial,trivial,trivial,hJ _ h0 h1⟩
   . rw [e2] at h0 h1;exact ⟨trivial,hJ _ h0 h1⟩
 . show Qp K W own [c.after,c.before] 2 c
   unfold Qp;exact VR hp h
theorem Kt {own:List Atm} {e:Int} {c:Chg} {K:Kn} (hp:kZ c) (h:KI K (rF6 own e c)):Wl K own e c:=by
 unfold Wl;revert h;unfold rF6;exact qU (K:=KI K) id (VB hp)
theorem K0 {own:List Atm} {t:Bool} {c:Chg} {K:Kn} (hp:kZ c) (h:KI K (rF7 own t c)):WD K own t c:=by
 unfold WD;revert h;unfold rF7;refine qU (K:=KI K) (fun h=>⟨trivial, ?_⟩) (VB hp)
 cases e:decide ((wx own c.parent).kind=1)
 . rw [e] at h;exact ⟨trivial,Kt hp h⟩
 . rw [e] at h;exact ⟨trivial,Kt hp h⟩
theorem VP {own:List Atm} {c:Chg} {K:Kn} (hp:kZ c) (h:KI K (qX0 own c)):Xk K own c:=by
 unfold Xk;unfold qX0 at h;cases e:decide (c.kind=2)
 . rw [e] at h;exact K0 hp h
 . rw [e] at h;exact ⟨trivial,K0 hp h⟩
theorem qy8 {own:List Atm} {t:Bool} {c:Chg} {K:Kn} (hp:kZ c) (h:KI K (rF2 own t c)):JO K own t c:=by
 unfold JO;revert h;unfold rF2;refine qU (K:=KI K) (fun h=>⟨trivial,trivial,trivial, ?_⟩) (VP hp)
 revert h;unfold rF1;exact qU (K:=KI K) id (VP hp)
theorem qdD {own:List Atm} {c:Chg} {K:Kn} (hp:kZ c) (h:KI K (Zb c own)):qtF (c,own,()) K:=
 vz (J:=fun b=>JO K own b c) (f:=fun b=>rF2 own b c) (K:=KI K) (fun _ h=>qy8 hp h) h
def qh3:Sp:=⟨qum,qc1,fun g=>kZ g.1,fun g=> .int .i64 (Zb g.1 g.2.1),fun _=>none⟩
theorem qKc:qh3.Ok Tryz.prog 126 true:=
 .mk (fun g K X hp h=>qct g K X (qdD hp h))
set_option maxRecDepth 100000
theorem zr (x:Sx):(⟨x.isList,x.atom,x.list⟩:Sx)=x:=by cases x;rfl
def jh (d:Dig):Sx:=qY (bif zn d dz then ⟨#[]⟩else vP d)
def qK (x:Idn):Sx:=qf [jh x.patch,qX x.n]
def qJ (l:List Idn):Sx:=qf (l.map qK)
def zh (l:List ByteArray):Sx:=qf (l.map qY)
def z8 (k:Nat) (c:Chg):List Sx:=match k with
 | 1=>[qX c.typ]
 | 2=>[qK c.file,qK c.parent,qY c.name,qJ c.over]
 | 3=>[qK c.file,qX c.mode,qJ c.over]
 | 4=>[qK c.file,qY c.data,qJ c.over]
 | 5=>[qK c.file,qK c.after,qK c.before,zh c.lines]
 | 6=>[qK c.file,qK c.after,qK c.before,qJ c.over]
 | 7=>[qJ c.over]
 | _=>[]
def yh (c:Chg):Sx:=qf (qX c.kind::z8 c.kind.toNat c)
def Zt:ByteArray:=⟨#[113,117,105,108,116,49]⟩
def zN (a m:ByteArray) (t:Int) (D:List Sx) (cs:List Chg):Sx:=qf [qY Zt,qY a,qY m,qX t,qf D,qf (cs.map yh)]
def qx4 (a m:ByteArray) (t:Int) (ds:List Dig) (cs:List Chg):ByteArray×Int:=
 bif (bif !decide ((vQ (zN a m t (ds.map jh) cs)).2=0)then true else decide (65536< ((vQ (zN a m t (ds.map jh) cs)).1.size:Int)))then (⟨#[]⟩,4)else ((vQ (zN a m t (ds.map jh) cs)).1,0)
def qAt:List (Int×ByteArray×Nat):=[(1,⟨#[]⟩,160),(2,⟨#[]⟩,161),(3,⟨#[]⟩,164),(4,⟨#[]⟩,165),(5,⟨#[]⟩,166),(6,⟨#[]⟩,168),(7,⟨#[]⟩,169)]
def chW (c:Chg):Prop:=jg c.typ/\jg c.mode/\jg c.file.n/\jg c.parent.n/\jg c.after.n/\jg c.before.n/\ ∀x∈c.over,jg x.n
def ovP (l:List Idn):Prop:=l.length<=4194304/\ ∀x∈l,jg x.n
theorem JQ {c:Chg} (hp:kZ c) (hw:chW c):ovP c.over:=⟨(zA hp).2.2.2.2,hw.2.2.2.2.2.2⟩
theorem qQ8 (d:Dig):jv (jh d)<=35:=by
 unfold jh;rw [Qt];cases zn d dz
 . rw [Jaf,X3];omega
 . have:(⟨#[]⟩:ByteArray).size=0:=rfl;rw [Jae,this];omega
theorem qqq {x:Idn} (h:jg x.n):jv (qK x)<=62:=by
 have h1:=qQ8 x.patch;have h2:=XE h;unfold qK;rw [y9];simp only [qV];omega
theorem K4 {α:Type} (f:α->Sx) (m:Nat): ∀(l:List α),(∀x∈l,jv (f x)<=m)->qV (l.map f)<=m*l.length
 | [],_=>by simp [qV]
 | x::l,h=>by
  have h1:=h x (Jbc ..);have h2:=K4 f m l fun y hy=>h y (Jbe _ hy)
  simp only [List.map_cons,qV,Jaj,Nat.mul_succ];omega
theorem qYD {l:List Idn} (h:ovP l):jv (qJ l)<=62*l.length+3:=by
 unfold qJ;rw [y9];have:=K4 qK 62 l fun x hx=>qqq (h.2 x hx)
 omega
theorem qXO (l:List ByteArray):jv (zh l)<=3*(l.map zU).sum+3:=by
 unfold zh;rw [y9];have:qV (l.map qY)<=3*(l.map zU).sum:=by
  induction l with
  | nil=>simp [qV]
  | cons s l ih=>
   simp only [List.map_cons,qV,Jcc,Qt,zU] at ih ⊢;omega
 omega
theorem qmV {c:Chg} (hp:kZ c) (hw:chW c) (hk:jg c.kind):jv (yh c)<=5*zQ c+300:=by
 have ho:=qYD (JQ hp hw);have hl:=qXO c.lines;obtain ⟨w1,w2,w3,w4,w5,w6,w7⟩:=hw;have e:=kB yf 33 c.over fun x _=>Jam _
 have h3:=qqq w3;have h4:=qqq w4;have h5:=qqq w5;have h6:=qqq w6;have h1:=XE w1;have h2:=XE w2;have hk:=XE hk;have hb:zQ c=(c.name.size+1)+(c.data.size+1)+((c.lines.map zU).sum+1)+((c.over.map yf).sum+1)+135:=rfl;unfold yh;rw [y9];unfold z8;split<;>simp only [qV,Qt]<;>omega
end
section
open Go.RowKit
attribute [local irreducible] zb qa
set_option maxRecDepth 100000
abbrev qa3:List Sh:=[.nil]
abbrev qv6:List Lf:=[]
abbrev qiM:List ObSh:=[]
def qhI (g:prodL qv6) (K:Kn):Prop:=
 K (.ag [.bool true,.str (⟨#[]⟩:ByteArray),.nil]) []
theorem qa9 (g:prodL qv6) (K X:Kn) (h:qhI g K):FCalls Tryz.prog 118 (argsT qa3 qv6 g) (qi qa3 qiM qv6 g) K X 0:=
 FCalls.settle0 (qw Tryz.func118 Tryz.ntmps118 Tryz.results118 qj qz [] [] (by kernel_rfl) (by kernel_rfl) h)
def qnt:Raw:=⟨qa3,qiM,qv6,0,fun g K _=>qhI g K⟩
theorem XT:qnt.Ok Tryz.prog 118:=fun g K X h=>qa9 g K X h
abbrev qrx:List Sh:=[.leaf]
abbrev qbb:List Lf:=[.int .i64]
def qBt (g:prodL qbb) (K:Kn):Prop:=
 qY4.pre (g.1,())/\
 K (.ag [.bool (((vE g.1).1).isList),.str (((vE g.1).1).atom),.sl false .sexp (((vE g.1).1).list)]) []
theorem qb1 (g:prodL qbb) (K X:Kn) (h:qBt g K):FCalls Tryz.prog 121 (argsT qrx qbb g) [] K X:=
 FCalls.settle0 (qw Tryz.func121 Tryz.ntmps121 Tryz.results121 qj (qx qVh qz) [] [] (by kernel_rfl) (by kernel_rfl) h)
abbrev S79:List Sh:=[.leaf]
abbrev L79:List Lf:=[.int .i64]
def F79 (g:prodL L79) (K:Kn):Prop:=
 qlq.pre (g.1,())/\
 K (.ag [.bool (((vE g.1).1).isList),.str (((vE g.1).1).atom),.sl false .sexp (((vE g.1).1).list)]) []
theorem qla (g:prodL L79) (K X:Kn) (h:F79 g K):FCalls Tryz.prog 79 (argsT S79 L79 g) [] K X:=
 FCalls.settle0 (qw Tryz.func79 Tryz.ntmps79 Tryz.results79 qj (qx qYS qz) [] [] (by kernel_rfl) (by kernel_rfl) h)
abbrev quE:List Sh:=[.leaf]
abbrev qhq:List Lf:=[.el .dig]
def qCi (g:prodL qhq) (K:Kn):Prop:=
 K (.str (vP g.1)) []
theorem qee (g:prodL qhq) (K X:Kn) (h:qCi g K):FCalls Tryz.prog 128 (argsT quE qhq g) [] K X:=
 FCalls.settle0 (qw Tryz.func128 Tryz.ntmps128 Tryz.results128 qj qz [] [] (by kernel_rfl) (by kernel_rfl) h)
def qug:Sp:=⟨quE,qhq,fun _=>True,fun g=> .str (vP g.1),fun _=>none⟩
theorem qbw:qug.Ok Tryz.prog 128 true:=
 .mk (fun g K X hp h=>qee g K X h)
abbrev S74:List Sh:=[.leaf]
abbrev L74:List Lf:=[.el .dig]
def F74 (g:prodL L74) (K:Kn):Prop:=
 True/\
 bif zn g.1 dz then (
  True/\
  K (.ag [.bool false,.str (⟨#[]⟩:ByteArray),.nil]) [])
 else (
  True/\
 True/\
 K (.ag [.bool false,.str (vP g.1),.nil]) [])
theorem qmh (g:prodL L74) (K X:Kn) (h:F74 g K):FCalls Tryz.prog 74 (argsT S74 L74 g) [] K X:=
 FCalls.settle0 (qw Tryz.func74 Tryz.ntmps74 Tryz.results74 qj (qx XQ (qx QF (qx qbw qz))) [] [] (by kernel_rfl) (by kernel_rfl) h)
abbrev qnL:List Sh:=[]
abbrev qWl:List Lf:=[]
abbrev qAv:List ObSh:=[]
def qAr (g:prodL qWl) (K:Kn):Prop:=
 K (.mp 0) [some (.cells [.fents false [(1,(⟨#[]⟩:ByteArray),160),(2,(⟨#[]⟩:ByteArray),161),(3,(⟨#[]⟩:ByteArray),164),(4,(⟨#[]⟩:ByteArray),165),(5,(⟨#[]⟩:ByteArray),166),(6,(⟨#[]⟩:ByteArray),168),(7,(⟨#[]⟩:ByteArray),169)]])]
theorem qdu (g:prodL qWl) (K X:Kn) (h:qAr g K):FCalls Tryz.prog 120 (argsT qnL qWl g) (qi qnL qAv qWl g) K X 0:=
 FCalls.settleD (qw Tryz.func120 Tryz.ntmps120 Tryz.results120 qj qz [] [] (by kernel_rfl) (by kernel_rfl) h)
def qBq:List (Nat×Hint):=[(3,⟨[((2,[]),none),((3,[]),none),((3,[2]),some .sexp)],[(2,.pt 0 0),(3,.pt 1 0),(7,.leaf),(8,.leaf),(9,.leaf)],[.cells [.leaf,.leaf,.nil],.cells [.leaf,.leaf,.oa .sexp 2],.arr .sexp],[.sl .str,.int .i64,.int .i64,.bool,.str,.bool,.str,.sl .sexp]⟩)]
abbrev quN:List Sh:=[.leaf]
abbrev qfK:List Lf:=[.sl .str]
def J4 (K:Kn) (h:prodL [.sl .str,.int .i64,.int .i64,.bool,.str,.bool,.str,.sl .sexp]->Prop) (c:List ByteArray) (d a:Int) (i:Bool) (j:ByteArray) (e:Bool) (f:ByteArray) (b:List Sx):Prop:=
 bif decide (a<d)then (
  At c a fun g=>
 True/\
 ql (b.length+[(⟨false,g,[]⟩:Sx)].length) 48 (
 h (c,d,IntKind.i64.wrap (a+1),i,j,e,f,b++[(⟨false,g,[]⟩:Sx)],())))
 else (
  K (.ag [.bool e,.str f,.sl false .sexp b]) [])
def qbn (K:Kn) (g:prodL [.sl .str,.int .i64,.int .i64,.bool,.str,.bool,.str,.sl .sexp]):Prop:=
 qy (γ:=prodL [.sl .str,.int .i64,.int .i64,.bool,.str,.bool,.str,.sl .sexp]) (fun V y=>J4 K V y.1 y.2.1 y.2.2.1 y.2.2.2.1 y.2.2.2.2.1 y.2.2.2.2.2.1 y.2.2.2.2.2.2.1 y.2.2.2.2.2.2.2.1) g
def qm6 (g:prodL qfK) (K:Kn):Prop:=
 let g1:prodL []:=(());
 qbn K (g.1,(g.1.length:Int),0,false,(⟨#[]⟩:ByteArray),true,(⟨#[]⟩:ByteArray),[],())
theorem qck (g:prodL qfK) (K X:Kn) (h:qm6 g K):FCalls Tryz.prog 167 (argsT quN qfK g) [] K X:=
 FCalls.settle0 (qw Tryz.func167 Tryz.ntmps167 Tryz.results167 (qd XT qj) (qx QJ qz) qBq [] (by kernel_rfl) (by kernel_rfl) h)
end
section
open Go.RowKit
set_option maxRecDepth 100000
theorem wkX {K:Kn} {b:Bool} {s:ByteArray} {f:Bool} {l:List Sx} {st:St} (h:K (.ag [.bool b,.str s,.sl false .sexp l]) st):zI K (.ag [.bool b,.str s,.sl f .sexp l]) st:=
 ⟨_,zl.ag (qA.cons (zl.refl _) (qA.cons (zl.refl _) (qA.cons (zl.sl f .sexp l) qA.nil))),h⟩
theorem qcp {K:Kn} {b:Bool} {s:ByteArray} {st:St} (h:K (.ag [.bool b,.str s,.sl false .sexp []]) st):zI K (.ag [.bool b,.str s,.nil]) st:=
 ⟨_,zl.ag (qA.cons (zl.refl _) (qA.cons (zl.refl _) (qA.cons (zl.nil .sexp) qA.nil))),h⟩
def YB:Sp:=⟨qrx,qbb,fun g=>jg g.1,fun g=> .ag (enc .sexp (qX g.1)),fun _=>none⟩
theorem Xl:YB.Ok Tryz.prog 121 false:=
 .mk (fun g K X hp h=>qb1 g K X ⟨hp,h⟩)
def V5:Sp:=⟨S79,L79,fun g=>jg g.1,fun g=> .ag (enc .sexp (qX g.1)),fun _=>none⟩
theorem ww:V5.Ok Tryz.prog 79 false:=
 .mk (fun g K X hp h=>qla g K X ⟨hp,h⟩)
def quu:Sp:=⟨qnL,qWl,fun _=>True,fun _=> .mp 0,fun _=>some (.cells [.fents false qAt])⟩
theorem qVW:quu.Ok Tryz.prog 120 false:=
 .mk (fun g K X _ h=>qdu g K X h)
theorem qlD {d:Dig} {K:Kn} (h:K (.ag (enc .sexp (jh d))) []):F74 (d,()) (zI K):=by
 unfold F74;refine ⟨trivial, ?_⟩;show bif zn d dz then _ else _
 unfold jh at h;cases c:zn d dz
 . rw [c] at h;exact ⟨trivial,trivial,qcp h⟩
 . rw [c] at h;exact ⟨trivial,qcp h⟩
def qCm:Sp:=⟨S74,L74,fun _=>True,fun g=> .ag (enc .sexp (jh g.1)),fun _=>none⟩
theorem qZe:qCm.Ok Tryz.prog 74 false:=
 .mk (fun g K X _ h=>FCalls.weak (qmh g (zI K) X (qlD h)))
theorem qbP {l:List ByteArray} {K:Kn} (hl:l.length<=4194304) (h:K (.ag (enc .sexp (zh l))) []):qm6 (l,()) K:=by
 unfold qm6;refine qy.map l qY (fun n out=>(l,(l.length:Int),n,false,⟨#[]⟩,true,⟨#[]⟩,out,())) (by omega) rfl (fun W n hn out ho hW=> ?_) fun W=> ?_
 . show J4 K W l l.length n false ⟨#[]⟩ true ⟨#[]⟩ out
   unfold J4;rw [qu hn,Jae];exact qD hn ⟨trivial,by simp only [Jal,ho];omega,hW⟩
 . show J4 K W l l.length l.length false ⟨#[]⟩ true ⟨#[]⟩ (l.map qY)
   unfold J4;rw [qm,Jaf];exact h
def qh8:Sp:=⟨quN,qfK,fun g=>g.1.length<=4194304,fun g=> .ag (enc .sexp (zh g.1)),fun _=>none⟩
theorem qVH:qh8.Ok Tryz.prog 167 false:=
 .mk (fun g K X hp h=>qck g K X (qbP hp h))
end
section
open Go.RowKit
attribute [local irreducible] zb qa
set_option maxRecDepth 100000
abbrev qpc:List Sh:=[.leaf]
abbrev qhK:List Lf:=[.el .idk]
def qnk (g:prodL qhK) (K:Kn):Prop:=
 True/\
 bif ZJ g.1 then (
  True/\
  YB.pre (g.1.n,())/\
  let g1:prodL [.sl .sexp]:=([(⟨false,(⟨#[]⟩:ByteArray),[]⟩:Sx),(⟨(qX g.1.n).isList,(qX g.1.n).atom,(qX g.1.n).list⟩:Sx)],());
  K (.ag [.bool true,.str (⟨#[]⟩:ByteArray),.sl true .sexp g1.1]) [])
 else (
  True/\
 YB.pre (g.1.n,())/\
 let g2:prodL [.sl .sexp]:=([(⟨false,vP g.1.patch,[]⟩:Sx),(⟨(qX g.1.n).isList,(qX g.1.n).atom,(qX g.1.n).list⟩:Sx)],());
 K (.ag [.bool true,.str (⟨#[]⟩:ByteArray),.sl true .sexp g2.1]) [])
theorem qg5 (g:prodL qhK) (K X:Kn) (h:qnk g K):FCalls Tryz.prog 162 (argsT qpc qhK g) [] K X:=
 FCalls.settle0 (qw Tryz.func162 Tryz.ntmps162 Tryz.results162 (qd qvq qj) (qx qjo (qx QJ (qx Xl qz))) [] [] (by kernel_rfl) (by kernel_rfl) h)
abbrev qpL:List Sh:=[.leaf]
abbrev qdl:List Lf:=[.el .idk]
def qnZ (g:prodL qdl) (K:Kn):Prop:=
 True/\
 V5.pre (g.1.n,())/\
 True/\
 K (.ag [.bool true,.str (⟨#[]⟩:ByteArray),.sl false .sexp [(⟨(jh g.1.patch).isList,(jh g.1.patch).atom,(jh g.1.patch).list⟩:Sx),(⟨(qX g.1.n).isList,(qX g.1.n).atom,(qX g.1.n).list⟩:Sx)]]) []
theorem qfC (g:prodL qdl) (K X:Kn) (h:qnZ g K):FCalls Tryz.prog 129 (argsT qpL qdl g) [] K X:=
 FCalls.settle0 (qw Tryz.func129 Tryz.ntmps129 Tryz.results129 qj (qx qZe (qx vd (qx ww qz))) [] [] (by kernel_rfl) (by kernel_rfl) h)
end
section
open Go.RowKit
set_option maxRecDepth 100000
theorem qcv {x:Idn} {K:Kn} (hp:jg x.n) (h:K (.ag (enc .sexp (qK x))) []):qnk (x,()) (zI K):=by
 unfold qnk;simp only [zr];refine ⟨trivial, ?_⟩;unfold qK jh at h;unfold ZJ;cases c:zn x.patch dz
 . rw [c] at h;exact ⟨trivial,hp,wkX h⟩
 . rw [c] at h;exact ⟨trivial,hp,wkX h⟩
def Qq:Sp:=⟨qpc,qhK,fun g=>jg g.1.n,fun g=> .ag (enc .sexp (qK g.1)),fun _=>none⟩
theorem yD:Qq.Ok Tryz.prog 162 false:=
 .mk (fun g K X hp h=>FCalls.weak (qg5 g (zI K) X (qcv hp h)))
theorem qfh {x:Idn} {K:Kn} (hp:jg x.n) (h:K (.ag (enc .sexp (qK x))) []):qnZ (x,()) K:=by
 unfold qnZ;simp only [zr];exact ⟨trivial,hp,trivial,h⟩
def kP:Sp:=⟨qpL,qdl,fun g=>jg g.1.n,fun g=> .ag (enc .sexp (qK g.1)),fun _=>none⟩
theorem yu:kP.Ok Tryz.prog 129 false:=
 .mk (fun g K X hp h=>qfC g K X (qfh hp h))
end
section
open Go.RowKit
attribute [local irreducible] zb qa
set_option maxRecDepth 100000
def qB4:List (Nat×Hint):=[(3,⟨[((2,[]),none),((3,[]),none),((3,[2]),some .sexp)],[(2,.pt 0 0),(3,.pt 1 0),(7,.leaf),(8,.leaf),(9,.leaf)],[.cells [.leaf,.leaf,.nil],.cells [.leaf,.leaf,.oa .sexp 2],.arr .sexp],[.sl .idk,.int .i64,.int .i64,.bool,.str,.bool,.str,.sl .sexp]⟩)]
abbrev qtU:List Sh:=[.leaf]
abbrev qfu:List Lf:=[.sl .idk]
def Xm (K:Kn) (h:prodL [.sl .idk,.int .i64,.int .i64,.bool,.str,.bool,.str,.sl .sexp]->Prop) (d:List Idn) (e b:Int) (i:Bool) (j:ByteArray) (f:Bool) (g:ByteArray) (c:List Sx):Prop:=
 bif decide (b<e)then (
  At d b fun a=>
 Qq.pre (a,())/\
 ql (c.length+[(⟨(qK a).isList,(qK a).atom,(qK a).list⟩:Sx)].length) 48 (
 h (d,e,IntKind.i64.wrap (b+1),i,j,f,g,c++[(⟨(qK a).isList,(qK a).atom,(qK a).list⟩:Sx)],())))
 else (
  K (.ag [.bool f,.str g,.sl false .sexp c]) [])
def qfE (K:Kn) (g:prodL [.sl .idk,.int .i64,.int .i64,.bool,.str,.bool,.str,.sl .sexp]):Prop:=
 qy (γ:=prodL [.sl .idk,.int .i64,.int .i64,.bool,.str,.bool,.str,.sl .sexp]) (fun V y=>Xm K V y.1 y.2.1 y.2.2.1 y.2.2.2.1 y.2.2.2.2.1 y.2.2.2.2.2.1 y.2.2.2.2.2.2.1 y.2.2.2.2.2.2.2.1) g
def qnx (g:prodL qfu) (K:Kn):Prop:=
 let g1:prodL []:=(());
 qfE K (g.1,(g.1.length:Int),0,false,(⟨#[]⟩:ByteArray),true,(⟨#[]⟩:ByteArray),[],())
theorem qe6 (g:prodL qfu) (K X:Kn) (h:qnx g K):FCalls Tryz.prog 163 (argsT qtU qfu g) [] K X:=
 FCalls.settle0 (qw Tryz.func163 Tryz.ntmps163 Tryz.results163 (qd XT qj) (qx yD qz) qB4 [] (by kernel_rfl) (by kernel_rfl) h)
def qCl:List (Nat×Hint):=[(3,⟨[((2,[]),none),((3,[]),some .sexp)],[(0,.leaf),(2,.pt 0 0),(3,.oa .sexp 1),(4,.leaf)],[.cells [.leaf,.leaf,.nil],.arr .sexp],[.sl .idk,.int .i64,.bool,.str,.sl .sexp]⟩)]
def qBp:List (Nat×Hint):=[(6,⟨[((2,[]),none)],[(2,.pt 0 0),(3,.leaf)],[.cells [.leaf,.leaf,.nil]],[.sl .sexp,.bool,.str]⟩)]
abbrev qsF:List Sh:=[.leaf]
abbrev qg3:List Lf:=[.sl .idk]
def qds (K:Kn) (a:List Sx) (b:Bool) (c:ByteArray):Prop:=
 True/\
 K (.ag [.bool true,.str (⟨#[]⟩:ByteArray),.sl false .sexp a]) []
def Xh (K:Kn) (g:prodL [.sl .idk,.int .i64,.bool,.str,.sl .sexp]->Prop) (b:List Idn) (c:Int) (e:Bool) (f:ByteArray) (d:List Sx):Prop:=
 bif decide (c< (b.length:Int))then (
  At b c fun a=>
 kP.pre (a,())/\
 ql (d.length+[(⟨(qK a).isList,(qK a).atom,(qK a).list⟩:Sx)].length) 48 (
 g (b,IntKind.i64.wrap (c+1),e,f,d++[(⟨(qK a).isList,(qK a).atom,(qK a).list⟩:Sx)],())))
 else (
  qds K d e f)
def qcQ (K:Kn) (g:prodL [.sl .idk,.int .i64,.bool,.str,.sl .sexp]):Prop:=
 qy (γ:=prodL [.sl .idk,.int .i64,.bool,.str,.sl .sexp]) (fun V y=>Xh K V y.1 y.2.1 y.2.2.1 y.2.2.2.1 y.2.2.2.2.1) g
def qmS (g:prodL qg3) (K:Kn):Prop:=
 qcQ K (g.1,0,false,(⟨#[]⟩:ByteArray),[],())
theorem qdS (g:prodL qg3) (K X:Kn) (h:qmS g K):FCalls Tryz.prog 130 (argsT qsF qg3 g) [] K X:=
 FCalls.settle0 (qw Tryz.func130 Tryz.ntmps130 Tryz.results130 qj (qx vd (qx yu qz)) qCl qBp (by kernel_rfl) (by kernel_rfl) h)
end
section
open Go.RowKit
set_option maxRecDepth 100000
theorem qgQ {l:List Idn} {K:Kn} (hp:ovP l) (h:K (.ag (enc .sexp (qJ l))) []):qnx (l,()) K:=by
 obtain ⟨hl,hi⟩:=hp;unfold qnx;refine qy.map l qK (fun n out=>(l,(l.length:Int),n,false,⟨#[]⟩,true,⟨#[]⟩,out,())) (by omega) rfl (fun W n hn out ho hW=> ?_) fun W=> ?_
 . show Xm K W l l.length n false ⟨#[]⟩ true ⟨#[]⟩ out
   unfold Xm;rw [qu hn,Jae];simp only [zr];exact qD hn ⟨hi _ (Jba _),by simp only [Jal,ho];omega,hW⟩
 . show Xm K W l l.length l.length false ⟨#[]⟩ true ⟨#[]⟩ (l.map qK)
   unfold Xm;rw [qm,Jaf];exact h
def qzZ:Sp:=⟨qtU,qfu,fun g=>ovP g.1,fun g=> .ag (enc .sexp (qJ g.1)),fun _=>none⟩
theorem QA:qzZ.Ok Tryz.prog 163 false:=
 .mk (fun g K X hp h=>qe6 g K X (qgQ hp h))
theorem qga {l:List Idn} {K:Kn} (hp:ovP l) (h:K (.ag (enc .sexp (qJ l))) []):qmS (l,()) K:=by
 obtain ⟨hl,hi⟩:=hp;unfold qmS;refine qy.map l qK (fun n out=>(l,n,false,⟨#[]⟩,out,())) (by omega) rfl (fun W n hn out ho hW=> ?_) fun W=> ?_
 . show Xh K W l n false ⟨#[]⟩ out
   unfold Xh;rw [qu hn,Jae];simp only [zr];exact qD hn ⟨hi _ (Jba _),by simp only [Jal,ho];omega,hW⟩
 . show Xh K W l l.length false ⟨#[]⟩ (l.map qK)
   unfold Xh;rw [qm,Jaf];exact ⟨trivial,h⟩
def qzh:Sp:=⟨qsF,qg3,fun g=>ovP g.1,fun g=> .ag (enc .sexp (qJ g.1)),fun _=>none⟩
theorem QE:qzh.Ok Tryz.prog 130 false:=
 .mk (fun g K X hp h=>qdS g K X (qga hp h))
end
section
open Go.RowKit
attribute [local irreducible] zb qa
set_option maxRecDepth 100000
abbrev qr5:List Sh:=[.leaf]
abbrev qdR:List Lf:=[.el .chg]
def qp0 (g:prodL qdR) (K:Kn):Prop:=
 YB.pre (g.1.typ,())/\
 K (.sl true .sexp [(⟨(qX g.1.typ).isList,(qX g.1.typ).atom,(qX g.1.typ).list⟩:Sx)]) []
theorem qeg (g:prodL qdR) (K X:Kn) (h:qp0 g K):FCalls Tryz.prog 160 (argsT qr5 qdR g) [] K X:=
 FCalls.settle0 (qw Tryz.func160 Tryz.ntmps160 Tryz.results160 qj (qx Xl qz) [] [] (by kernel_rfl) (by kernel_rfl) h)
abbrev qpd:List Sh:=[.leaf]
abbrev qeC:List Lf:=[.el .chg]
def qsj (g:prodL qeC) (K:Kn):Prop:=
 Qq.pre (g.1.file,())/\
 Qq.pre (g.1.parent,())/\
 True/\
 qzZ.pre (g.1.over,())/\
 K (.sl true .sexp [(⟨(qK g.1.file).isList,(qK g.1.file).atom,(qK g.1.file).list⟩:Sx),(⟨(qK g.1.parent).isList,(qK g.1.parent).atom,(qK g.1.parent).list⟩:Sx),(⟨false,g.1.name,[]⟩:Sx),(⟨(qJ g.1.over).isList,(qJ g.1.over).atom,(qJ g.1.over).list⟩:Sx)]) []
theorem qgp (g:prodL qeC) (K X:Kn) (h:qsj g K):FCalls Tryz.prog 161 (argsT qpd qeC g) [] K X:=
 FCalls.settle0 (qw Tryz.func161 Tryz.ntmps161 Tryz.results161 qj (qx QJ (qx yD (qx QA qz))) [] [] (by kernel_rfl) (by kernel_rfl) h)
abbrev qrC:List Sh:=[.leaf]
abbrev qf4:List Lf:=[.el .chg]
def quq (g:prodL qf4) (K:Kn):Prop:=
 Qq.pre (g.1.file,())/\
 YB.pre (g.1.mode,())/\
 qzZ.pre (g.1.over,())/\
 K (.sl true .sexp [(⟨(qK g.1.file).isList,(qK g.1.file).atom,(qK g.1.file).list⟩:Sx),(⟨(qX g.1.mode).isList,(qX g.1.mode).atom,(qX g.1.mode).list⟩:Sx),(⟨(qJ g.1.over).isList,(qJ g.1.over).atom,(qJ g.1.over).list⟩:Sx)]) []
theorem qgV (g:prodL qf4) (K X:Kn) (h:quq g K):FCalls Tryz.prog 164 (argsT qrC qf4 g) [] K X:=
 FCalls.settle0 (qw Tryz.func164 Tryz.ntmps164 Tryz.results164 qj (qx Xl (qx yD (qx QA qz))) [] [] (by kernel_rfl) (by kernel_rfl) h)
abbrev qtk:List Sh:=[.leaf]
abbrev qf8:List Lf:=[.el .chg]
def quj (g:prodL qf8) (K:Kn):Prop:=
 Qq.pre (g.1.file,())/\
 True/\
 qzZ.pre (g.1.over,())/\
 K (.sl true .sexp [(⟨(qK g.1.file).isList,(qK g.1.file).atom,(qK g.1.file).list⟩:Sx),(⟨false,g.1.data,[]⟩:Sx),(⟨(qJ g.1.over).isList,(qJ g.1.over).atom,(qJ g.1.over).list⟩:Sx)]) []
theorem qb8 (g:prodL qf8) (K X:Kn) (h:quj g K):FCalls Tryz.prog 165 (argsT qtk qf8 g) [] K X:=
 FCalls.settle0 (qw Tryz.func165 Tryz.ntmps165 Tryz.results165 qj (qx QJ (qx yD (qx QA qz))) [] [] (by kernel_rfl) (by kernel_rfl) h)
abbrev qro:List Sh:=[.leaf]
abbrev qes:List Lf:=[.el .chg]
def qsC (g:prodL qes) (K:Kn):Prop:=
 Qq.pre (g.1.file,())/\
 Qq.pre (g.1.after,())/\
 Qq.pre (g.1.before,())/\
 qh8.pre (g.1.lines,())/\
 K (.sl true .sexp [(⟨(qK g.1.file).isList,(qK g.1.file).atom,(qK g.1.file).list⟩:Sx),(⟨(qK g.1.after).isList,(qK g.1.after).atom,(qK g.1.after).list⟩:Sx),(⟨(qK g.1.before).isList,(qK g.1.before).atom,(qK g.1.before).list⟩:Sx),(⟨(zh g.1.lines).isList,(zh g.1.lines).atom,(zh g.1.lines).list⟩:Sx)]) []
theorem qcj (g:prodL qes) (K X:Kn) (h:qsC g K):FCalls Tryz.prog 166 (argsT qro qes g) [] K X:=
 FCalls.settle0 (qw Tryz.func166 Tryz.ntmps166 Tryz.results166 qj (qx yD (qx qVH qz)) [] [] (by kernel_rfl) (by kernel_rfl) h)
abbrev qtA:List Sh:=[.leaf]
abbrev qdN:List Lf:=[.el .chg]
def qpP (g:prodL qdN) (K:Kn):Prop:=
 Qq.pre (g.1.file,())/\
 Qq.pre (g.1.after,())/\
 Qq.pre (g.1.before,())/\
 qzZ.pre (g.1.over,())/\
 K (.sl true .sexp [(⟨(qK g.1.file).isList,(qK g.1.file).atom,(qK g.1.file).list⟩:Sx),(⟨(qK g.1.after).isList,(qK g.1.after).atom,(qK g.1.after).list⟩:Sx),(⟨(qK g.1.before).isList,(qK g.1.before).atom,(qK g.1.before).list⟩:Sx),(⟨(qJ g.1.over).isList,(qJ g.1.over).atom,(qJ g.1.over).list⟩:Sx)]) []
theorem qdy (g:prodL qdN) (K X:Kn) (h:qpP g K):FCalls Tryz.prog 168 (argsT qtA qdN g) [] K X:=
 FCalls.settle0 (qw Tryz.func168 Tryz.ntmps168 Tryz.results168 qj (qx yD (qx QA qz)) [] [] (by kernel_rfl) (by kernel_rfl) h)
abbrev qp2:List Sh:=[.leaf]
abbrev qgt:List Lf:=[.el .chg]
def qtp (g:prodL qgt) (K:Kn):Prop:=
 qzZ.pre (g.1.over,())/\
 K (.sl true .sexp [(⟨(qJ g.1.over).isList,(qJ g.1.over).atom,(qJ g.1.over).list⟩:Sx)]) []
theorem qho (g:prodL qgt) (K X:Kn) (h:qtp g K):FCalls Tryz.prog 169 (argsT qp2 qgt g) [] K X:=
 FCalls.settle0 (qw Tryz.func169 Tryz.ntmps169 Tryz.results169 qj (qx QA qz) [] [] (by kernel_rfl) (by kernel_rfl) h)
def qul:List (Nat×Hint):=[(25,⟨[((2,[]),none)],[(2,.pt 0 0),(3,.leaf)],[.cells [.leaf,.leaf,.nil]],[.sl .sexp,.bool,.str]⟩)]
abbrev qif:List Sh:=[.leaf]
abbrev qzR:List Lf:=[.el .chg]
def qlb (g:prodL qzR):prodL qzR:=(⟨1,g.1.file,g.1.typ,g.1.parent,g.1.name,g.1.mode,g.1.data,g.1.after,g.1.before,g.1.lines,g.1.over⟩,g.2)
def qYn (K:Kn) (a:List Sx) (b:Bool) (c:ByteArray):Prop:=
 True/\
 K (.ag [.bool true,.str (⟨#[]⟩:ByteArray),.sl false .sexp a]) []
def qlz (g:prodL qzR) (K:Kn):Prop:=
 V5.pre (1,())/\
 V5.pre (g.1.typ,())/\
 xA (0< [(⟨(qX g.1.typ).isList,(qX g.1.typ).atom,(qX g.1.typ).list⟩:Sx)].length) (ql ([(⟨(qX 1).isList,(qX 1).atom,(qX 1).list⟩:Sx)].length+[(⟨(qX g.1.typ).isList,(qX g.1.typ).atom,(qX g.1.typ).list⟩:Sx)].length) 48 (
 qYn K ([(⟨(qX 1).isList,(qX 1).atom,(qX 1).list⟩:Sx)]++[(⟨(qX g.1.typ).isList,(qX g.1.typ).atom,(qX g.1.typ).list⟩:Sx)]) false (⟨#[]⟩:ByteArray)))
theorem qYi (g:prodL qzR) (K X:Kn) (h:qlz g K):FCalls Tryz.prog 75 (argsT qif qzR (qlb g)) [] K X:=
 FCalls.settle0 (qw Tryz.func75 Tryz.ntmps75 Tryz.results75 qj (qx vd (qx ww qz)) [] qul (by kernel_rfl) (by kernel_rfl) h)
def qsA:List (Nat×Hint):=[(25,⟨[((2,[]),none)],[(2,.pt 0 0),(3,.leaf)],[.cells [.leaf,.leaf,.nil]],[.sl .sexp,.bool,.str]⟩)]
abbrev qpy:List Sh:=[.leaf]
abbrev qv5:List Lf:=[.el .chg]
def qot (g:prodL qv5):prodL qv5:=(⟨2,g.1.file,g.1.typ,g.1.parent,g.1.name,g.1.mode,g.1.data,g.1.after,g.1.before,g.1.lines,g.1.over⟩,g.2)
def qVP (K:Kn) (a:List Sx) (b:Bool) (c:ByteArray):Prop:=
 True/\
 K (.ag [.bool true,.str (⟨#[]⟩:ByteArray),.sl false .sexp a]) []
def qhS (g:prodL qv5) (K:Kn):Prop:=
 V5.pre (2,())/\
 kP.pre (g.1.file,())/\
 xA (0< [(⟨(qK g.1.file).isList,(qK g.1.file).atom,(qK g.1.file).list⟩:Sx)].length) (ql ([(⟨(qX 2).isList,(qX 2).atom,(qX 2).list⟩:Sx)].length+[(⟨(qK g.1.file).isList,(qK g.1.file).atom,(qK g.1.file).list⟩:Sx)].length) 48 (
 kP.pre (g.1.parent,())/\
 True/\
 ql (([(⟨(qX 2).isList,(qX 2).atom,(qX 2).list⟩:Sx)]++[(⟨(qK g.1.file).isList,(qK g.1.file).atom,(qK g.1.file).list⟩:Sx)]).length+[(⟨(qK g.1.parent).isList,(qK g.1.parent).atom,(qK g.1.parent).list⟩:Sx),(⟨false,g.1.name,[]⟩:Sx)].length) 48 (
 qzh.pre (g.1.over,())/\
 ql ((([(⟨(qX 2).isList,(qX 2).atom,(qX 2).list⟩:Sx)]++[(⟨(qK g.1.file).isList,(qK g.1.file).atom,(qK g.1.file).list⟩:Sx)])++[(⟨(qK g.1.parent).isList,(qK g.1.parent).atom,(qK g.1.parent).list⟩:Sx),(⟨false,g.1.name,[]⟩:Sx)]).length+[(⟨(qJ g.1.over).isList,(qJ g.1.over).atom,(qJ g.1.over).list⟩:Sx)].length) 48 (
 qVP K ((([(⟨(qX 2).isList,(qX 2).atom,(qX 2).list⟩:Sx)]++[(⟨(qK g.1.file).isList,(qK g.1.file).atom,(qK g.1.file).list⟩:Sx)])++[(⟨(qK g.1.parent).isList,(qK g.1.parent).atom,(qK g.1.parent).list⟩:Sx),(⟨false,g.1.name,[]⟩:Sx)])++[(⟨(qJ g.1.over).isList,(qJ g.1.over).atom,(qJ g.1.over).list⟩:Sx)]) false (⟨#[]⟩:ByteArray)))))
theorem qVR (g:prodL qv5) (K X:Kn) (h:qhS g K):FCalls Tryz.prog 75 (argsT qpy qv5 (qot g)) [] K X:=
 FCalls.settle0 (qw Tryz.func75 Tryz.ntmps75 Tryz.results75 qj (qx vd (qx XQ (qx ww (qx yu (qx QE qz))))) [] qsA (by kernel_rfl) (by kernel_rfl) h)
def qpG:List (Nat×Hint):=[(25,⟨[((2,[]),none)],[(2,.pt 0 0),(3,.leaf)],[.cells [.leaf,.leaf,.nil]],[.sl .sexp,.bool,.str]⟩)]
abbrev qry:List Sh:=[.leaf]
abbrev qvI:List Lf:=[.el .chg]
def qlF (g:prodL qvI):prodL qvI:=(⟨3,g.1.file,g.1.typ,g.1.parent,g.1.name,g.1.mode,g.1.data,g.1.after,g.1.before,g.1.lines,g.1.over⟩,g.2)
def qYw (K:Kn) (a:List Sx) (b:Bool) (c:ByteArray):Prop:=
 True/\
 K (.ag [.bool true,.str (⟨#[]⟩:ByteArray),.sl false .sexp a]) []
def qig (g:prodL qvI) (K:Kn):Prop:=
 V5.pre (3,())/\
 kP.pre (g.1.file,())/\
 xA (0< [(⟨(qK g.1.file).isList,(qK g.1.file).atom,(qK g.1.file).list⟩:Sx)].length) (ql ([(⟨(qX 3).isList,(qX 3).atom,(qX 3).list⟩:Sx)].length+[(⟨(qK g.1.file).isList,(qK g.1.file).atom,(qK g.1.file).list⟩:Sx)].length) 48 (
 V5.pre (g.1.mode,())/\
 ql (([(⟨(qX 3).isList,(qX 3).atom,(qX 3).list⟩:Sx)]++[(⟨(qK g.1.file).isList,(qK g.1.file).atom,(qK g.1.file).list⟩:Sx)]).length+[(⟨(qX g.1.mode).isList,(qX g.1.mode).atom,(qX g.1.mode).list⟩:Sx)].length) 48 (
 qzh.pre (g.1.over,())/\
 ql ((([(⟨(qX 3).isList,(qX 3).atom,(qX 3).list⟩:Sx)]++[(⟨(qK g.1.file).isList,(qK g.1.file).atom,(qK g.1.file).list⟩:Sx)])++[(⟨(qX g.1.mode).isList,(qX g.1.mode).atom,(qX g.1.mode).list⟩:Sx)]).length+[(⟨(qJ g.1.over).isList,(qJ g.1.over).atom,(qJ g.1.over).list⟩:Sx)].length) 48 (
 qYw K ((([(⟨(qX 3).isList,(qX 3).atom,(qX 3).list⟩:Sx)]++[(⟨(qK g.1.file).isList,(qK g.1.file).atom,(qK g.1.file).list⟩:Sx)])++[(⟨(qX g.1.mode).isList,(qX g.1.mode).atom,(qX g.1.mode).list⟩:Sx)])++[(⟨(qJ g.1.over).isList,(qJ g.1.over).atom,(qJ g.1.over).list⟩:Sx)]) false (⟨#[]⟩:ByteArray)))))
theorem qWr (g:prodL qvI) (K X:Kn) (h:qig g K):FCalls Tryz.prog 75 (argsT qry qvI (qlF g)) [] K X:=
 FCalls.settle0 (qw Tryz.func75 Tryz.ntmps75 Tryz.results75 qj (qx vd (qx ww (qx yu (qx QE qz)))) [] qpG (by kernel_rfl) (by kernel_rfl) h)
def qtN:List (Nat×Hint):=[(25,⟨[((2,[]),none)],[(2,.pt 0 0),(3,.leaf)],[.cells [.leaf,.leaf,.nil]],[.sl .sexp,.bool,.str]⟩)]
abbrev quY:List Sh:=[.leaf]
abbrev qvj:List Lf:=[.el .chg]
def qlY (g:prodL qvj):prodL qvj:=(⟨4,g.1.file,g.1.typ,g.1.parent,g.1.name,g.1.mode,g.1.data,g.1.after,g.1.before,g.1.lines,g.1.over⟩,g.2)
def qaO (K:Kn) (a:List Sx) (b:Bool) (c:ByteArray):Prop:=
 True/\
 K (.ag [.bool true,.str (⟨#[]⟩:ByteArray),.sl false .sexp a]) []
def qi2 (g:prodL qvj) (K:Kn):Prop:=
 V5.pre (4,())/\
 kP.pre (g.1.file,())/\
 xA (0< [(⟨(qK g.1.file).isList,(qK g.1.file).atom,(qK g.1.file).list⟩:Sx)].length) (ql ([(⟨(qX 4).isList,(qX 4).atom,(qX 4).list⟩:Sx)].length+[(⟨(qK g.1.file).isList,(qK g.1.file).atom,(qK g.1.file).list⟩:Sx)].length) 48 (
 True/\
 ql (([(⟨(qX 4).isList,(qX 4).atom,(qX 4).list⟩:Sx)]++[(⟨(qK g.1.file).isList,(qK g.1.file).atom,(qK g.1.file).list⟩:Sx)]).length+[(⟨false,g.1.data,[]⟩:Sx)].length) 48 (
 qzh.pre (g.1.over,())/\
 ql ((([(⟨(qX 4).isList,(qX 4).atom,(qX 4).list⟩:Sx)]++[(⟨(qK g.1.file).isList,(qK g.1.file).atom,(qK g.1.file).list⟩:Sx)])++[(⟨false,g.1.data,[]⟩:Sx)]).length+[(⟨(qJ g.1.over).isList,(qJ g.1.over).atom,(qJ g.1.over).list⟩:Sx)].length) 48 (
 qaO K ((([(⟨(qX 4).isList,(qX 4).atom,(qX 4).list⟩:Sx)]++[(⟨(qK g.1.file).isList,(qK g.1.file).atom,(qK g.1.file).list⟩:Sx)])++[(⟨false,g.1.data,[]⟩:Sx)])++[(⟨(qJ g.1.over).isList,(qJ g.1.over).atom,(qJ g.1.over).list⟩:Sx)]) false (⟨#[]⟩:ByteArray)))))
theorem qaN (g:prodL qvj) (K X:Kn) (h:qi2 g K):FCalls Tryz.prog 75 (argsT quY qvj (qlY g)) [] K X:=
 FCalls.settle0 (qw Tryz.func75 Tryz.ntmps75 Tryz.results75 qj (qx vd (qx XQ (qx ww (qx yu (qx QE qz))))) [] qtN (by kernel_rfl) (by kernel_rfl) h)
def quc:List (Nat×Hint):=[(19,⟨[((1,[]),none),((2,[]),none),((3,[]),none),((4,[]),some .sexp)],[(1,.pt 0 0),(2,.pt 1 0),(3,.oa .sexp 2),(4,.oa .sexp 3),(5,.leaf)],[.el,.cells [.leaf,.leaf,.nil],.arr .sexp,.arr .sexp],[.int .i64,.el .chg,.bool,.str,.sl .sexp,.sl .sexp]⟩)]
def qsY:List (Nat×Hint):=[(22,⟨[((2,[]),none),((3,[]),none)],[(2,.pt 0 0),(3,.oa .sexp 1),(4,.leaf)],[.cells [.leaf,.leaf,.nil],.arr .sexp],[.sl .sexp,.bool,.str,.sl .sexp]⟩),(25,⟨[((2,[]),none)],[(2,.pt 0 0),(3,.leaf)],[.cells [.leaf,.leaf,.nil]],[.sl .sexp,.bool,.str]⟩)]
abbrev quP:List Sh:=[.leaf]
abbrev qvC:List Lf:=[.el .chg]
def qj3 (g:prodL qvC):prodL qvC:=(⟨5,g.1.file,g.1.typ,g.1.parent,g.1.name,g.1.mode,g.1.data,g.1.after,g.1.before,g.1.lines,g.1.over⟩,g.2)
def qJF (K:Kn) (a:List Sx) (b:Bool) (c:ByteArray):Prop:=
 True/\
 K (.ag [.bool true,.str (⟨#[]⟩:ByteArray),.sl false .sexp a]) []
def qYm (K:Kn) (a:List Sx) (c:Bool) (d:ByteArray) (b:List Sx):Prop:=
 True/\
 ql (b.length+[(⟨true,(⟨#[]⟩:ByteArray),a⟩:Sx)].length) 48 (
 qJF K (b++[(⟨true,(⟨#[]⟩:ByteArray),a⟩:Sx)]) c d)
def QZ (K:Kn) (h:prodL [.int .i64,.el .chg,.bool,.str,.sl .sexp,.sl .sexp]->Prop) (a:Int) (b:Chg) (d:Bool) (e:ByteArray) (f:List Sx) (c:List Sx):Prop:=
 bif decide (a< (b.lines.length:Int))then (
  At b.lines a fun g=>
 True/\
 ql (c.length+[(⟨false,g,[]⟩:Sx)].length) 48 (
 h (IntKind.i64.wrap (a+1),b,d,e,f,c++[(⟨false,g,[]⟩:Sx)],())))
 else (
  qYm K c d e f)
def qvn (K:Kn) (g:prodL [.int .i64,.el .chg,.bool,.str,.sl .sexp,.sl .sexp]):Prop:=
 qy (γ:=prodL [.int .i64,.el .chg,.bool,.str,.sl .sexp,.sl .sexp]) (fun V y=>QZ K V y.1 y.2.1 y.2.2.1 y.2.2.2.1 y.2.2.2.2.1 y.2.2.2.2.2.1) g
def qVB (g:prodL qvC) (K:Kn):Prop:=
 V5.pre (5,())/\
 kP.pre (g.1.file,())/\
 xA (0< [(⟨(qK g.1.file).isList,(qK g.1.file).atom,(qK g.1.file).list⟩:Sx)].length) (ql ([(⟨(qX 5).isList,(qX 5).atom,(qX 5).list⟩:Sx)].length+[(⟨(qK g.1.file).isList,(qK g.1.file).atom,(qK g.1.file).list⟩:Sx)].length) 48 (
 kP.pre (g.1.after,())/\
 kP.pre (g.1.before,())/\
 ql (([(⟨(qX 5).isList,(qX 5).atom,(qX 5).list⟩:Sx)]++[(⟨(qK g.1.file).isList,(qK g.1.file).atom,(qK g.1.file).list⟩:Sx)]).length+[(⟨(qK g.1.after).isList,(qK g.1.after).atom,(qK g.1.after).list⟩:Sx),(⟨(qK g.1.before).isList,(qK g.1.before).atom,(qK g.1.before).list⟩:Sx)].length) 48 (
 qvn K (0,(⟨5,g.1.file,g.1.typ,g.1.parent,g.1.name,g.1.mode,g.1.data,g.1.after,g.1.before,g.1.lines,g.1.over⟩:Chg),false,(⟨#[]⟩:ByteArray),([(⟨(qX 5).isList,(qX 5).atom,(qX 5).list⟩:Sx)]++[(⟨(qK g.1.file).isList,(qK g.1.file).atom,(qK g.1.file).list⟩:Sx)])++[(⟨(qK g.1.after).isList,(qK g.1.after).atom,(qK g.1.after).list⟩:Sx),(⟨(qK g.1.before).isList,(qK g.1.before).atom,(qK g.1.before).list⟩:Sx)],[],()))))
theorem qa4 (g:prodL qvC) (K X:Kn) (h:qVB g K):FCalls Tryz.prog 75 (argsT quP qvC (qj3 g)) [] K X:=
 FCalls.settle0 (qw Tryz.func75 Tryz.ntmps75 Tryz.results75 qj (qx vd (qx XQ (qx ww (qx yu qz)))) quc qsY (by kernel_rfl) (by kernel_rfl) h)
def qrh:List (Nat×Hint):=[(25,⟨[((2,[]),none)],[(2,.pt 0 0),(3,.leaf)],[.cells [.leaf,.leaf,.nil]],[.sl .sexp,.bool,.str]⟩)]
abbrev qtm:List Sh:=[.leaf]
abbrev qvb:List Lf:=[.el .chg]
def qlh (g:prodL qvb):prodL qvb:=(⟨6,g.1.file,g.1.typ,g.1.parent,g.1.name,g.1.mode,g.1.data,g.1.after,g.1.before,g.1.lines,g.1.over⟩,g.2)
def qK0 (K:Kn) (a:List Sx) (b:Bool) (c:ByteArray):Prop:=
 True/\
 K (.ag [.bool true,.str (⟨#[]⟩:ByteArray),.sl false .sexp a]) []
def qi7 (g:prodL qvb) (K:Kn):Prop:=
 V5.pre (6,())/\
 kP.pre (g.1.file,())/\
 xA (0< [(⟨(qK g.1.file).isList,(qK g.1.file).atom,(qK g.1.file).list⟩:Sx)].length) (ql ([(⟨(qX 6).isList,(qX 6).atom,(qX 6).list⟩:Sx)].length+[(⟨(qK g.1.file).isList,(qK g.1.file).atom,(qK g.1.file).list⟩:Sx)].length) 48 (
 kP.pre (g.1.after,())/\
 kP.pre (g.1.before,())/\
 ql (([(⟨(qX 6).isList,(qX 6).atom,(qX 6).list⟩:Sx)]++[(⟨(qK g.1.file).isList,(qK g.1.file).atom,(qK g.1.file).list⟩:Sx)]).length+[(⟨(qK g.1.after).isList,(qK g.1.after).atom,(qK g.1.after).list⟩:Sx),(⟨(qK g.1.before).isList,(qK g.1.before).atom,(qK g.1.before).list⟩:Sx)].length) 48 (
 qzh.pre (g.1.over,())/\
 ql ((([(⟨(qX 6).isList,(qX 6).atom,(qX 6).list⟩:Sx)]++[(⟨(qK g.1.file).isList,(qK g.1.file).atom,(qK g.1.file).list⟩:Sx)])++[(⟨(qK g.1.after).isList,(qK g.1.after).atom,(qK g.1.after).list⟩:Sx),(⟨(qK g.1.before).isList,(qK g.1.before).atom,(qK g.1.before).list⟩:Sx)]).length+[(⟨(qJ g.1.over).isList,(qJ g.1.over).atom,(qJ g.1.over).list⟩:Sx)].length) 48 (
 qK0 K ((([(⟨(qX 6).isList,(qX 6).atom,(qX 6).list⟩:Sx)]++[(⟨(qK g.1.file).isList,(qK g.1.file).atom,(qK g.1.file).list⟩:Sx)])++[(⟨(qK g.1.after).isList,(qK g.1.after).atom,(qK g.1.after).list⟩:Sx),(⟨(qK g.1.before).isList,(qK g.1.before).atom,(qK g.1.before).list⟩:Sx)])++[(⟨(qJ g.1.over).isList,(qJ g.1.over).atom,(qJ g.1.over).list⟩:Sx)]) false (⟨#[]⟩:ByteArray)))))
theorem qVU (g:prodL qvb) (K X:Kn) (h:qi7 g K):FCalls Tryz.prog 75 (argsT qtm qvb (qlh g)) [] K X:=
 FCalls.settle0 (qw Tryz.func75 Tryz.ntmps75 Tryz.results75 qj (qx vd (qx ww (qx yu (qx QE qz)))) [] qrh (by kernel_rfl) (by kernel_rfl) h)
def qrD:List (Nat×Hint):=[(25,⟨[((2,[]),none)],[(2,.pt 0 0),(3,.leaf)],[.cells [.leaf,.leaf,.nil]],[.sl .sexp,.bool,.str]⟩)]
abbrev qtS:List Sh:=[.leaf]
abbrev qxT:List Lf:=[.el .chg]
def qmo (g:prodL qxT):prodL qxT:=(⟨7,g.1.file,g.1.typ,g.1.parent,g.1.name,g.1.mode,g.1.data,g.1.after,g.1.before,g.1.lines,g.1.over⟩,g.2)
def qat (K:Kn) (a:List Sx) (b:Bool) (c:ByteArray):Prop:=
 True/\
 K (.ag [.bool true,.str (⟨#[]⟩:ByteArray),.sl false .sexp a]) []
def qlj (g:prodL qxT) (K:Kn):Prop:=
 V5.pre (7,())/\
 qzh.pre (g.1.over,())/\
 xA (0< [(⟨(qJ g.1.over).isList,(qJ g.1.over).atom,(qJ g.1.over).list⟩:Sx)].length) (ql ([(⟨(qX 7).isList,(qX 7).atom,(qX 7).list⟩:Sx)].length+[(⟨(qJ g.1.over).isList,(qJ g.1.over).atom,(qJ g.1.over).list⟩:Sx)].length) 48 (
 qat K ([(⟨(qX 7).isList,(qX 7).atom,(qX 7).list⟩:Sx)]++[(⟨(qJ g.1.over).isList,(qJ g.1.over).atom,(qJ g.1.over).list⟩:Sx)]) false (⟨#[]⟩:ByteArray)))
theorem qaG (g:prodL qxT) (K X:Kn) (h:qlj g K):FCalls Tryz.prog 75 (argsT qtS qxT (qmo g)) [] K X:=
 FCalls.settle0 (qw Tryz.func75 Tryz.ntmps75 Tryz.results75 qj (qx vd (qx ww (qx QE qz))) [] qrD (by kernel_rfl) (by kernel_rfl) h)
end
section
open Go.RowKit
set_option maxRecDepth 100000
def qhH:Sp:=⟨qr5,qdR,fun g=>kZ g.1/\chW g.1,fun g=> .sl false .sexp (z8 1 g.1),fun _=>none⟩
theorem qKM:qhH.Ok Tryz.prog 160 false:=
 .mk (fun g K X hp h=>FCalls.weak (qeg g (zI K) X (by obtain ⟨hp,w1,w2,w3,w4,w5,w6,w7⟩:=hp;unfold qp0;simp only [zr];exact ⟨w1,zI.sl h⟩)))
def qWJ:Sp:=⟨qpd,qeC,fun g=>kZ g.1/\chW g.1,fun g=> .sl false .sexp (z8 2 g.1),fun _=>none⟩
theorem qKi:qWJ.Ok Tryz.prog 161 false:=
 .mk (fun g K X hp h=>FCalls.weak (qgp g (zI K) X (by have ho:=JQ hp.1 hp.2;obtain ⟨hp,w1,w2,w3,w4,w5,w6,w7⟩:=hp;unfold qsj;simp only [zr];exact ⟨w3,w4,trivial,ho,zI.sl h⟩)))
def qK2:Sp:=⟨qrC,qf4,fun g=>kZ g.1/\chW g.1,fun g=> .sl false .sexp (z8 3 g.1),fun _=>none⟩
theorem qae:qK2.Ok Tryz.prog 164 false:=
 .mk (fun g K X hp h=>FCalls.weak (qgV g (zI K) X (by have ho:=JQ hp.1 hp.2;obtain ⟨hp,w1,w2,w3,w4,w5,w6,w7⟩:=hp;unfold quq;simp only [zr];exact ⟨w3,w2,ho,zI.sl h⟩)))
def qac:Sp:=⟨qtk,qf8,fun g=>kZ g.1/\chW g.1,fun g=> .sl false .sexp (z8 4 g.1),fun _=>none⟩
theorem qau:qac.Ok Tryz.prog 165 false:=
 .mk (fun g K X hp h=>FCalls.weak (qb8 g (zI K) X (by have ho:=JQ hp.1 hp.2;obtain ⟨hp,w1,w2,w3,w4,w5,w6,w7⟩:=hp;unfold quj;simp only [zr];exact ⟨w3,trivial,ho,zI.sl h⟩)))
def qaJ:Sp:=⟨qro,qes,fun g=>kZ g.1/\chW g.1,fun g=> .sl false .sexp (z8 5 g.1),fun _=>none⟩
theorem qYz:qaJ.Ok Tryz.prog 166 false:=
 .mk (fun g K X hp h=>FCalls.weak (qcj g (zI K) X (by have hl:=(zA hp.1).2.2.1;obtain ⟨hp,w1,w2,w3,w4,w5,w6,w7⟩:=hp;unfold qsC;simp only [zr];exact ⟨w3,w5,w6,hl,zI.sl h⟩)))
def qYy:Sp:=⟨qtA,qdN,fun g=>kZ g.1/\chW g.1,fun g=> .sl false .sexp (z8 6 g.1),fun _=>none⟩
theorem qKC:qYy.Ok Tryz.prog 168 false:=
 .mk (fun g K X hp h=>FCalls.weak (qdy g (zI K) X (by have ho:=JQ hp.1 hp.2;obtain ⟨hp,w1,w2,w3,w4,w5,w6,w7⟩:=hp;unfold qpP;simp only [zr];exact ⟨w3,w5,w6,ho,zI.sl h⟩)))
def qWc:Sp:=⟨qp2,qgt,fun g=>kZ g.1/\chW g.1,fun g=> .sl false .sexp (z8 7 g.1),fun _=>none⟩
theorem qWM:qWc.Ok Tryz.prog 169 false:=
 .mk (fun g K X hp h=>FCalls.weak (qho g (zI K) X (by have ho:=JQ hp.1 hp.2;unfold qtp;simp only [zr];exact ⟨ho,zI.sl h⟩)))
theorem qak {c:Chg} {K:Kn} (hp:kZ c) (hw:chW c) (h:K (.ag (enc .sexp (qf [qX 5,qK c.file,qK c.after,qK c.before,zh c.lines]))) []):qVB (c,()) K:=by
 have hl:=(zA hp).2.2.1;obtain ⟨w1,w2,w3,w4,w5,w6,w7⟩:=hw;unfold qVB;simp only [zr];refine ⟨⟨by decide,by decide⟩,w3,Jag rfl,Jag rfl,w5,w6,Jag rfl, ?_⟩
 unfold qvn;refine qy.map c.lines qY (fun n out=>(n,(qj3 (c,())).1,false,⟨#[]⟩,[qX 5,qK c.file,qK c.after,qK c.before],out,())) (by omega) rfl (fun W n hn out ho hW=> ?_) fun W=> ?_
 . show QZ K W n (qj3 (c,())).1 false ⟨#[]⟩ [qX 5,qK c.file,qK c.after,qK c.before] out
   unfold QZ;show bif decide ((n:Int) < (c.lines.length:Int))then _ else _
   rw [qu hn,Jae];exact qD hn ⟨trivial,by simp only [Jal,ho];omega,hW⟩
 . show QZ K W c.lines.length (qj3 (c,())).1 false ⟨#[]⟩ [qX 5,qK c.file,qK c.after,qK c.before] (c.lines.map qY)
   unfold QZ;show bif decide ((c.lines.length:Int) < (c.lines.length:Int))then _ else _
   rw [qm,Jaf];exact ⟨trivial,Jag rfl,trivial,h⟩
def qrf:Sp:=⟨qif,qzR,fun g=>kZ g.1/\chW g.1/\zR g.1,fun g=> .ag (enc .sexp (yh g.1)),fun _=>none⟩
theorem qge:qrf.Ok Tryz.prog 75 false:=
 .mk (fun g K X hp h=>by
  obtain ⟨⟨kind,file,typ,parent,name,mode,data,after,before,lines,over⟩,⟨⟩⟩:=g;obtain ⟨hp,hw,hk⟩:=hp;have ho:=JQ hp hw;have hw':=hw;obtain ⟨w1,w2,w3,w4,w5,w6,w7⟩:=hw';have hk1:(1:Int)<=kind/\kind<=7:=hk;have:kind=1∨kind=2∨kind=3∨kind=4∨kind=5∨kind=6∨kind=7:=by omega
  rcases this with rfl | rfl | rfl | rfl | rfl | rfl | rfl
  . refine qYi (⟨1,file,typ,parent,name,mode,data,after,before,lines,over⟩,()) K X ?_;unfold qlz;simp only [zr];exact ⟨⟨by decide,by decide⟩,w1,Jag rfl,Jag rfl,trivial,h⟩
  . refine qVR (⟨2,file,typ,parent,name,mode,data,after,before,lines,over⟩,()) K X ?_;unfold qhS;simp only [zr];exact ⟨⟨by decide,by decide⟩,w3,Jag rfl,Jag rfl,w4,trivial,Jag rfl,ho,Jag rfl,trivial,h⟩
  . refine qWr (⟨3,file,typ,parent,name,mode,data,after,before,lines,over⟩,()) K X ?_;unfold qig;simp only [zr];exact ⟨⟨by decide,by decide⟩,w3,Jag rfl,Jag rfl,w2,Jag rfl,ho,Jag rfl,trivial,h⟩
  . refine qaN (⟨4,file,typ,parent,name,mode,data,after,before,lines,over⟩,()) K X ?_;unfold qi2;simp only [zr];exact ⟨⟨by decide,by decide⟩,w3,Jag rfl,Jag rfl,trivial,Jag rfl,ho,Jag rfl,trivial,h⟩
  . exact qa4 (⟨5,file,typ,parent,name,mode,data,after,before,lines,over⟩,()) K X (qak hp hw h)
  . refine qVU (⟨6,file,typ,parent,name,mode,data,after,before,lines,over⟩,()) K X ?_;unfold qi7;simp only [zr];exact ⟨⟨by decide,by decide⟩,w3,Jag rfl,Jag rfl,w5,w6,Jag rfl,ho,Jag rfl,trivial,h⟩
  . refine qaG (⟨7,file,typ,parent,name,mode,data,after,before,lines,over⟩,()) K X ?_;unfold qlj;simp only [zr];exact ⟨⟨by decide,by decide⟩,ho,Jag rfl,Jag rfl,trivial,h⟩)
end
section
open Go.RowKit
attribute [local irreducible] zb qa
set_option maxRecDepth 100000
def H70:List (Nat×Hint):=[(3,⟨[((1,[]),none),((4,[]),none),((5,[]),none),((4,[2]),some .sexp)],[(1,.pt 0 0),(4,.pt 1 0),(5,.pt 2 0),(15,.leaf),(16,.leaf),(17,.leaf)],[.cells [.leaf,.leaf,.leaf,.leaf,.leaf],.cells [.leaf,.leaf,.oa .sexp 3],.cells [.leaf,.leaf,.nil],.arr .sexp],[.sl .dig,.int .i64,.int .i64,.str,.str,.int .i64,.sl .dig,.sl .chg,.bool,.str,.bool,.str,.sl .sexp]⟩),(9,⟨[((1,[]),none),((4,[]),none),((5,[]),none),((8,[]),none),((4,[2]),none),((5,[2]),some .sexp)],[(1,.pt 0 0),(4,.pt 1 0),(5,.pt 2 0),(8,.mp 3),(32,.leaf),(33,.leaf),(34,.leaf)],[.cells [.leaf,.leaf,.leaf,.leaf,.leaf],.cells [.leaf,.leaf,.oa .sexp 4],.cells [.leaf,.leaf,.oa .sexp 5],.cells [.fe [(1,160),(2,161),(3,164),(4,165),(5,166),(6,168),(7,169)]],.arr .sexp,.arr .sexp],[.sl .chg,.int .i64,.int .i64,.str,.str,.int .i64,.sl .dig,.sl .chg,.bool,.str,.bool,.str,.sl .sexp,.sl .sexp]⟩)]
def J70:List (Nat×Hint):=[(13,⟨[((1,[]),none),((4,[]),none),((5,[]),none),((8,[]),none),((11,[]),none),((4,[2]),none),((5,[2]),none)],[(1,.pt 0 0),(4,.pt 1 0),(5,.pt 2 0),(8,.mp 3),(11,.pt 4 0),(32,.leaf),(33,.leaf),(34,.leaf)],[.cells [.leaf,.leaf,.leaf,.leaf,.leaf],.cells [.leaf,.leaf,.oa .sexp 5],.cells [.leaf,.leaf,.oa .sexp 6],.cells [.fe [(1,160),(2,161),(3,164),(4,165),(5,166),(6,168),(7,169)]],.cells [.leaf,.leaf,.leaf],.arr .sexp,.arr .sexp],[.sl .chg,.int .i64,.int .i64,.str,.str,.int .i64,.sl .dig,.sl .chg,.bool,.str,.bool,.str,.bool,.str,.sl .sexp,.sl .sexp,.sl .sexp]⟩),(15,⟨[((1,[]),none),((4,[]),none),((5,[]),none)],[(1,.pt 0 0),(4,.pt 1 0),(5,.pt 2 0)],[.cells [.leaf,.leaf,.leaf,.leaf,.leaf],.cells [.leaf,.leaf,.leaf],.cells [.leaf,.leaf,.leaf]],[.str,.str,.int .i64,.sl .dig,.sl .chg,.bool,.str,.sl .sexp,.bool,.str,.sl .sexp]⟩)]
abbrev S70:List Sh:=[.ag [.leaf,.leaf,.leaf,.leaf,.leaf]]
abbrev L70:List Lf:=[.str,.str,.int .i64,.sl .dig,.sl .chg]
def qju (K:Kn) (b c:ByteArray) (a:Int) (j:List Dig) (l:List Chg) (d:Bool) (e:ByteArray) (f:List Sx) (g:Bool) (h:ByteArray) (i:List Sx):Prop:=
 True/\
 True/\
 True/\
 YB.pre (a,())/\
 let g22:prodL [.sl .sexp]:=([(⟨false,(⟨#[113,117,105,108,116,49]⟩:ByteArray),[]⟩:Sx),(⟨false,b,[]⟩:Sx),(⟨false,c,[]⟩:Sx),(⟨(qX a).isList,(qX a).atom,(qX a).list⟩:Sx),(⟨d,e,f⟩:Sx),(⟨g,h,i⟩:Sx)],());
 qiO.pre (true,(⟨#[]⟩:ByteArray),g22.1,())/\
 K (.tu [.str ((vQ ⟨true,(⟨#[]⟩:ByteArray),g22.1⟩).1),.int .i64 ((vQ ⟨true,(⟨#[]⟩:ByteArray),g22.1⟩).2)]) []
def zc (K:Kn) (e:prodL [.sl .chg,.int .i64,.int .i64,.str,.str,.int .i64,.sl .dig,.sl .chg,.bool,.str,.bool,.str,.sl .sexp,.sl .sexp]->Prop) (f:List Chg) (g h:Int) (i j:ByteArray) (l:Int) (m:List Dig) (n:List Chg) (o:Bool) (p:ByteArray) (q:Bool) (r:ByteArray) (a:Bool) (b:ByteArray) (c:List Sx) (s:List Sx) (d:List Sx):Prop:=
 ql (d.length+[(⟨a,b,c⟩:Sx)].length) 48 (
 e (f,g,IntKind.i64.wrap (h+1),i,j,l,m,n,o,p,q,r,s,d++[(⟨a,b,c⟩:Sx)],()))
def Ji (K:Kn) (q:prodL [.sl .chg,.int .i64,.int .i64,.str,.str,.int .i64,.sl .dig,.sl .chg,.bool,.str,.bool,.str,.sl .sexp,.sl .sexp]->Prop) (c:List Chg) (d b:Int) (e f:ByteArray) (g:Int) (h:List Dig) (i:List Chg) (j:Bool) (l:ByteArray) (m:Bool) (n:ByteArray) (o:List Sx) (p:List Sx):Prop:=
 bif decide (b<d)then (
  At c b fun a=>
 YB.pre (a.kind,())/\
 let g18:prodL [.sl .sexp]:=([(⟨(qX a.kind).isList,(qX a.kind).atom,(qX a.kind).list⟩:Sx)],());
 bif decide (a.kind=1)then (
  qhH.pre (a,())/\
  bif decide ((z8 1 a).length=0)then (
   zc K q c d b e f g h i j l m n true (⟨#[]⟩:ByteArray) g18.1 o p)
  else (
   xA (0< (z8 1 a).length) (ql (g18.1.length+(z8 1 a).length) 48 (
   zc K q c d b e f g h i j l m n true (⟨#[]⟩:ByteArray) (g18.1++(z8 1 a)) o p))))
 else (
  bif decide (a.kind=2)then (
   qWJ.pre (a,())/\
   bif decide ((z8 2 a).length=0)then (
    zc K q c d b e f g h i j l m n true (⟨#[]⟩:ByteArray) g18.1 o p)
   else (
    xA (0< (z8 2 a).length) (ql (g18.1.length+(z8 2 a).length) 48 (
    zc K q c d b e f g h i j l m n true (⟨#[]⟩:ByteArray) (g18.1++(z8 2 a)) o p))))
  else (
   bif decide (a.kind=3)then (
    qK2.pre (a,())/\
    bif decide ((z8 3 a).length=0)then (
     zc K q c d b e f g h i j l m n true (⟨#[]⟩:ByteArray) g18.1 o p)
    else (
     xA (0< (z8 3 a).length) (ql (g18.1.length+(z8 3 a).length) 48 (
     zc K q c d b e f g h i j l m n true (⟨#[]⟩:ByteArray) (g18.1++(z8 3 a)) o p))))
   else (
    bif decide (a.kind=4)then (
     qac.pre (a,())/\
     bif decide ((z8 4 a).length=0)then (
      zc K q c d b e f g h i j l m n true (⟨#[]⟩:ByteArray) g18.1 o p)
     else (
      xA (0< (z8 4 a).length) (ql (g18.1.length+(z8 4 a).length) 48 (
      zc K q c d b e f g h i j l m n true (⟨#[]⟩:ByteArray) (g18.1++(z8 4 a)) o p))))
    else (
     bif decide (a.kind=5)then (
      qaJ.pre (a,())/\
      bif decide ((z8 5 a).length=0)then (
       zc K q c d b e f g h i j l m n true (⟨#[]⟩:ByteArray) g18.1 o p)
      else (
       xA (0< (z8 5 a).length) (ql (g18.1.length+(z8 5 a).length) 48 (
       zc K q c d b e f g h i j l m n true (⟨#[]⟩:ByteArray) (g18.1++(z8 5 a)) o p))))
     else (
      bif decide (a.kind=6)then (
       qYy.pre (a,())/\
       bif decide ((z8 6 a).length=0)then (
        zc K q c d b e f g h i j l m n true (⟨#[]⟩:ByteArray) g18.1 o p)
       else (
        xA (0< (z8 6 a).length) (ql (g18.1.length+(z8 6 a).length) 48 (
        zc K q c d b e f g h i j l m n true (⟨#[]⟩:ByteArray) (g18.1++(z8 6 a)) o p))))
      else (
       bif decide (a.kind=7)then (
        qWc.pre (a,())/\
        bif decide ((z8 7 a).length=0)then (
         zc K q c d b e f g h i j l m n true (⟨#[]⟩:ByteArray) g18.1 o p)
        else (
         xA (0< (z8 7 a).length) (ql (g18.1.length+(z8 7 a).length) 48 (
         zc K q c d b e f g h i j l m n true (⟨#[]⟩:ByteArray) (g18.1++(z8 7 a)) o p))))
       else (
        False))))))))
 else (
  qju K e f g h i j l o m n p)
def qjr (K:Kn) (g:prodL [.sl .chg,.int .i64,.int .i64,.str,.str,.int .i64,.sl .dig,.sl .chg,.bool,.str,.bool,.str,.sl .sexp,.sl .sexp]):Prop:=
 qy (γ:=prodL [.sl .chg,.int .i64,.int .i64,.str,.str,.int .i64,.sl .dig,.sl .chg,.bool,.str,.bool,.str,.sl .sexp,.sl .sexp]) (fun V y=>Ji K V y.1 y.2.1 y.2.2.1 y.2.2.2.1 y.2.2.2.2.1 y.2.2.2.2.2.1 y.2.2.2.2.2.2.1 y.2.2.2.2.2.2.2.1 y.2.2.2.2.2.2.2.2.1 y.2.2.2.2.2.2.2.2.2.1 y.2.2.2.2.2.2.2.2.2.2.1 y.2.2.2.2.2.2.2.2.2.2.2.1 y.2.2.2.2.2.2.2.2.2.2.2.2.1 y.2.2.2.2.2.2.2.2.2.2.2.2.2.1) g
def YH (K:Kn) (p:prodL [.sl .dig,.int .i64,.int .i64,.str,.str,.int .i64,.sl .dig,.sl .chg,.bool,.str,.bool,.str,.sl .sexp]->Prop) (d:List Dig) (e b:Int) (f g:ByteArray) (h:Int) (i:List Dig) (a:List Chg) (j:Bool) (l:ByteArray) (m:Bool) (n:ByteArray) (c:List Sx):Prop:=
 bif decide (b<e)then (
  At d b fun o=>
 True/\
 ql (c.length+[(⟨false,vP o,[]⟩:Sx)].length) 48 (
 p (d,e,IntKind.i64.wrap (b+1),f,g,h,i,a,j,l,m,n,c++[(⟨false,vP o,[]⟩:Sx)],())))
 else (
  True/\
 qjr K (a,(a.length:Int),0,f,g,h,i,a,j,l,m,n,c,[],()))
def qyd (K:Kn) (g:prodL [.sl .dig,.int .i64,.int .i64,.str,.str,.int .i64,.sl .dig,.sl .chg,.bool,.str,.bool,.str,.sl .sexp]):Prop:=
 qy (γ:=prodL [.sl .dig,.int .i64,.int .i64,.str,.str,.int .i64,.sl .dig,.sl .chg,.bool,.str,.bool,.str,.sl .sexp]) (fun V y=>YH K V y.1 y.2.1 y.2.2.1 y.2.2.2.1 y.2.2.2.2.1 y.2.2.2.2.2.1 y.2.2.2.2.2.2.1 y.2.2.2.2.2.2.2.1 y.2.2.2.2.2.2.2.2.1 y.2.2.2.2.2.2.2.2.2.1 y.2.2.2.2.2.2.2.2.2.2.1 y.2.2.2.2.2.2.2.2.2.2.2.1 y.2.2.2.2.2.2.2.2.2.2.2.2.1) g
def F70 (g:prodL L70) (K:Kn):Prop:=
 let g1:prodL []:=(());
 let g2:prodL []:=(());
 qyd K (g.2.2.2.1,(g.2.2.2.1.length:Int),0,g.1,g.2.1,g.2.2.1,g.2.2.2.1,g.2.2.2.2.1,true,(⟨#[]⟩:ByteArray),true,(⟨#[]⟩:ByteArray),[],())
theorem qoh (g:prodL L70) (K X:Kn) (h:F70 g K):FCalls Tryz.prog 70 (argsT S70 L70 g) [] K X:=
 FCalls.settle0 (qw Tryz.func70 Tryz.ntmps70 Tryz.results70 (qd qvq (qd XT qj)) (qx QJ (qx qVW (qx Xl (qx qKp (qx qKM (qx qKi (qx qae (qx qau (qx qYz (qx qKC (qx qWM qz))))))))))) H70 J70 (by kernel_rfl) (by kernel_rfl) h)
def H38:List (Nat×Hint):=[(3,⟨[((1,[]),none),((4,[]),some .sexp)],[(1,.pt 0 0),(4,.oa .sexp 1),(5,.nil),(6,.leaf)],[.cells [.leaf,.leaf,.leaf,.leaf,.leaf],.arr .sexp],[.int .i64,.str,.str,.int .i64,.sl .dig,.sl .chg,.sl .sexp]⟩),(7,⟨[((1,[]),none),((4,[]),none),((5,[]),some .sexp)],[(1,.pt 0 0),(4,.oa .sexp 1),(5,.oa .sexp 2),(7,.leaf)],[.cells [.leaf,.leaf,.leaf,.leaf,.leaf],.arr .sexp,.arr .sexp],[.int .i64,.str,.str,.int .i64,.sl .dig,.sl .chg,.sl .sexp,.sl .sexp]⟩)]
def J38:List (Nat×Hint):=[(10,⟨[((1,[]),none)],[(1,.pt 0 0),(4,.leaf),(5,.leaf)],[.cells [.leaf,.leaf,.leaf,.leaf,.leaf]],[.sl .sexp,.sl .sexp,.str,.str,.int .i64,.sl .dig,.sl .chg]⟩),(12,⟨[],[(8,.leaf),(70,.leaf)],[],[.str,.bool]⟩)]
abbrev S38:List Sh:=[.ag [.leaf,.leaf,.leaf,.leaf,.leaf]]
abbrev L38:List Lf:=[.str,.str,.int .i64,.sl .dig,.sl .chg]
def Xw (K:Kn) (a:ByteArray) (b:Bool):Prop:=
 bif b then (
  K (.tu [.str (⟨#[]⟩:ByteArray),.int .i64 4]) [])
 else (
  K (.tu [.str a,.int .i64 0]) [])
def qZD (K:Kn) (b:List Sx) (c:List Sx) (d e:ByteArray) (a:Int) (f:List Dig) (g:List Chg):Prop:=
 True/\
 True/\
 True/\
 V5.pre (a,())/\
 True/\
 True/\
 True/\
 qeY.pre (true,(⟨#[]⟩:ByteArray),[(⟨false,(⟨#[113,117,105,108,116,49]⟩:ByteArray),[]⟩:Sx),(⟨false,d,[]⟩:Sx),(⟨false,e,[]⟩:Sx),(⟨(qX a).isList,(qX a).atom,(qX a).list⟩:Sx),(⟨true,(⟨#[]⟩:ByteArray),b⟩:Sx),(⟨true,(⟨#[]⟩:ByteArray),c⟩:Sx)],())/\
 bif !decide ((vQ ⟨true,(⟨#[]⟩:ByteArray),[(⟨false,(⟨#[113,117,105,108,116,49]⟩:ByteArray),[]⟩:Sx),(⟨false,d,[]⟩:Sx),(⟨false,e,[]⟩:Sx),(⟨(qX a).isList,(qX a).atom,(qX a).list⟩:Sx),(⟨true,(⟨#[]⟩:ByteArray),b⟩:Sx),(⟨true,(⟨#[]⟩:ByteArray),c⟩:Sx)]⟩).2=0)then (
  Xw K ((vQ ⟨true,(⟨#[]⟩:ByteArray),[(⟨false,(⟨#[113,117,105,108,116,49]⟩:ByteArray),[]⟩:Sx),(⟨false,d,[]⟩:Sx),(⟨false,e,[]⟩:Sx),(⟨(qX a).isList,(qX a).atom,(qX a).list⟩:Sx),(⟨true,(⟨#[]⟩:ByteArray),b⟩:Sx),(⟨true,(⟨#[]⟩:ByteArray),c⟩:Sx)]⟩).1) true)
 else (
  Xw K ((vQ ⟨true,(⟨#[]⟩:ByteArray),[(⟨false,(⟨#[113,117,105,108,116,49]⟩:ByteArray),[]⟩:Sx),(⟨false,d,[]⟩:Sx),(⟨false,e,[]⟩:Sx),(⟨(qX a).isList,(qX a).atom,(qX a).list⟩:Sx),(⟨true,(⟨#[]⟩:ByteArray),b⟩:Sx),(⟨true,(⟨#[]⟩:ByteArray),c⟩:Sx)]⟩).1) (decide (65536< (((vQ ⟨true,(⟨#[]⟩:ByteArray),[(⟨false,(⟨#[113,117,105,108,116,49]⟩:ByteArray),[]⟩:Sx),(⟨false,d,[]⟩:Sx),(⟨false,e,[]⟩:Sx),(⟨(qX a).isList,(qX a).atom,(qX a).list⟩:Sx),(⟨true,(⟨#[]⟩:ByteArray),b⟩:Sx),(⟨true,(⟨#[]⟩:ByteArray),c⟩:Sx)]⟩).1).size:Int))))
def JU (K:Kn) (j:prodL [.int .i64,.str,.str,.int .i64,.sl .dig,.sl .chg,.sl .sexp,.sl .sexp]->Prop) (c:Int) (e f:ByteArray) (g:Int) (h:List Dig) (b:List Chg) (i:List Sx) (d:List Sx):Prop:=
 bif decide (c< (b.length:Int))then (
  At b c fun a=>
 qrf.pre (a,())/\
 ql (d.length+[(⟨(yh a).isList,(yh a).atom,(yh a).list⟩:Sx)].length) 48 (
 j (IntKind.i64.wrap (c+1),e,f,g,h,b,i,d++[(⟨(yh a).isList,(yh a).atom,(yh a).list⟩:Sx)],())))
 else (
  qZD K i d e f g h b)
def qQ2 (K:Kn) (g:prodL [.int .i64,.str,.str,.int .i64,.sl .dig,.sl .chg,.sl .sexp,.sl .sexp]):Prop:=
 qy (γ:=prodL [.int .i64,.str,.str,.int .i64,.sl .dig,.sl .chg,.sl .sexp,.sl .sexp]) (fun V y=>JU K V y.1 y.2.1 y.2.2.1 y.2.2.2.1 y.2.2.2.2.1 y.2.2.2.2.2.1 y.2.2.2.2.2.2.1 y.2.2.2.2.2.2.2.1) g
def YQ (K:Kn) (i:prodL [.int .i64,.str,.str,.int .i64,.sl .dig,.sl .chg,.sl .sexp]->Prop) (c:Int) (e f:ByteArray) (g:Int) (b:List Dig) (h:List Chg) (d:List Sx):Prop:=
 bif decide (c< (b.length:Int))then (
  At b c fun a=>
 True/\
 ql (d.length+[(⟨(jh a).isList,(jh a).atom,(jh a).list⟩:Sx)].length) 48 (
 i (IntKind.i64.wrap (c+1),e,f,g,b,h,d++[(⟨(jh a).isList,(jh a).atom,(jh a).list⟩:Sx)],())))
 else (
  qQ2 K (0,e,f,g,b,h,d,[],()))
def qKf (K:Kn) (g:prodL [.int .i64,.str,.str,.int .i64,.sl .dig,.sl .chg,.sl .sexp]):Prop:=
 qy (γ:=prodL [.int .i64,.str,.str,.int .i64,.sl .dig,.sl .chg,.sl .sexp]) (fun V y=>YQ K V y.1 y.2.1 y.2.2.1 y.2.2.2.1 y.2.2.2.2.1 y.2.2.2.2.2.1 y.2.2.2.2.2.2.1) g
def F38 (g:prodL L38) (K:Kn):Prop:=
 qKf K (0,g.1,g.2.1,g.2.2.1,g.2.2.2.1,g.2.2.2.2.1,[],())
theorem qm3 (g:prodL L38) (K X:Kn) (h:F38 g K):FCalls Tryz.prog 38 (argsT S38 L38 g) [] K X:=
 FCalls.settle0 (qw Tryz.func38 Tryz.ntmps38 Tryz.results38 qj (qx qZe (qx qge (qx qf3 (qx vd (qx XQ (qx ww qz)))))) H38 J38 (by kernel_rfl) (by kernel_rfl) h)
end
section
open Go.RowKit
set_option maxRecDepth 100000
def paP (a m:ByteArray) (t:Int) (ds:List Dig) (cs:List Chg):Prop:=
 jg t/\a.size<=4194304/\m.size<=4194304/\ds.length<=4194304/\(cs.map zQ).sum<=4194304/\ ∀c∈cs,chW c/\zR c
theorem Jv {cs:List Chg} (h:(cs.map zQ).sum<=4194304) {c:Chg} (hc:c∈cs):kZ c:=Jau (qxo zQ hc) h
theorem XL {cs:List Chg} (h:(cs.map zQ).sum<=4194304):cs.length<=40000:=by
 have:=kB zQ 135 cs fun c _=>by unfold zQ;omega
 omega
theorem qvp {c:Chg} (h:zR c):jg c.kind:=⟨by have:=h.1;omega,by have:=h.2;omega⟩
theorem qYt: ∀{cs:List Chg},(∀c∈cs,kZ c/\chW c/\zR c)->qV (cs.map yh)<=5*(cs.map zQ).sum+300*cs.length
 | [],_=>by simp [qV]
 | c::cs,h=>by
  obtain ⟨h1,h2,h3⟩:=h c (Jbc ..);have:=qmV h1 h2 (qvp h3);have:=qYt fun c hc=>h c (Jbe _ hc)
  simp only [List.map_cons,qV,Jcc,Jaj];omega
theorem qQY {a m:ByteArray} {t:Int} {ds:List Dig} {cs:List Chg} (hp:paP a m t ds cs) (f:Dig->Sx) (hf: ∀d,jv (f d)<=35):jv (zN a m t (ds.map f) cs)<=zV:=by
 obtain ⟨h1,h2,h3,h4,h5,h6⟩:=hp;have e1:=qYt fun c hc=>⟨Jv h5 hc,h6 c hc⟩
 have e2:=XL h5;have e3:=K4 f 35 ds fun d _=>hf d
 have e4:=XE h1;have e5:Zt.size=6:=rfl;have e6:zV=1073741824:=rfl;unfold zN;rw [y9];simp only [qV,Qt,y9,e5];omega
theorem Z4 {w:Sx} {l:List Sx} (J:List Sx->Prop) (hl:l.length<=4294967295) (h:J (w::l)):bif decide (l.length=0)then J [w] else xA (0<l.length) (ql ([w].length+l.length) 48 (J ([w]++l))):=by
 by_cases e:l.length=0
 . rw [Jaa e,Jae];rwa [List.length_eq_zero_iff.1 e] at h
 . rw [Jab e,Jaf];exact ⟨by omega,by simp only [Jal];omega,h⟩
theorem qkn {a m:ByteArray} {t:Int} {ds:List Dig} {cs:List Chg} {K:Kn} {D:List Sx} (hp:paP a m t ds cs)
  (h:qju K a m t ds cs true ⟨#[]⟩ D true ⟨#[]⟩ (cs.map yh)):qjr K (cs,(cs.length:Int),0,a,m,t,ds,cs,true,⟨#[]⟩,true,⟨#[]⟩,D,[],()):=by
 obtain ⟨h1,h2,h3,h4,h5,h6⟩:=hp;have hl:=XL h5;unfold qjr;refine qy.map cs yh (fun n out=>(cs,(cs.length:Int),n,a,m,t,ds,cs,true,⟨#[]⟩,true,⟨#[]⟩,D,out,())) (by omega) rfl (fun W n hn out ho hW=> ?_) fun W=> ?_
 . show Ji K W cs cs.length n a m t ds cs true ⟨#[]⟩ true ⟨#[]⟩ D out
   unfold Ji;rw [qu hn,Jae];have hm:=Jba hn;have hc:=Jv h5 hm;obtain ⟨hw,hk⟩:=h6 _ hm;refine qD hn ⟨qvp hk, ?_⟩;simp only [zr];have hfl: ∀k,(z8 k cs[n]).length<=4294967295:=fun k=>by unfold z8;split<;>simp
   have hJ: ∀l,qX cs[n].kind::z8 cs[n].kind.toNat cs[n]=l->zc K W cs cs.length n a m t ds cs true ⟨#[]⟩ true ⟨#[]⟩ true ⟨#[]⟩ l D out:=by
    rintro l rfl;unfold zc;exact ⟨by simp only [Jal,ho];omega,hW⟩
   generalize cs[n]=u at hm hc hw hk hW hfl hJ ⊢;obtain ⟨kind,file,typ,parent,name,mode,data,after,before,lines,over⟩:=u;have hk1:(1:Int)<=kind/\kind<=7:=hk;have:kind=1∨kind=2∨kind=3∨kind=4∨kind=5∨kind=6∨kind=7:=by omega
   rcases this with rfl | rfl | rfl | rfl | rfl | rfl | rfl
   . exact ⟨⟨hc,hw⟩,Z4 (fun l=>zc K W cs cs.length n a m t ds cs true ⟨#[]⟩ true ⟨#[]⟩ true ⟨#[]⟩ l D out) (hfl 1) (hJ _ rfl)⟩
   . show qWJ.pre _/\_
     exact ⟨⟨hc,hw⟩,Z4 (fun l=>zc K W cs cs.length n a m t ds cs true ⟨#[]⟩ true ⟨#[]⟩ true ⟨#[]⟩ l D out) (hfl 2) (hJ _ rfl)⟩
   . show qK2.pre _/\_
     exact ⟨⟨hc,hw⟩,Z4 (fun l=>zc K W cs cs.length n a m t ds cs true ⟨#[]⟩ true ⟨#[]⟩ true ⟨#[]⟩ l D out) (hfl 3) (hJ _ rfl)⟩
   . show qac.pre _/\_
     exact ⟨⟨hc,hw⟩,Z4 (fun l=>zc K W cs cs.length n a m t ds cs true ⟨#[]⟩ true ⟨#[]⟩ true ⟨#[]⟩ l D out) (hfl 4) (hJ _ rfl)⟩
   . show qaJ.pre _/\_
     exact ⟨⟨hc,hw⟩,Z4 (fun l=>zc K W cs cs.length n a m t ds cs true ⟨#[]⟩ true ⟨#[]⟩ true ⟨#[]⟩ l D out) (hfl 5) (hJ _ rfl)⟩
   . show qYy.pre _/\_
     exact ⟨⟨hc,hw⟩,Z4 (fun l=>zc K W cs cs.length n a m t ds cs true ⟨#[]⟩ true ⟨#[]⟩ true ⟨#[]⟩ l D out) (hfl 6) (hJ _ rfl)⟩
   . show qWc.pre _/\_
     exact ⟨⟨hc,hw⟩,Z4 (fun l=>zc K W cs cs.length n a m t ds cs true ⟨#[]⟩ true ⟨#[]⟩ true ⟨#[]⟩ l D out) (hfl 7) (hJ _ rfl)⟩
 . show Ji K W cs cs.length cs.length a m t ds cs true ⟨#[]⟩ true ⟨#[]⟩ D (cs.map yh)
   unfold Ji;rw [qm,Jaf];exact h
def za (ds:List Dig):List Sx:=ds.map fun d=>qY (vP d)
theorem qnq {a m:ByteArray} {t:Int} {ds:List Dig} {cs:List Chg} {K:Kn} (hp:paP a m t ds cs) (h:K (.tu [.str (vQ (zN a m t (za ds) cs)).1,.int .i64 (vQ (zN a m t (za ds) cs)).2]) []):F70 (a,m,t,ds,cs,()) K:=by
 have hl:=hp.2.2.2.1;unfold F70;show qyd K _
 unfold qyd;refine qy.map ds (fun d=>qY (vP d)) (fun n out=>(ds,(ds.length:Int),n,a,m,t,ds,cs,true,⟨#[]⟩,true,⟨#[]⟩,out,())) (by omega) rfl (fun W n hn out ho hW=> ?_) fun W=> ?_
 . show YH K W ds ds.length n a m t ds cs true ⟨#[]⟩ true ⟨#[]⟩ out
   unfold YH;rw [qu hn,Jae];exact qD hn ⟨trivial,by simp only [Jal,ho];omega,hW⟩
 . show YH K W ds ds.length ds.length a m t ds cs true ⟨#[]⟩ true ⟨#[]⟩ (ds.map fun d=>qY (vP d))
   unfold YH;rw [qm,Jaf];refine ⟨trivial,qkn hp ?_⟩;unfold qju;simp only [zr];exact ⟨trivial,trivial,trivial,hp.1,⟨qQY hp (fun d=>qY (vP d)) fun d=>by rw [Qt,X3];omega,qJo⟩,h⟩
def qVr:Sp:=⟨S70,L70,fun g=>paP g.1 g.2.1 g.2.2.1 g.2.2.2.1 g.2.2.2.2.1,fun g=> .tu [.str (vQ (zN g.1 g.2.1 g.2.2.1 (za g.2.2.2.1) g.2.2.2.2.1)).1,.int .i64 (vQ (zN g.1 g.2.1 g.2.2.1 (za g.2.2.2.1) g.2.2.2.2.1)).2],fun _=>none⟩
theorem qfs:qVr.Ok Tryz.prog 70 true:=
 .mk (fun g K X hp h=>qoh g K X (qnq hp h))
theorem qmx {a m:ByteArray} {t:Int} {ds:List Dig} {cs:List Chg} {K:Kn} (hp:paP a m t ds cs) (h:K (.tu [.str (qx4 a m t ds cs).1,.int .i64 (qx4 a m t ds cs).2]) []):F38 (a,m,t,ds,cs,()) K:=by
 have hb:=qQY hp jh qQ8;obtain ⟨h1,h2,h3,h4,h5,h6⟩:=hp;have hl:=XL h5;unfold F38 qKf;refine qy.map ds jh (fun n out=>(n,a,m,t,ds,cs,out,())) (by omega) rfl (fun W n hn out ho hW=> ?_) fun W=> ?_
 . show YQ K W n a m t ds cs out
   unfold YQ;rw [qu hn,Jae];simp only [zr];exact qD hn ⟨trivial,by simp only [Jal,ho];omega,hW⟩
 . show YQ K W ds.length a m t ds cs (ds.map jh)
   unfold YQ;rw [qm,Jaf];unfold qQ2;refine qy.map cs yh (fun n out=>(n,a,m,t,ds,cs,ds.map jh,out,())) (by omega) rfl (fun W n hn out ho hW=> ?_) fun W=> ?_
   . show JU K W n a m t ds cs (ds.map jh) out
     unfold JU;rw [qu hn,Jae];simp only [zr];have hm:=Jba hn;exact qD hn ⟨⟨Jv h5 hm,(h6 _ hm).1,(h6 _ hm).2⟩,by simp only [Jal,ho];omega,hW⟩
   . show JU K W cs.length a m t ds cs (ds.map jh) (cs.map yh)
     unfold JU;rw [qm,Jaf];unfold qZD;simp only [zr];refine ⟨trivial,trivial,trivial,h1,trivial,trivial,trivial,hb, ?_⟩;have hJ: ∀b,K (.tu [.str (bif b then ((⟨#[]⟩:ByteArray),(4:Int))else ((vQ (zN a m t (ds.map jh) cs)).1,0)).1,.int .i64 (bif b then ((⟨#[]⟩:ByteArray),(4:Int))else ((vQ (zN a m t (ds.map jh) cs)).1,0)).2]) []->Xw K (vQ (zN a m t (ds.map jh) cs)).1 b:=by
      intro b h;unfold Xw;cases b
      . exact h
      . exact h
     exact vz (J:=Xw K (vQ (zN a m t (ds.map jh) cs)).1) (f:=fun b=>bif b then ((⟨#[]⟩:ByteArray),(4:Int))else ((vQ (zN a m t (ds.map jh) cs)).1,0)) (K:=fun r=>K (.tu [.str r.1,.int .i64 r.2]) []) hJ h
def qup:Sp:=⟨S38,L38,fun g=>paP g.1 g.2.1 g.2.2.1 g.2.2.2.1 g.2.2.2.2.1,fun g=> .tu [.str (qx4 g.1 g.2.1 g.2.2.1 g.2.2.2.1 g.2.2.2.2.1).1,.int .i64 (qx4 g.1 g.2.1 g.2.2.1 g.2.2.2.1 g.2.2.2.2.1).2],fun _=>none⟩
theorem qfZ:qup.Ok Tryz.prog 38 true:=
 .mk (fun g K X hp h=>qm3 g K X (qmx hp h))
set_option maxRecDepth 100000
def qZT (k:Int):Int:=match w9 .ment (.int .i64 k) (Qv .ment (.int .i64 6) ((⟨6,6⟩:Ment):Ment) (Qv .ment (.int .i64 4) ((⟨4,4⟩:Ment):Ment) (Qv .ment (.int .i64 3) ((⟨3,3⟩:Ment):Ment) (Qv .ment (.int .i64 2) ((⟨2,2⟩:Ment):Ment) ([]:List Ment)))))with | some x=>x.val | none=>0
def qvy (x:Atm):Bool:=bif decide (x.kind=1)then (bif decide (x.typ=2)then true else decide (x.typ=3))else false
def qwc (x:Atm):Bool:=bif decide (x.kind=1)then decide (x.typ=1)else false
def qvW (x:Atm):Bool:=bif decide (x.kind=1)then decide (x.typ=4)else false
def qqy (x:Atm) (c:Chg):Bool:=bif qr x.id c.file then true else bif decide (x.kind=5)then qr x.file c.file else false
def YD (x:Atm) (c:Chg):Bool:=bif decide (c.kind=7)then true else bif decide (x.kind=qZT c.kind)then qr x.file c.file else false
def qxS:Fd->Atm->Bool
 | .file,x=>decide (x.kind=1)
 | .data,x=>qvy x
 | .txt,x=>qwc x
 | .dir,x=>qvW x
 | .fin c,x=>qqy x c
 | .sup c,x=>YD x c
def Qx (c:Chg):List Rfn:=c.over.map fun x=>⟨x,Fd.sup c⟩
def qkh (c:Chg) (t:Bool) (out:List Rfn):List Rfn:=bif t then (out++[⟨c.after,Fd.fin c⟩])++[⟨c.before,Fd.fin c⟩]++Qx c else out++Qx c
def qyK (c:Chg) (out:List Rfn):List Rfn:=qkh c (bif decide (c.kind=5)then true else decide (c.kind=6)) out
def qQQ (c:Chg) (t:Bool) (out:List Rfn):List Rfn:=bif t then qyK c (out++[⟨c.parent,Fd.dir⟩])else qyK c out
def qxE (c:Chg) (out:List Rfn):List Rfn:=qQQ c (bif decide (c.kind=2)then !(qr c.parent ⟨dz, -1⟩)else false) out
def rL7 (c:Chg) (t:Bool):List Rfn:=bif t then qxE c [⟨c.file,Fd.txt⟩] else qxE c []
def rL8 (c:Chg) (k:Int) (t:Bool):List Rfn:=bif t then qxE c [⟨c.file,Fd.file⟩] else bif decide (k=4)then qxE c [⟨c.file,Fd.data⟩] else rL7 c (bif decide (k=5)then true else decide (k=6))
def jY (c:Chg):List Rfn:=rL8 c c.kind (bif decide (c.kind=2)then true else decide (c.kind=3))
def yY (own:List Atm) (r:Rfn):Int:=
 bif (bif decide (r.id.n<0)then true else bif (bif ZJ r.id then decide ((own.length:Int)<=r.id.n)else false)then true else decide (100000<=r.id.n))then 7 else
 bif (bif ZJ r.id then !(qxS r.fits (own.getD r.id.n.toNat az))else false)then 8 else 0
def XF (t:Bool) (c:Chg):Int:=bif (bif t then true else bif decide (c.kind=5)then (bif qr c.after c.before then !(qr c.after c.file)else false)else false)then 1 else 0
def XK (t:Bool) (c:Chg):Int:=bif t then 20 else XF (bif decide (c.kind=6)then qr c.after c.before else false) c
def XX (c:Chg):Int:=XK (bif decide (c.kind=2)then qr c.parent c.file else false) c
def yR (c:Chg) (own:List Atm):Int:=bif !decide (errs ((jY c).map (yY own))=0)then errs ((jY c).map (yY own))else XX c
def Z5 (n:Int):Idn:=⟨dz,n⟩
def lnA (c:Chg) (n:Int) (s:ByteArray):Atm:=⟨Z5 n,5,c.file,0,iz,⟨#[]⟩,0,⟨#[]⟩,s,iz,iz,[]⟩
def egA (c:Chg) (n:Int) (f t:Idn):Atm:=⟨Z5 n,6,c.file,0,iz,⟨#[]⟩,0,⟨#[]⟩,⟨#[]⟩,f,t,[]⟩
def lnI (c:Chg) (n:Int) (i:Nat):Atm:=lnA c (n+i) (c.lines.getD i ⟨#[]⟩)
def qwr (c:Chg) (n:Int) (i:Nat):Idn:=bif decide (i<c.lines.length)then Z5 (n+i)else c.before
def qmM (c:Chg) (n:Int):Nat->Idn
 | 0=>c.after
 | i+1=>Z5 (n+i)
def egI (c:Chg) (n:Int) (i:Nat):Atm:=egA c (n+c.lines.length+i) (qmM c n i) (qwr c n i)
def ZZ (c:Chg) (n:Int):List Atm:=(List.range c.lines.length).map (lnI c n)
def qwt (c:Chg) (n:Int):List Atm:=(List.range (c.lines.length+1)).map (egI c n)
def quw (k:Nat) (c:Chg) (n:Int):List Atm:=match k with
 | 1=>[⟨Z5 n,1,Z5 n,c.typ,iz,⟨#[]⟩,0,⟨#[]⟩,⟨#[]⟩,iz,iz,[]⟩]
 | 2=>[⟨Z5 n,2,c.file,0,c.parent,c.name,0,⟨#[]⟩,⟨#[]⟩,iz,iz,c.over⟩]
 | 3=>[⟨Z5 n,3,c.file,0,iz,⟨#[]⟩,c.mode,⟨#[]⟩,⟨#[]⟩,iz,iz,c.over⟩]
 | 4=>[⟨Z5 n,4,c.file,0,iz,⟨#[]⟩,0,c.data,⟨#[]⟩,iz,iz,c.over⟩]
 | 5=>ZZ c n++qwt c n
 | 6=>[⟨Z5 n,6,c.file,0,iz,⟨#[]⟩,0,⟨#[]⟩,⟨#[]⟩,c.after,c.before,c.over⟩]
 | 7=>[⟨Z5 n,7,iz,0,iz,⟨#[]⟩,0,⟨#[]⟩,⟨#[]⟩,iz,iz,c.over⟩]
 | _=>[]
def xp (c:Chg) (n:Int):List Atm:=quw c.kind.toNat c n
theorem qzm {c:Chg} {n:Int} (hk:zR c):(xp c n).length=if c.kind=5 then 2*c.lines.length+1 else 1:=by
 obtain ⟨kind,file,typ,parent,name,mode,data,after,before,lines,over⟩:=c;have hk1:(1:Int)<=kind/\kind<=7:=hk;have:kind=1∨kind=2∨kind=3∨kind=4∨kind=5∨kind=6∨kind=7:=by omega
 rcases this with rfl | rfl | rfl | rfl | rfl | rfl | rfl<;>try rfl
 show (ZZ _ n++qwt _ n).length=_
 simp [ZZ,qwt];omega
theorem K6 {c:Chg} {n:Int} (hk:zR c):(xp c n).length<=2*zQ c:=by
 rw [qzm hk];have:=kB zU 1 c.lines fun x _=>by unfold zU;omega
 unfold zQ;split<;>omega
def qJf (c:Chg) (n:Int):Prop:=zR c/\c.lines.length<=4194304/\0<=n/\n<=1099511627776
def qib (g:prodL [.pr .i64,.pr .chg,.sl .atm]):Prop:=qJf g.2.1 g.1/\g.2.2.1.length<=16777216
def xC (f:Chg->Int) (r:Chg->List Atm->Int):List Chg->List Atm->List Atm×Int
 | [],own=>(own,0)
 | c::l,own=>bif !decide (f c=0)then ([],f c)else bif !decide (r c own=0)then ([],r c own)else xC f r l (own++xp c own.length)
def ZX (cs:List Chg):List Atm×Int:=xC zD yR cs []
def Qu (cs:List Chg):List Atm×Int:=xC xY Zb cs []
def qxU (l:List Atm) (s:ByteArray) (t:Bool):List Atm×ByteArray×Int:=bif t then ([],⟨#[]⟩,4)else (l,s,0)
def Jg (r:List Atm×Int) (x:ByteArray×Int):List Atm×ByteArray×Int:=
 bif !decide (r.2=0)then ([],⟨#[]⟩,r.2)else qxU r.1 x.1 (bif !decide (x.2=0)then true else decide (65536< (x.1.size:Int)))
def j7 (a m:ByteArray) (t:Int) (ds:List Dig) (cs:List Chg):List Atm×ByteArray×Int:=
 bif !decide (jW jc a m t ds cs=0)then ([],⟨#[]⟩,jW jc a m t ds cs)else Jg (ZX cs) (vQ (zN a m t (za ds) cs))
def XU (a m:ByteArray) (t:Int) (ds:List Dig) (cs:List Chg):List Atm×Int:=
 bif !decide (jW xQ a m t ds cs=0)then ([],jW xQ a m t ds cs)else Qu cs
def xP (a m:ByteArray) (t:Int) (ds:List Dig) (cs:List Chg):Prop:=
 jg t/\a.size<=4194304/\m.size<=4194304/\ds.length<=4194304/\(cs.map zQ).sum<=4194304/\ ∀c∈cs,chW c
theorem jx {c:Chg} (h:zD c=0):zR c:=by
 unfold zD qvw at h;by_cases h1:c.kind<1
 . rw [Jaa h1,Jae,Jae] at h;cases h
 . rw [Jab h1,Jaf] at h;by_cases h2:7<c.kind
   . rw [Jaa h2,Jae] at h;cases h
   . exact ⟨by omega,by omega⟩
theorem xc {c:Chg} (h:xY c=0):zR c:=by
 unfold xY fR2 at h;by_cases h1:c.kind<1
 . rw [Jaa h1,Jae,Jae] at h;cases h
 . rw [Jab h1,Jaf] at h;by_cases h2:7<c.kind
   . rw [Jaa h2,Jae] at h;cases h
   . exact ⟨by omega,by omega⟩
theorem qy.mapN {β γ:Type} {body:(γ->Prop)->γ->Prop} {g:γ} (N:Nat) (f:Nat->β) (S:Nat->List β->γ) (hg:g=S 0 [])
  (step: ∀(W:γ->Prop) (n:Nat),n<N-> ∀out:List β,out.length=n->W (S (n+1) (out++[f n]))->body W (S n out))
  (last: ∀W:γ->Prop,body W (S N ((List.range N).map f))):qy body g:=by
 refine qy.countTo N (fun n=>S n ((List.range n).map f)) (fun _=>True) hg (fun n hn _ W hW=> ?_) trivial
 by_cases hlt:n<N
 . refine step W n hlt _ (by simp) ?_
   have:=hW hlt trivial;rwa [List.range_succ,Jcj] at this
 . have:n=N:=by omega
   subst this;exact last W
end
section
open Go.RowKit
attribute [local irreducible] zb qa
set_option maxRecDepth 100000
abbrev S95:List Sh:=[.leaf]
abbrev L95:List Lf:=[.int .i64]
def F95 (g:prodL L95) (K:Kn):Prop:=
 K (.int .i64 (match w9 .ment (.int .i64 g.1) (Qv .ment (.int .i64 6) ((⟨6,6⟩:Ment):Ment) (Qv .ment (.int .i64 4) ((⟨4,4⟩:Ment):Ment) (Qv .ment (.int .i64 3) ((⟨3,3⟩:Ment):Ment) (Qv .ment (.int .i64 2) ((⟨2,2⟩:Ment):Ment) ([]:List Ment)))))with | some x=>x.val | none=>0)) []
theorem qnN (g:prodL L95) (K X:Kn) (h:F95 g K):FCalls Tryz.prog 95 (argsT S95 L95 g) [] K X:=
 FCalls.settle0 (qw Tryz.func95 Tryz.ntmps95 Tryz.results95 qj qz [] [] (by kernel_rfl) (by kernel_rfl) h)
def qCQ:Sp:=⟨S95,L95,fun _=>True,fun g=> .int .i64 (qZT g.1),fun _=>none⟩
theorem qdY:qCQ.Ok Tryz.prog 95 true:=
 .mk (fun g K X hp h=>qnN g K X h)
abbrev S89:List Sh:=[.leaf]
abbrev L89:List Lf:=[.el .atm]
def F89 (g:prodL L89) (K:Kn):Prop:=
 K (.bool (decide (g.1.kind=1))) []
theorem qoT (g:prodL L89) (K X:Kn) (h:F89 g K):FCalls Tryz.prog 89 (argsT S89 L89 g) [] K X:=
 FCalls.settle0 (qw Tryz.func89 Tryz.ntmps89 Tryz.results89 qj qz [] [] (by kernel_rfl) (by kernel_rfl) h)
def qAn:Sp:=⟨S89,L89,fun _=>True,fun g=> .bool (decide (g.1.kind=1)),fun _=>none⟩
theorem qgN:qAn.Ok Tryz.prog 89 false:=
 .mk (fun g K X hp h=>qoT g K X h)
abbrev S90:List Sh:=[.leaf]
abbrev L90:List Lf:=[.el .atm]
def F90 (g:prodL L90) (K:Kn):Prop:=
 bif decide (g.1.kind=1)then (
  bif decide (g.1.typ=2)then (
   K (.bool true) [])
  else (
   K (.bool (decide (g.1.typ=3))) []))
 else (
  K (.bool false) [])
theorem qmN (g:prodL L90) (K X:Kn) (h:F90 g K):FCalls Tryz.prog 90 (argsT S90 L90 g) [] K X:=
 FCalls.settle0 (qw Tryz.func90 Tryz.ntmps90 Tryz.results90 qj qz [] [] (by kernel_rfl) (by kernel_rfl) h)
def qAN:Sp:=⟨S90,L90,fun _=>True,fun g=> .bool (qvy g.1),fun _=>none⟩
theorem qbQ:qAN.Ok Tryz.prog 90 true:=
 .mk (fun g K X hp h=>qmN g K X (by
  have h:K (.bool (qvy g.1)) []:=h;revert h;unfold F90 qvy;show (fun v=>K (.bool v) []) _->_
  repeat' (first | exact id | refine qU (K:=fun v=>K (.bool v) []) ?_ ?_ | (intro h;refine ⟨trivial, ?_⟩;revert h))))
abbrev S91:List Sh:=[.leaf]
abbrev L91:List Lf:=[.el .atm]
def F91 (g:prodL L91) (K:Kn):Prop:=
 bif decide (g.1.kind=1)then (
  K (.bool (decide (g.1.typ=1))) [])
 else (
  K (.bool false) [])
theorem qo8 (g:prodL L91) (K X:Kn) (h:F91 g K):FCalls Tryz.prog 91 (argsT S91 L91 g) [] K X:=
 FCalls.settle0 (qw Tryz.func91 Tryz.ntmps91 Tryz.results91 qj qz [] [] (by kernel_rfl) (by kernel_rfl) h)
def qCY:Sp:=⟨S91,L91,fun _=>True,fun g=> .bool (qwc g.1),fun _=>none⟩
theorem qgG:qCY.Ok Tryz.prog 91 true:=
 .mk (fun g K X hp h=>qo8 g K X (by
  have h:K (.bool (qwc g.1)) []:=h;revert h;unfold F91 qwc;show (fun v=>K (.bool v) []) _->_
  repeat' (first | exact id | refine qU (K:=fun v=>K (.bool v) []) ?_ ?_ | (intro h;refine ⟨trivial, ?_⟩;revert h))))
abbrev S92:List Sh:=[.leaf]
abbrev L92:List Lf:=[.el .atm]
def F92 (g:prodL L92) (K:Kn):Prop:=
 bif decide (g.1.kind=1)then (
  K (.bool (decide (g.1.typ=4))) [])
 else (
  K (.bool false) [])
theorem qnJ (g:prodL L92) (K X:Kn) (h:F92 g K):FCalls Tryz.prog 92 (argsT S92 L92 g) [] K X:=
 FCalls.settle0 (qw Tryz.func92 Tryz.ntmps92 Tryz.results92 qj qz [] [] (by kernel_rfl) (by kernel_rfl) h)
def qCX:Sp:=⟨S92,L92,fun _=>True,fun g=> .bool (qvW g.1),fun _=>none⟩
theorem qcw:qCX.Ok Tryz.prog 92 true:=
 .mk (fun g K X hp h=>qnJ g K X (by
  have h:K (.bool (qvW g.1)) []:=h;revert h;unfold F92 qvW;show (fun v=>K (.bool v) []) _->_
  repeat' (first | exact id | refine qU (K:=fun v=>K (.bool v) []) ?_ ?_ | (intro h;refine ⟨trivial, ?_⟩;revert h))))
abbrev S93:List Sh:=[.leaf,.leaf]
abbrev L93:List Lf:=[.el .atm,.pr .chg]
def F93 (g:prodL L93) (K:Kn):Prop:=
 bif qr g.1.id g.2.1.file then (
  K (.bool true) [])
 else (
  bif decide (g.1.kind=5)then (
   K (.bool (qr g.1.file g.2.1.file)) [])
  else (
   K (.bool false) []))
theorem qnd (g:prodL L93) (K X:Kn) (h:F93 g K):FCalls Tryz.prog 93 (argsT S93 L93 g) [] K X:=
 FCalls.settle0 (qw Tryz.func93 Tryz.ntmps93 Tryz.results93 qj qz [] [] (by kernel_rfl) (by kernel_rfl) h)
def qCx:Sp:=⟨S93,L93,fun _=>True,fun g=> .bool (qqy g.1 g.2.1),fun _=>none⟩
theorem qbM:qCx.Ok Tryz.prog 93 true:=
 .mk (fun g K X hp h=>qnd g K X (by
  have h:K (.bool (qqy g.1 g.2.1)) []:=h;revert h;unfold F93 qqy;show (fun v=>K (.bool v) []) _->_
  repeat' (first | exact id | refine qU (K:=fun v=>K (.bool v) []) ?_ ?_ | (intro h;refine ⟨trivial, ?_⟩;revert h))))
abbrev S94:List Sh:=[.leaf,.leaf]
abbrev L94:List Lf:=[.el .atm,.pr .chg]
def F94 (g:prodL L94) (K:Kn):Prop:=
 bif decide (g.2.1.kind=7)then (
  K (.bool true) [])
 else (
  True/\
  bif decide (g.1.kind=qZT g.2.1.kind)then (
   K (.bool (qr g.1.file g.2.1.file)) [])
  else (
   K (.bool false) []))
theorem qoA (g:prodL L94) (K X:Kn) (h:F94 g K):FCalls Tryz.prog 94 (argsT S94 L94 g) [] K X:=
 FCalls.settle0 (qw Tryz.func94 Tryz.ntmps94 Tryz.results94 qj (qx qdY qz) [] [] (by kernel_rfl) (by kernel_rfl) h)
def qAA:Sp:=⟨S94,L94,fun _=>True,fun g=> .bool (YD g.1 g.2.1),fun _=>none⟩
theorem qeD:qAA.Ok Tryz.prog 94 true:=
 .mk (fun g K X hp h=>qoA g K X (by
  have h:K (.bool (YD g.1 g.2.1)) []:=h;revert h;unfold F94 YD;show (fun v=>K (.bool v) []) _->_
  repeat' (first | exact id | refine qU (K:=fun v=>K (.bool v) []) ?_ ?_ | (intro h;refine ⟨trivial, ?_⟩;revert h))))
abbrev S88:List Sh:=[.leaf,.leaf,.pt 0 0]
abbrev L88:List Lf:=[.el .idk,.fd,.sl .ref]
abbrev O88:List ObSh:=[.cells [.oa .ref 1],.arr .ref]
def F88 (g:prodL L88) (K:Kn):Prop:=
 ql (g.2.2.1.length+[(⟨g.1,g.2.1⟩:Rfn)].length) 48 (
 K (.tu []) [some (.cells [.oa .ref 1 0]),some (.arr 0 .ref (g.2.2.1++[(⟨g.1,g.2.1⟩:Rfn)]))])
theorem qoV (g:prodL L88) (K X:Kn) (h:F88 g K):FCalls Tryz.prog 88 (argsT S88 L88 g) (qi S88 O88 L88 g) K X 0:=
 FCalls.settleD (qw Tryz.func88 Tryz.ntmps88 Tryz.results88 qj qz [] [] (by kernel_rfl) (by kernel_rfl) h)
def qBZ:Raw:=⟨S88,O88,L88,0,fun g K _=>F88 g K⟩
theorem qch:qBZ.Ok Tryz.prog 88:=fun g K X h=>qoV g K X h
abbrev qmI:List Sh:=[.leaf,.leaf,.pt 0 0]
abbrev qKs:List Lf:=[.el .idk,.fd]
abbrev qrL:List ObSh:=[.cells [.nil]]
def qsf (g:prodL qKs) (K:Kn):Prop:=
 ql ([(⟨g.1,g.2.1⟩:Rfn)].length) 48 (
 K (.tu []) [some (.cells [.oa .ref 1 0]),some (.arr 0 .ref [(⟨g.1,g.2.1⟩:Rfn)])])
theorem qdo (g:prodL qKs) (K X:Kn) (h:qsf g K):FCalls Tryz.prog 88 (argsT qmI qKs g) (qi qmI qrL qKs g) K X 0:=
 FCalls.settleD (qw Tryz.func88 Tryz.ntmps88 Tryz.results88 qj qz [] [] (by kernel_rfl) (by kernel_rfl) h)
def qrK:Raw:=⟨qmI,qrL,qKs,0,fun g K _=>qsf g K⟩
theorem qKL:qrK.Ok Tryz.prog 88:=fun g K X h=>qdo g K X h
abbrev S43:List Sh:=[.leaf,.leaf]
abbrev L43:List Lf:=[.el .chg,.int .i64]
def F43 (g:prodL L43) (K:Kn):Prop:=
 K (.fn 84 [] [.pr .i64 g.2.1 0,.pr .chg g.1 0]) []
theorem qoY (g:prodL L43) (K X:Kn) (h:F43 g K):FCalls Tryz.prog 43 (argsT S43 L43 g) [] K X:=
 FCalls.settle0 (qw Tryz.func43 Tryz.ntmps43 Tryz.results43 qj qz [] [] (by kernel_rfl) (by kernel_rfl) h)
def qfJ:Sp:=⟨S43,L43,fun _=>True,fun g=> .fn 84 [] [.pr .i64 g.2.1 0,.pr .chg g.1 0],fun _=>none⟩
theorem qbh:qfJ.Ok Tryz.prog 43 false:=
 .mk (fun g K X hp h=>qoY g K X (by
  have h:K (.fn 84 [] [.pr .i64 g.2.1 0,.pr .chg g.1 0]) []:=h;exact h))
abbrev S85:List Sh:=[.leaf,.leaf]
abbrev L85:List Lf:=[.int .i64,.pr .i64]
def F85 (g:prodL L85) (K:Kn):Prop:=
 K (.ag (enc .idk (⟨dz,IntKind.i64.wrap (g.2.1+g.1)⟩:Idn))) []
theorem qnP (g:prodL L85) (K X:Kn) (h:F85 g K):FCalls Tryz.prog 85 (argsT S85 L85 g) [] K X:=
 FCalls.settle0 (qw Tryz.func85 Tryz.ntmps85 Tryz.results85 qj qz [] [] (by kernel_rfl) (by kernel_rfl) h)
def qBQ:Sp:=⟨S85,L85,fun _=>True,fun g=> .ag (enc .idk (⟨dz,IntKind.i64.wrap (g.2.1+g.1)⟩:Idn)),fun _=>none⟩
theorem qd7:qBQ.Ok Tryz.prog 85 false:=
 .mk (fun g K X hp h=>qnP g K X (by
  have h:K (.ag (enc .idk (⟨dz,IntKind.i64.wrap (g.2.1+g.1)⟩:Idn))) []:=h;exact h))
def qwi:List (Nat×Hint):=[]
def qvd:List (Nat×Hint):=[]
abbrev kz:List Sh:=[.leaf,.pt 0 0]
abbrev xN:List Lf:=[.el .atm,.sl .atm]
abbrev Xa:List ObSh:=[.cells [.oa .atm 1],.arr .atm]
def qqZ (g:prodL xN) (K:Kn):Prop:=
 ql (g.2.1.length+[g.1].length) 296 (
 K (.bool true) [some (.cells [.oa .atm 1 0]),some (.arr 0 .atm (g.2.1++[g.1]))])
theorem qx7 (g:prodL xN) (K:Kn):qqZ g K=qa D (vG [] []) (vv []) qwi qvd (JJ Tryz.prog 1036016) [6] (argsT kz xN g) (qi kz Xa xN g) (settleD (qi kz Xa xN g).length 0 K) 0:=by kernel_rfl
theorem qvE (g:prodL xN) (K X:Kn) (h:qqZ g K):FCalls Tryz.prog 1036016 (argsT kz xN g) (qi kz Xa xN g) K X 0:=
 FCalls.settleD (qz0 (Γ:=vG [] []) (mu:=vv []) (H:=qwi) (J:=qvd) V7 (gmX gm0) we rfl (yi:=⟨36,16,[6]⟩) rfl (by kernel_rfl) (by kernel_rfl) (by kernel_rfl) (by rw [qx7 g K] at h;exact h))
def qZ4:Raw:=⟨kz,Xa,xN,0,fun g K _=>qqZ g K⟩
theorem qjg:qZ4.Ok Tryz.prog 1036016:=fun g K X h=>qvE g K X h
set_option maxRecDepth 100000
def H46:List (Nat×Hint):=[(19,⟨[((3,[]),none),((3,[0]),none)],[(1,.leaf),(3,.pt 0 0),(4,.fn 88 [] [.pt 0 0]),(64,.leaf),(65,.leaf),(66,.leaf)],[.cells [.oa .ref 1],.arr .ref],[.pr .chg,.sl .idk,.int .i64,.int .i64,.sl .ref]⟩)]
def J46:List (Nat×Hint):=[(1,⟨[],[(1,.leaf)],[],[.pr .chg]⟩),(6,⟨[((3,[]),none)],[(1,.leaf),(3,.pt 0 0),(4,.fn 88 [] [.pt 0 0]),(10,.leaf),(11,.leaf)],[.cells [.nil]],[.pr .chg,.int .i64,.bool]⟩),(11,⟨[((3,[]),none)],[(1,.leaf),(3,.pt 0 0),(4,.fn 88 [] [.pt 0 0]),(24,.leaf)],[.cells [.nil]],[.pr .chg,.bool]⟩),(12,⟨[((3,[]),none),((3,[0]),some .ref)],[(1,.leaf),(3,.pt 0 0),(4,.fn 88 [] [.pt 0 0])],[.cells [.oa .ref 1],.arr .ref],[.pr .chg,.sl .ref]⟩),(13,⟨[((3,[]),none),((3,[0]),none)],[(1,.leaf),(3,.pt 0 0),(4,.fn 88 [] [.pt 0 0]),(39,.leaf)],[.cells [.oa .ref 1],.arr .ref],[.pr .chg,.bool,.sl .ref]⟩),(14,⟨[((3,[]),none),((3,[0]),none)],[(1,.leaf),(3,.pt 0 0),(4,.fn 88 [] [.pt 0 0])],[.cells [.oa .ref 1],.arr .ref],[.pr .chg,.sl .ref]⟩),(15,⟨[((3,[]),none),((3,[0]),none)],[(1,.leaf),(3,.pt 0 0),(4,.fn 88 [] [.pt 0 0]),(51,.leaf)],[.cells [.oa .ref 1],.arr .ref],[.pr .chg,.bool,.sl .ref]⟩),(18,⟨[((3,[]),none),((3,[0]),none)],[(1,.leaf),(3,.pt 0 0),(4,.fn 88 [] [.pt 0 0])],[.cells [.oa .ref 1],.arr .ref],[.pr .chg,.sl .ref]⟩)]
abbrev S46:List Sh:=[.leaf]
abbrev L46:List Lf:=[.el .chg]
def Jt (K:Kn) (f:prodL [.pr .chg,.sl .idk,.int .i64,.int .i64,.sl .ref]->Prop) (b:Chg) (c:List Idn) (d a:Int) (e:List Rfn):Prop:=
 bif decide (a<d)then (
  At c a fun g=>
 let g22:prodL [.el .idk,.fd,.sl .ref]:=(g,Fd.sup b,e,());
 ql (g22.2.2.1.length+[(⟨g22.1,g22.2.1⟩:Rfn)].length) 48 (
 f (b,c,d,IntKind.i64.wrap (a+1),g22.2.2.1++[(⟨g22.1,g22.2.1⟩:Rfn)],())))
 else (
  K (.sl false .ref e) [])
def qZO (K:Kn) (g:prodL [.pr .chg,.sl .idk,.int .i64,.int .i64,.sl .ref]):Prop:=
 qy (γ:=prodL [.pr .chg,.sl .idk,.int .i64,.int .i64,.sl .ref]) (fun V y=>Jt K V y.1 y.2.1 y.2.2.1 y.2.2.2.1 y.2.2.2.2.1) g
def Wn (K:Kn) (a:Chg) (b:List Rfn):Prop:=
 qZO K (a,a.over,(a.over.length:Int),0,b,())
def J5 (K:Kn) (a:Chg) (c:Bool) (b:List Rfn):Prop:=
 bif c then (
  let g15:prodL [.el .idk,.fd,.sl .ref]:=(a.after,Fd.fin a,b,());
  ql (g15.2.2.1.length+[(⟨g15.1,g15.2.1⟩:Rfn)].length) 48 (
  let g16:prodL [.el .idk,.fd,.sl .ref]:=(a.before,Fd.fin a,g15.2.2.1++[(⟨g15.1,g15.2.1⟩:Rfn)],());
  ql (g16.2.2.1.length+[(⟨g16.1,g16.2.1⟩:Rfn)].length) 48 (
  Wn K a (g16.2.2.1++[(⟨g16.1,g16.2.1⟩:Rfn)]))))
 else (
  Wn K a b)
def qxj (K:Kn) (a:Chg) (b:List Rfn):Prop:=
 bif decide (a.kind=5)then (
  J5 K a true b)
 else (
  J5 K a (decide (a.kind=6)) b)
def Wu (K:Kn) (a:Chg) (c:Bool) (b:List Rfn):Prop:=
 bif c then (
  let g11:prodL [.el .idk,.fd,.sl .ref]:=(a.parent,Fd.dir,b,());
  ql (g11.2.2.1.length+[(⟨g11.1,g11.2.1⟩:Rfn)].length) 48 (
  qxj K a (g11.2.2.1++[(⟨g11.1,g11.2.1⟩:Rfn)])))
 else (
  qxj K a b)
def Q1 (K:Kn) (a:Chg) (b:List Rfn):Prop:=
 bif decide (a.kind=2)then (
  True/\
  Wu K a (!(qr a.parent (⟨dz, -1⟩:Idn))) b)
 else (
  Wu K a false b)
def Y5 (K:Kn) (a:Chg) (b:Bool):Prop:=
 bif b then (
    let g6:prodL [.el .idk,.fd]:=(a.file,Fd.txt,());
    ql ([(⟨g6.1,g6.2.1⟩:Rfn)].length) 48 (
    Q1 K a [(⟨g6.1,g6.2.1⟩:Rfn)]))
   else (
    Q1 K a [])
def K7 (K:Kn) (a:Chg) (b:Int) (c:Bool):Prop:=
 bif c then (
  let g3:prodL [.el .idk,.fd]:=(a.file,Fd.file,());
  ql ([(⟨g3.1,g3.2.1⟩:Rfn)].length) 48 (
  Q1 K a [(⟨g3.1,g3.2.1⟩:Rfn)]))
 else (
  bif decide (b=4)then (
   let g4:prodL [.el .idk,.fd]:=(a.file,Fd.data,());
   ql ([(⟨g4.1,g4.2.1⟩:Rfn)].length) 48 (
   Q1 K a [(⟨g4.1,g4.2.1⟩:Rfn)]))
  else (
   bif decide (b=5)then (
    Y5 K a true)
   else (
    Y5 K a (decide (b=6)))))
def qhf (K:Kn) (a:Chg):Prop:=
 bif decide (a.kind=2)then (
  K7 K a a.kind true)
 else (
  K7 K a a.kind (decide (a.kind=3)))
def F46 (g:prodL L46) (K:Kn):Prop:=
 qhf K g.1
theorem qml (g:prodL L46) (K X:Kn) (h:F46 g K):FCalls Tryz.prog 46 (argsT S46 L46 g) [] K X:=
 FCalls.settle0 (qw Tryz.func46 Tryz.ntmps46 Tryz.results46 (qd qch (qd qKL qj)) (qx qjH qz) H46 J46 (by kernel_rfl) (by kernel_rfl) h)
def H84:List (Nat×Hint):=[(16,⟨[],[(0,.fn 1036016 [] [.pt 0 0]),(2,.leaf),(4,.fn 85 [] [.leaf]),(93,.leaf),(94,.leaf),(95,.leaf)],[.cells [.oa .atm 1],.arr .atm],[.pr .chg,.pr .i64,.sl .str,.int .i64,.int .i64,.sl .atm]⟩),(23,⟨[((8,[]),none)],[(0,.fn 1036016 [] [.pt 0 0]),(2,.leaf),(4,.fn 85 [] [.leaf]),(7,.leaf),(8,.pt 2 0),(117,.leaf),(118,.leaf)],[.cells [.oa .atm 1],.arr .atm,.el],[.pr .chg,.pr .i64,.int .i64,.int .i64,.int .i64,.sl .atm,.el .idk]⟩)]
def J84:List (Nat×Hint):=[(28,⟨[((8,[]),none),((10,[]),none)],[(0,.fn 1036016 [] [.pt 0 0]),(2,.leaf),(4,.fn 85 [] [.leaf]),(7,.leaf),(8,.pt 2 0),(9,.leaf),(10,.pt 3 0),(117,.leaf),(118,.leaf)],[.cells [.oa .atm 1],.arr .atm,.el,.el],[.pr .chg,.pr .i64,.int .i64,.int .i64,.int .i64,.int .i64,.sl .atm,.el .idk,.el .idk]⟩)]
abbrev S84:List Sh:=[.fn 1036016 [] [.pt 0 0],.leaf,.leaf]
abbrev L84:List Lf:=[.pr .i64,.pr .chg,.sl .atm]
abbrev O84:List ObSh:=[.cells [.oa .atm 1],.arr .atm]
def Wz (K:Kn) (e:prodL [.pr .chg,.pr .i64,.int .i64,.int .i64,.int .i64,.sl .atm,.el .idk]->Prop) (a:Chg) (b c f g h:Int) (i:List Atm) (j d:Idn):Prop:=
 True/\
        let g14:prodL [.el .atm,.sl .atm]:=((⟨(⟨dz,IntKind.i64.wrap (b+(IntKind.i64.wrap (c+f)))⟩:Idn),6,a.file,0,iz,(⟨#[]⟩:ByteArray),0,(⟨#[]⟩:ByteArray),(⟨#[]⟩:ByteArray),j,d,[]⟩:Atm),i,());
        ql (g14.2.1.length+[g14.1].length) 296 (
        e (a,b,c,g,IntKind.i64.wrap (h+1),g14.2.1++[g14.1],d,()))
def Jf (K:Kn) (g:prodL [.pr .chg,.pr .i64,.int .i64,.int .i64,.int .i64,.sl .atm,.el .idk]->Prop) (b:Chg) (c d e a:Int) (f:List Atm) (h:Idn):Prop:=
 bif decide (a<e)then (
         bif decide (a<d)then (
         True/\
         Wz K g b c d a e a f h (⟨dz,IntKind.i64.wrap (c+a)⟩:Idn))
        else (
         Wz K g b c d a e a f h b.before))
        else (
         K (.tu []) [some (.cells [.oa .atm 1 0]),some (.arr 0 .atm f)])
def qQ3 (K:Kn) (g:prodL [.pr .chg,.pr .i64,.int .i64,.int .i64,.int .i64,.sl .atm,.el .idk]):Prop:=
 qy (γ:=prodL [.pr .chg,.pr .i64,.int .i64,.int .i64,.int .i64,.sl .atm,.el .idk]) (fun V y=>Jf K V y.1 y.2.1 y.2.2.1 y.2.2.2.1 y.2.2.2.2.1 y.2.2.2.2.2.1 y.2.2.2.2.2.2.1) g
def KN (K:Kn) (g:prodL [.pr .chg,.pr .i64,.sl .str,.int .i64,.int .i64,.sl .atm]->Prop) (a:Chg) (c:Int) (d:List ByteArray) (e b:Int) (f:List Atm):Prop:=
 bif decide (b<e)then (
         At d b fun h=>
        True/\
        let g10:prodL [.el .atm,.sl .atm]:=((⟨(⟨dz,IntKind.i64.wrap (c+b)⟩:Idn),5,a.file,0,iz,(⟨#[]⟩:ByteArray),0,(⟨#[]⟩:ByteArray),h,iz,iz,[]⟩:Atm),f,());
        ql (g10.2.1.length+[g10.1].length) 296 (
        g (a,c,d,e,IntKind.i64.wrap (b+1),g10.2.1++[g10.1],())))
        else (
         qQ3 K (a,c,(a.lines.length:Int),IntKind.i64.wrap ((a.lines.length:Int)+1),0,f,a.after,()))
def qk2 (K:Kn) (g:prodL [.pr .chg,.pr .i64,.sl .str,.int .i64,.int .i64,.sl .atm]):Prop:=
 qy (γ:=prodL [.pr .chg,.pr .i64,.sl .str,.int .i64,.int .i64,.sl .atm]) (fun V y=>KN K V y.1 y.2.1 y.2.2.1 y.2.2.2.1 y.2.2.2.2.1 y.2.2.2.2.2.1) g
def F84 (g:prodL L84) (K:Kn):Prop:=
 bif decide (g.2.1.kind=1)then (
  True/\
  True/\
  let g1:prodL [.el .atm,.sl .atm]:=((⟨(⟨dz,IntKind.i64.wrap (g.1+0)⟩:Idn),1,(⟨dz,IntKind.i64.wrap (g.1+0)⟩:Idn),g.2.1.typ,iz,(⟨#[]⟩:ByteArray),0,(⟨#[]⟩:ByteArray),(⟨#[]⟩:ByteArray),iz,iz,[]⟩:Atm),g.2.2.1,());
  ql (g1.2.1.length+[g1.1].length) 296 (
  K (.tu []) [some (.cells [.oa .atm 1 0]),some (.arr 0 .atm (g1.2.1++[g1.1]))]))
 else (
  bif decide (g.2.1.kind=2)then (
   True/\
   let g2:prodL [.el .atm,.sl .atm]:=((⟨(⟨dz,IntKind.i64.wrap (g.1+0)⟩:Idn),2,g.2.1.file,0,g.2.1.parent,g.2.1.name,0,(⟨#[]⟩:ByteArray),(⟨#[]⟩:ByteArray),iz,iz,g.2.1.over⟩:Atm),g.2.2.1,());
   ql (g2.2.1.length+[g2.1].length) 296 (
   K (.tu []) [some (.cells [.oa .atm 1 0]),some (.arr 0 .atm (g2.2.1++[g2.1]))]))
  else (
   bif decide (g.2.1.kind=3)then (
    True/\
    let g3:prodL [.el .atm,.sl .atm]:=((⟨(⟨dz,IntKind.i64.wrap (g.1+0)⟩:Idn),3,g.2.1.file,0,iz,(⟨#[]⟩:ByteArray),g.2.1.mode,(⟨#[]⟩:ByteArray),(⟨#[]⟩:ByteArray),iz,iz,g.2.1.over⟩:Atm),g.2.2.1,());
    ql (g3.2.1.length+[g3.1].length) 296 (
    K (.tu []) [some (.cells [.oa .atm 1 0]),some (.arr 0 .atm (g3.2.1++[g3.1]))]))
   else (
    bif decide (g.2.1.kind=4)then (
     True/\
     let g4:prodL [.el .atm,.sl .atm]:=((⟨(⟨dz,IntKind.i64.wrap (g.1+0)⟩:Idn),4,g.2.1.file,0,iz,(⟨#[]⟩:ByteArray),0,g.2.1.data,(⟨#[]⟩:ByteArray),iz,iz,g.2.1.over⟩:Atm),g.2.2.1,());
     ql (g4.2.1.length+[g4.1].length) 296 (
     K (.tu []) [some (.cells [.oa .atm 1 0]),some (.arr 0 .atm (g4.2.1++[g4.1]))]))
    else (
     bif decide (g.2.1.kind=6)then (
      True/\
      let g5:prodL [.el .atm,.sl .atm]:=((⟨(⟨dz,IntKind.i64.wrap (g.1+0)⟩:Idn),6,g.2.1.file,0,iz,(⟨#[]⟩:ByteArray),0,(⟨#[]⟩:ByteArray),(⟨#[]⟩:ByteArray),g.2.1.after,g.2.1.before,g.2.1.over⟩:Atm),g.2.2.1,());
      ql (g5.2.1.length+[g5.1].length) 296 (
      K (.tu []) [some (.cells [.oa .atm 1 0]),some (.arr 0 .atm (g5.2.1++[g5.1]))]))
     else (
      bif decide (g.2.1.kind=7)then (
       True/\
       let g6:prodL [.el .atm,.sl .atm]:=((⟨(⟨dz,IntKind.i64.wrap (g.1+0)⟩:Idn),7,iz,0,iz,(⟨#[]⟩:ByteArray),0,(⟨#[]⟩:ByteArray),(⟨#[]⟩:ByteArray),iz,iz,g.2.1.over⟩:Atm),g.2.2.1,());
       ql (g6.2.1.length+[g6.1].length) 296 (
       K (.tu []) [some (.cells [.oa .atm 1 0]),some (.arr 0 .atm (g6.2.1++[g6.1]))]))
      else (
       bif decide (g.2.1.kind=5)then (
        qk2 K (g.2.1,g.1,g.2.1.lines,(g.2.1.lines.length:Int),0,g.2.2.1,()))
       else (
        K (.tu []) [some (.cells [.oa .atm 1 0]),some (.arr 0 .atm g.2.2.1)])))))))
theorem qnO (g:prodL L84) (K X:Kn) (h:F84 g K):FCalls Tryz.prog 84 (argsT S84 L84 g) (qi S84 O84 L84 g) K X 0:=
 FCalls.settleD (qw Tryz.func84 Tryz.ntmps84 Tryz.results84 (qd qjg qj) (qx qd7 qz) H84 J84 (by kernel_rfl) (by kernel_rfl) h)
def qBB:List (Nat×Hint):=[(18,⟨[((2,[]),none),((6,[]),some .atm)],[(1,.leaf),(2,.pt 0 0),(6,.oa .atm 1),(7,.leaf),(8,.leaf)],[.el,.arr .atm],[.int .i64,.int .i64,.int .i64,.el .chg,.sl .atm]⟩),(22,⟨[((2,[]),none),((6,[]),none)],[(1,.leaf),(2,.pt 0 0),(6,.oa .atm 1),(7,.leaf),(9,.leaf)],[.el,.arr .atm],[.int .i64,.int .i64,.int .i64,.el .chg,.sl .atm]⟩)]
def qCp:List (Nat×Hint):=[(27,⟨[((2,[]),none),((6,[]),none),((10,[]),none)],[(1,.leaf),(2,.pt 0 0),(6,.oa .atm 1),(7,.leaf),(9,.leaf),(10,.pt 2 0)],[.el,.arr .atm,.el],[.int .i64,.int .i64,.int .i64,.el .chg,.sl .atm,.el .atm]⟩),(29,⟨[((2,[]),none),((6,[]),none),((10,[]),none)],[(1,.leaf),(2,.pt 0 0),(6,.oa .atm 1),(7,.leaf),(9,.leaf),(10,.pt 2 0)],[.el,.arr .atm,.el],[.int .i64,.int .i64,.int .i64,.el .chg,.sl .atm,.el .atm]⟩)]
abbrev qr2:List Sh:=[.leaf,.leaf]
abbrev qce:List Lf:=[.el .chg,.int .i64]
def Xi (K:Kn) (c:prodL [.int .i64,.int .i64,.int .i64,.el .chg,.sl .atm]->Prop) (d e f:Int) (g:Chg) (a:List Atm) (b:Atm):Prop:=
 ql (a.length+[b].length) 296 (
 c (d,e,IntKind.i64.wrap (f+1),g,a++[b],()))
def Jo (K:Kn) (e:prodL [.int .i64,.int .i64,.int .i64,.el .chg,.sl .atm]->Prop) (c d b:Int) (f:Chg) (g:List Atm) (a:Atm):Prop:=
 bif decide (b<d)then (
  Xi K e c d b f g (⟨a.id,a.kind,a.file,a.typ,a.parent,a.name,a.mode,a.data,a.text,a.frm,⟨dz,IntKind.i64.wrap (c+b)⟩,a.over⟩:Atm))
 else (
  Xi K e c d b f g a)
def XV (K:Kn) (f:prodL [.int .i64,.int .i64,.int .i64,.el .chg,.sl .atm]->Prop) (c d a:Int) (b:Chg) (e:List Atm):Prop:=
 bif decide (a<=d)then (
  bif decide (0<a)then (
  Jo K f c d a b e (⟨⟨dz,IntKind.i64.wrap ((IntKind.i64.wrap (c+d))+a)⟩,6,b.file,0,iz,(⟨#[]⟩:ByteArray),0,(⟨#[]⟩:ByteArray),(⟨#[]⟩:ByteArray),⟨dz,IntKind.i64.wrap ((IntKind.i64.wrap (c+a)) - 1)⟩,b.before,[]⟩:Atm))
 else (
  Jo K f c d a b e (⟨⟨dz,IntKind.i64.wrap ((IntKind.i64.wrap (c+d))+a)⟩,6,b.file,0,iz,(⟨#[]⟩:ByteArray),0,(⟨#[]⟩:ByteArray),(⟨#[]⟩:ByteArray),b.after,b.before,[]⟩:Atm)))
 else (
  K (.sl false .atm e) [])
def qZP (K:Kn) (g:prodL [.int .i64,.int .i64,.int .i64,.el .chg,.sl .atm]):Prop:=
 qy (γ:=prodL [.int .i64,.int .i64,.int .i64,.el .chg,.sl .atm]) (fun V y=>XV K V y.1 y.2.1 y.2.2.1 y.2.2.2.1 y.2.2.2.2.1) g
def Jl (K:Kn) (g:prodL [.int .i64,.int .i64,.int .i64,.el .chg,.sl .atm]->Prop) (c d a:Int) (b:Chg) (e:List Atm):Prop:=
 bif decide (a<d)then (
  At b.lines a fun f=>
 ql (e.length+[(⟨⟨dz,IntKind.i64.wrap (c+a)⟩,5,b.file,0,iz,(⟨#[]⟩:ByteArray),0,(⟨#[]⟩:ByteArray),f,iz,iz,[]⟩:Atm)].length) 296 (
 g (c,d,IntKind.i64.wrap (a+1),b,e++[(⟨⟨dz,IntKind.i64.wrap (c+a)⟩,5,b.file,0,iz,(⟨#[]⟩:ByteArray),0,(⟨#[]⟩:ByteArray),f,iz,iz,[]⟩:Atm)],())))
 else (
  qZP K (c,d,0,b,e,()))
def qjj (K:Kn) (g:prodL [.int .i64,.int .i64,.int .i64,.el .chg,.sl .atm]):Prop:=
 qy (γ:=prodL [.int .i64,.int .i64,.int .i64,.el .chg,.sl .atm]) (fun V y=>Jl K V y.1 y.2.1 y.2.2.1 y.2.2.2.1 y.2.2.2.2.1) g
def ql0 (g:prodL qce) (K:Kn):Prop:=
 bif decide (g.1.kind=1)then (
  K (.sl true .atm [(⟨⟨dz,g.2.1⟩,1,⟨dz,g.2.1⟩,g.1.typ,iz,(⟨#[]⟩:ByteArray),0,(⟨#[]⟩:ByteArray),(⟨#[]⟩:ByteArray),iz,iz,[]⟩:Atm)]) [])
 else (
  bif decide (g.1.kind=2)then (
   K (.sl true .atm [(⟨⟨dz,g.2.1⟩,2,g.1.file,0,g.1.parent,g.1.name,0,(⟨#[]⟩:ByteArray),(⟨#[]⟩:ByteArray),iz,iz,g.1.over⟩:Atm)]) [])
  else (
   bif decide (g.1.kind=3)then (
    K (.sl true .atm [(⟨⟨dz,g.2.1⟩,3,g.1.file,0,iz,(⟨#[]⟩:ByteArray),g.1.mode,(⟨#[]⟩:ByteArray),(⟨#[]⟩:ByteArray),iz,iz,g.1.over⟩:Atm)]) [])
   else (
    bif decide (g.1.kind=4)then (
     K (.sl true .atm [(⟨⟨dz,g.2.1⟩,4,g.1.file,0,iz,(⟨#[]⟩:ByteArray),0,g.1.data,(⟨#[]⟩:ByteArray),iz,iz,g.1.over⟩:Atm)]) [])
    else (
     bif decide (g.1.kind=6)then (
      K (.sl true .atm [(⟨⟨dz,g.2.1⟩,6,g.1.file,0,iz,(⟨#[]⟩:ByteArray),0,(⟨#[]⟩:ByteArray),(⟨#[]⟩:ByteArray),g.1.after,g.1.before,g.1.over⟩:Atm)]) [])
     else (
      bif decide (g.1.kind=7)then (
       K (.sl true .atm [(⟨⟨dz,g.2.1⟩,7,iz,0,iz,(⟨#[]⟩:ByteArray),0,(⟨#[]⟩:ByteArray),(⟨#[]⟩:ByteArray),iz,iz,g.1.over⟩:Atm)]) [])
      else (
       qjj K (g.2.1,(g.1.lines.length:Int),0,g.1,[],())))))))
theorem qgM (g:prodL qce) (K X:Kn) (h:ql0 g K):FCalls Tryz.prog 127 (argsT qr2 qce g) [] K X:=
 FCalls.settle0 (qw Tryz.func127 Tryz.ntmps127 Tryz.results127 qj qz qBB qCp (by kernel_rfl) (by kernel_rfl) h)
end
section
open Go.RowKit
set_option maxRecDepth 100000
theorem w40 {n:Int} (h:0<=n/\n<=4398046511104):IntKind.i64.wrap n=n:=qE (by omega) (by omega)
abbrev KR (K:Kn):List Rfn->Prop:=fun l=>K (.sl false .ref l) []
theorem WT {c:Chg} {out:List Rfn} {K:Kn} (hl:c.over.length<=4194304) (ho:out.length<=16) (h:KR K (out++Qx c)):Wn K c out:=by
 unfold Wn qZO;refine qy.map c.over (fun x=>(⟨x,Fd.sup c⟩:Rfn)) (fun n o=>(c,c.over,(c.over.length:Int),n,out++o,())) (by omega) (by rw [List.append_nil]) (fun W n hn o hlen hW=> ?_) fun W=> ?_
 . show Jt K W c c.over c.over.length n (out++o)
   unfold Jt;rw [qu hn,Jae];refine qD hn ?_;rw [<- Jat] at hW;exact ⟨by simp only [Jal,Jak,hlen];omega,hW⟩
 . show Jt K W c c.over c.over.length c.over.length (out++c.over.map fun x=>(⟨x,Fd.sup c⟩:Rfn))
   unfold Jt;rw [qm,Jaf];exact h
theorem qkP {c:Chg} {t:Bool} {out:List Rfn} {K:Kn} (hl:c.over.length<=4194304) (ho:out.length<=8) (h:KR K (qkh c t out)):J5 K c t out:=by
 unfold J5;unfold qkh at h;cases t
 . exact WT hl (by omega) h
 . refine ⟨by simp only [Jal];omega,by simp only [Jal,Jak];omega,WT hl (by simp only [Jal,Jak];omega) h⟩
theorem K8 {c:Chg} {out:List Rfn} {K:Kn} (hl:c.over.length<=4194304) (ho:out.length<=8) (h:KR K (qyK c out)):qxj K c out:=
 vz (J:=fun b=>J5 K c b out) (f:=fun b=>qkh c b out) (K:=KR K) (fun _ h=>qkP hl ho h) h
theorem Yk {c:Chg} {t:Bool} {out:List Rfn} {K:Kn} (hl:c.over.length<=4194304) (ho:out.length<=4) (h:KR K (qQQ c t out)):Wu K c t out:=by
 unfold Wu;unfold qQQ at h;cases t
 . exact K8 hl (by omega) h
 . exact ⟨by simp only [Jal];omega,K8 hl (by simp only [Jal,Jak];omega) h⟩
theorem ku {c:Chg} {out:List Rfn} {K:Kn} (hl:c.over.length<=4194304) (ho:out.length<=4) (h:KR K (qxE c out)):Q1 K c out:=by
 unfold Q1;unfold qxE at h;cases e:decide (c.kind=2)
 . rw [e] at h;exact Yk hl ho h
 . rw [e] at h;exact ⟨trivial,Yk hl ho h⟩
theorem qJN {c:Chg} {t:Bool} {K:Kn} (hl:c.over.length<=4194304) (h:KR K (rL7 c t)):Y5 K c t:=by
 unfold Y5;unfold rL7 at h;cases t
 . exact ku hl (Jag rfl) h
 . exact ⟨Jag rfl,ku hl (Jag rfl) h⟩
theorem qXy {c:Chg} {k:Int} {t:Bool} {K:Kn} (hl:c.over.length<=4194304) (h:KR K (rL8 c k t)):K7 K c k t:=by
 unfold K7;unfold rL8 at h;cases t
 . rw [Jaf] at h ⊢;cases e:decide (k=4)
   . rw [e] at h;exact vz (J:=fun b=>Y5 K c b) (f:=fun b=>rL7 c b) (K:=KR K) (fun _ h=>qJN hl h) h
   . rw [e] at h;exact ⟨Jag rfl,ku hl (Jag rfl) h⟩
 . exact ⟨Jag rfl,ku hl (Jag rfl) h⟩
theorem qnI {c:Chg} {K:Kn} (hl:c.over.length<=4194304) (h:KR K (jY c)):F46 (c,()) K:=
 vz (J:=fun b=>K7 K c c.kind b) (f:=fun b=>rL8 c c.kind b) (K:=KR K) (fun _ h=>qXy hl h) h
def qs9:Sp:=⟨S46,L46,fun g=>g.1.over.length<=4194304,fun g=> .sl false .ref (jY g.1),fun _=>none⟩
theorem qgE:qs9.Ok Tryz.prog 46 false:=
 .mk (fun g K X hp h=>qml g K X (qnI hp h))
abbrev KA (K:Kn):List Atm->Prop:=fun l=>K (.tu []) [some (.cells [.oa .atm 1 0]),some (.arr 0 .atm l)]
def frS (c:Chg) (n:Int):Nat->Idn
 | 0=>c.after
 | i+1=>qwr c n i
theorem qfA {c:Chg} {n:Int} {i:Nat} (h:i<=c.lines.length):frS c n i=qmM c n i:=by
 cases i with
 | zero=>rfl
 | succ i=>
  show qwr c n i=Z5 (n+i)
  unfold qwr;rw [Jaa (by omega),Jae]
theorem qK1 {c:Chg} {n:Int} {i:Nat} (h:i<c.lines.length):lnI c n i=lnA c (n+i) c.lines[i]:=by
 unfold lnI;rw [Jbq,jU h];rfl
theorem leI {n m:Nat}:decide ((n:Int) < (m:Int))=decide (n<m):=by rw [Jb8];omega
theorem qJh {c:Chg} {n:Int} {own:List Atm} {K:Kn} (hp:qJf c n) (hl:own.length<=16777216) (h:KA K (own++(ZZ c n++qwt c n))):qk2 K (c,n,c.lines,(c.lines.length:Int),0,own,()):=by
 obtain ⟨hk,h1,h2,h3⟩:=hp;unfold qk2;refine qy.mapN c.lines.length (lnI c n) (fun i out=>(c,n,c.lines,(c.lines.length:Int),(i:Int),own++out,())) (by rw [List.append_nil];rfl) (fun W i hi out ho hW=> ?_) fun W=> ?_
 . show KN K W c n c.lines c.lines.length i (own++out)
   unfold KN;rw [qu hi,Jae];refine qD hi ⟨trivial,by simp only [Jal,Jak,ho];omega, ?_⟩
   rw [<- Jat,qK1 hi] at hW;rw [zd hi (by omega),w40 (by omega)]
   exact hW
 . show KN K W c n c.lines c.lines.length c.lines.length (own++ZZ c n)
   unfold KN;rw [qm,Jaf];unfold qQ3;have hlen:(own++ZZ c n).length<=33554432:=by simp only [Jak,ZZ,Jbs,List.length_range];omega
   rw [<- Jat] at h;generalize own++ZZ c n=l at hlen h;refine qy.mapN (c.lines.length+1) (egI c n) (fun i out=>(c,n,(c.lines.length:Int),((c.lines.length+1:Nat):Int),(i:Int),l++out,frS c n i,())) (by rw [List.append_nil,w64 (by omega)];rfl) (fun W i hi out ho hW=> ?_) fun W=> ?_
   . show Jf K W c n c.lines.length ((c.lines.length+1:Nat):Int) i (l++out) (frS c n i)
     unfold Jf;rw [qu hi,Jae,leI];have hJ:Wz K W c n c.lines.length i ((c.lines.length+1:Nat):Int) i (l++out) (frS c n i) (qwr c n i):=by
      unfold Wz;refine ⟨trivial,by simp only [Jal,Jak,ho];omega, ?_⟩
      rw [<- Jat] at hW;rw [zd hi (by omega),w40 (n:=(c.lines.length:Int)+(i:Int)) (by omega),w40 (by omega)]
      have e:egI c n i=⟨⟨dz,n+((c.lines.length:Int)+(i:Int))⟩,6,c.file,0,iz,⟨#[]⟩,0,⟨#[]⟩,⟨#[]⟩,frS c n i,qwr c n i,[]⟩:=by
       rw [qfA (by omega), <- Int.add_assoc];rfl
      rw [e] at hW;exact hW
     unfold qwr at hJ;by_cases hlt:i<c.lines.length
     . rw [Jaa hlt] at hJ ⊢;rw [Jae,w40 (n:=n+(i:Int)) (by omega)]
       exact ⟨trivial,hJ⟩
     . rw [Jab hlt] at hJ ⊢;exact hJ
   . show Jf K W c n c.lines.length ((c.lines.length+1:Nat):Int) ((c.lines.length+1:Nat):Int) (l++qwt c n) (frS c n (c.lines.length+1))
     unfold Jf;rw [qm,Jaf];exact h
theorem qlu {c:Chg} {n:Int} {own:List Atm} {K:Kn} (hp:qJf c n) (hl:own.length<=16777216) (h:KA K (own++xp c n)):F84 (n,c,own,()) K:=by
 have hp':=hp;obtain ⟨hk,h1,h2,h3⟩:=hp';have hz:IntKind.i64.wrap (n+0)=n:=by rw [Int.add_zero,w40 (by omega)]
 have hr:(own.length+1)*296<=140737488355328:=by omega
 unfold F84;dsimp only;simp only [hz];obtain ⟨kind,file,typ,parent,name,mode,data,after,before,lines,over⟩:=c;have hk1:(1:Int)<=kind/\kind<=7:=hk;have:kind=1∨kind=2∨kind=3∨kind=4∨kind=5∨kind=6∨kind=7:=by omega
 rcases this with rfl | rfl | rfl | rfl | rfl | rfl | rfl
 . exact ⟨trivial,trivial,hr,h⟩
 . show True/\ql _ _ _
   exact ⟨trivial,hr,h⟩
 . show True/\ql _ _ _
   exact ⟨trivial,hr,h⟩
 . show True/\ql _ _ _
   exact ⟨trivial,hr,h⟩
 . exact qJh hp hl h
 . show True/\ql _ _ _
   exact ⟨trivial,hr,h⟩
 . show True/\ql _ _ _
   exact ⟨trivial,hr,h⟩
def qXI:Raw:=⟨S84,O84,L84,0,fun g K _=>qib g/\K (.tu []) [some (.cells [.oa .atm 1 0]),some (.arr 0 .atm (g.2.2.1++xp g.2.1 g.1))]⟩
theorem qeX:qXI.Ok Tryz.prog 84:=fun g K X h=>qnO g K X (qlu h.1.1 h.1.2 h.2)
abbrev KL (K:Kn):List Atm->Prop:=fun l=>K (.sl false .atm l) []
theorem qkV {c:Chg} {n:Int} {K:Kn} (hp:qJf c n) (h:KL K (ZZ c n++qwt c n)):qjj K (n,(c.lines.length:Int),0,c,[],()):=by
 obtain ⟨hk,h1,h2,h3⟩:=hp;unfold qjj;refine qy.mapN c.lines.length (lnI c n) (fun i out=>(n,(c.lines.length:Int),(i:Int),c,out,())) rfl (fun W i hi out ho hW=> ?_) fun W=> ?_
 . show Jl K W n c.lines.length i c out
   unfold Jl;rw [qu hi,Jae];refine qD hi ⟨by simp only [Jal,ho];omega, ?_⟩
   rw [qK1 hi] at hW;rw [zd hi (by omega),w40 (by omega)]
   exact hW
 . show Jl K W n c.lines.length c.lines.length c (ZZ c n)
   unfold Jl;rw [qm,Jaf];unfold qZP;have hlen:(ZZ c n).length<=33554432:=by simp only [ZZ,Jbs,List.length_range];omega
   generalize ZZ c n=l at hlen h;refine qy.mapN (c.lines.length+1) (egI c n) (fun i out=>(n,(c.lines.length:Int),(i:Int),c,l++out,())) (by rw [List.append_nil];rfl) (fun W i hi out ho hW=> ?_) fun W=> ?_
   . show XV K W n c.lines.length i c (l++out)
     unfold XV;rw [Jaa (show (i:Int)<=(c.lines.length:Int)by omega),Jae]
     rw [<- Jat] at hW;have hJ: ∀f,f=qmM c n i->Jo K W n c.lines.length i c (l++out) ⟨⟨dz,n+c.lines.length+i⟩,6,c.file,0,iz,⟨#[]⟩,0,⟨#[]⟩,⟨#[]⟩,f,c.before,[]⟩:=by
      rintro f rfl;have hJ11:Xi K W n c.lines.length i c (l++out) (egI c n i):=by
       unfold Xi;refine ⟨by simp only [Jal,Jak,ho];omega, ?_⟩
       rw [zd hi (by omega)]
       exact hW
      unfold egI qwr at hJ11;unfold Jo;rw [leI];by_cases hlt:i<c.lines.length
      . rw [Jaa hlt] at hJ11 ⊢;rw [Jae,w40 (n:=n+(i:Int)) (by omega)]
        exact hJ11
      . rw [Jab hlt] at hJ11 ⊢;exact hJ11
     rw [w40 (n:=n+(c.lines.length:Int)) (by omega),w40 (n:=n+(c.lines.length:Int)+(i:Int)) (by omega)]
     cases i with
     | zero=>exact hJ _ rfl
     | succ i=>
      rw [qn5 (show 0<i+1 by omega),Jae]
      refine hJ _ ?_;rw [w40 (n:=n+((i+1:Nat):Int)) (by omega),w40 (by omega)]
      show (⟨dz,n+((i+1:Nat):Int) - 1⟩:Idn)=⟨dz,n+(i:Int)⟩
      rw [show n+((i+1:Nat):Int) - 1=n+(i:Int)by omega]
   . show XV K W n c.lines.length ((c.lines.length+1:Nat):Int) c (l++qwt c n)
     unfold XV;rw [Jab (by omega),Jaf]
     exact h
theorem qha {c:Chg} {n:Int} {K:Kn} (hp:qJf c n) (h:KL K (xp c n)):ql0 (c,n,()) (zI K):=by
 have hk:=hp.1;have hK: ∀l,KL K l->KL (zI K) l:=fun l h=>zI.same h
 unfold ql0;obtain ⟨kind,file,typ,parent,name,mode,data,after,before,lines,over⟩:=c;have hk1:(1:Int)<=kind/\kind<=7:=hk;have:kind=1∨kind=2∨kind=3∨kind=4∨kind=5∨kind=6∨kind=7:=by omega
 rcases this with rfl | rfl | rfl | rfl | rfl | rfl | rfl
 . exact zI.sl h
 . exact zI.sl h
 . exact zI.sl h
 . exact zI.sl h
 . exact qkV hp (hK _ h)
 . exact zI.sl h
 . exact zI.sl h
def qiD:Sp:=⟨qr2,qce,fun g=>qJf g.1 g.2.1,fun g=> .sl false .atm (xp g.1 g.2.1),fun _=>none⟩
theorem qVY:qiD.Ok Tryz.prog 127 false:=
 .mk (fun g K X hp h=>FCalls.weak (qgM g (zI K) X (qha hp h)))
end
section
open Go.RowKit
attribute [local irreducible] zb qa
set_option maxRecDepth 100000
def H69:List (Nat×Hint):=[(2,⟨[((2,[]),none)],[(1,.leaf),(2,.pt 0 0),(8,.leaf),(9,.leaf),(10,.leaf)],[.el],[.sl .atm,.sl .ref,.int .i64,.int .i64,.el .chg]⟩)]
def J69:List (Nat×Hint):=[(6,⟨[((2,[]),none),((6,[]),none)],[(1,.leaf),(2,.pt 0 0),(6,.pt 1 0),(8,.leaf),(9,.leaf),(10,.leaf),(14,.leaf)],[.el,.el],[.sl .atm,.sl .ref,.int .i64,.int .i64,.bool,.el .chg,.el .ref]⟩),(7,⟨[((2,[]),none),((6,[]),none)],[(1,.leaf),(2,.pt 0 0),(6,.pt 1 0),(8,.leaf),(9,.leaf),(10,.leaf),(14,.leaf)],[.el,.el],[.sl .atm,.sl .ref,.int .i64,.int .i64,.bool,.el .chg,.el .ref]⟩),(9,⟨[((2,[]),none)],[(1,.leaf),(2,.pt 0 0),(8,.leaf),(9,.leaf),(10,.leaf),(34,.leaf)],[.el],[.sl .atm,.sl .ref,.int .i64,.int .i64,.bool,.el .chg]⟩),(12,⟨[((2,[]),none)],[(2,.pt 0 0),(51,.leaf)],[.el],[.bool,.el .chg]⟩),(14,⟨[((2,[]),none)],[(2,.pt 0 0),(62,.leaf)],[.el],[.bool,.el .chg]⟩),(15,⟨[],[(62,.leaf)],[],[.bool]⟩)]
abbrev S69:List Sh:=[.leaf,.leaf]
abbrev L69:List Lf:=[.el .chg,.sl .atm]
def wv (K:Kn) (a:prodL [.sl .atm,.sl .ref,.int .i64,.int .i64,.el .chg]->Prop) (b:List Atm) (c:List Rfn) (d e:Int) (f:Bool) (g:Chg):Prop:=
 bif f then (
   K (.int .i64 8) [])
  else (
   a (b,c,d,IntKind.i64.wrap (e+1),g,()))
def Jm (K:Kn) (b:prodL [.sl .atm,.sl .ref,.int .i64,.int .i64,.el .chg]->Prop) (a:List Atm) (c:List Rfn) (d e:Int) (i:Bool) (f:Chg) (h:Rfn):Prop:=
 bif i then (
  K (.int .i64 7) [])
 else (
  True/\
  bif ZJ h.id then (
   At a h.id.n fun g=>
   qrc h.fits (
    True/\
    wv K b a c d e (!(decide (g.kind=1))) f)
   (
    True/\
    wv K b a c d e (!(qvy g)) f)
   (
    True/\
    wv K b a c d e (!(qwc g)) f)
   (
    True/\
    wv K b a c d e (!(qvW g)) f)
   (fun j=>
    True/\
    wv K b a c d e (!(qqy g j)) f)
   (fun l=>
    True/\
    wv K b a c d e (!(YD g l)) f))
  else (
   wv K b a c d e false f))
def qj1 (K:Kn) (b:prodL [.sl .atm,.sl .ref,.int .i64,.int .i64,.el .chg]->Prop) (c:List Atm) (d:List Rfn) (e f:Int) (h:Bool) (g:Chg) (a:Rfn):Prop:=
 bif h then (
   Jm K b c d e f true g a)
  else (
   Jm K b c d e f (decide (100000<=a.id.n)) g a)
def ka (K:Kn) (a:Bool):Prop:=
 bif a then (
   K (.int .i64 1) [])
  else (
   K (.int .i64 0) [])
def Jr (K:Kn) (b:Bool) (a:Chg):Prop:=
 bif b then (
   ka K true)
  else (
   bif decide (a.kind=5)then (
    bif qr a.after a.before then (
     ka K (!(qr a.after a.file)))
    else (
     ka K false))
   else (
    ka K false))
def kH (K:Kn) (b:Bool) (a:Chg):Prop:=
 bif b then (
  K (.int .i64 20) [])
 else (
  bif decide (a.kind=6)then (
   Jr K (qr a.after a.before) a)
  else (
   Jr K false a))
def Y3 (K:Kn) (g:prodL [.sl .atm,.sl .ref,.int .i64,.int .i64,.el .chg]->Prop) (d:List Atm) (e:List Rfn) (f c:Int) (a:Chg):Prop:=
 bif decide (c<f)then (
  At e c fun b=>
 bif decide (b.id.n<0)then (
  Jm K g d e f c true a b)
 else (
  True/\
  bif ZJ b.id then (
   qj1 K g d e f c (decide ((d.length:Int)<=b.id.n)) a b)
  else (
   qj1 K g d e f c false a b)))
 else (
  bif decide (a.kind=2)then (
  kH K (qr a.parent a.file) a)
 else (
  kH K false a))
def qVf (K:Kn) (g:prodL [.sl .atm,.sl .ref,.int .i64,.int .i64,.el .chg]):Prop:=
 qy (γ:=prodL [.sl .atm,.sl .ref,.int .i64,.int .i64,.el .chg]) (fun V y=>Y3 K V y.1 y.2.1 y.2.2.1 y.2.2.2.1 y.2.2.2.2.1) g
def F69 (g:prodL L69) (K:Kn):Prop:=
 qs9.pre (g.1,())/\
 qVf K (g.2.1,jY g.1,(((jY g.1).length:Nat):Int),0,g.1,())
theorem qnz (g:prodL L69) (K X:Kn) (h:F69 g K):FCalls Tryz.prog 69 (argsT S69 L69 g) [] K X:=
 FCalls.settle0 (qw Tryz.func69 Tryz.ntmps69 Tryz.results69 qj (qx qgE (qx qjo (qx qgN (qx qbQ (qx qgG (qx qcw (qx qbM (qx qeD qz)))))))) H69 J69 (by kernel_rfl) (by kernel_rfl) h)
end
section
open Go.RowKit
set_option maxRecDepth 100000
def Qa (own:List Atm) (b:Bool) (r:Rfn):Int:=bif b then 7 else bif (bif ZJ r.id then !(qxS r.fits (own.getD r.id.n.toNat az))else false)then 8 else 0
theorem Zn {K:Kn} {W:prodL [.sl .atm,.sl .ref,.int .i64,.int .i64,.el .chg]->Prop} {own:List Atm} {l:List Rfn} {m n:Int} {b:Bool} {c:Chg} {r:Rfn}
  (hb:b=false->ZJ r.id=true->0<=r.id.n/\r.id.n< (own.length:Int)) (h0:Qa own b r=0->W (own,l,m,IntKind.i64.wrap (n+1),c,())) (h1:Qa own b r≠0->KI K (Qa own b r)):Jm K W own l m n b c r:=by
 unfold Jm;cases b;rotate_left
 . exact h1 (show (7:Int)≠0 by decide)
 refine ⟨trivial, ?_⟩;have hJ: ∀t:Bool,((bif t then (8:Int)else 0)=0->W (own,l,m,IntKind.i64.wrap (n+1),c,()))->((bif t then (8:Int)else 0)≠0->KI K (bif t then 8 else 0))->wv K W own l m n t c:=by
  intro t h0 h1;unfold wv;cases t
  . exact h0 rfl
  . exact h1 (show (8:Int)≠0 by decide)
 unfold Qa at h0 h1;rw [Jaf] at h0 h1;cases e:ZJ r.id
 . rw [e] at h0 h1;exact hJ false h0 h1
 . rw [e] at h0 h1;rw [Jae] at h0 h1 ⊢;obtain ⟨n0,n1⟩:=hb rfl e;have hn:r.id.n.toNat<own.length:=by omega
   rw [Jbq,jU hn] at h0 h1;refine ⟨n0,own[r.id.n.toNat],jU hn, ?_⟩;obtain ⟨id,fits⟩:=r;cases fits with
   | file=>exact ⟨trivial,hJ _ h0 h1⟩
   | data=>exact ⟨trivial,hJ _ h0 h1⟩
   | txt=>exact ⟨trivial,hJ _ h0 h1⟩
   | dir=>exact ⟨trivial,hJ _ h0 h1⟩
   | fin c=>exact ⟨trivial,hJ _ h0 h1⟩
   | sup c=>exact ⟨trivial,hJ _ h0 h1⟩
theorem qyf {c:Chg} {K:Kn} (h:KI K (XX c)):(bif decide (c.kind=2)then kH K (qr c.parent c.file) c else kH K false c):=by
 have h17: ∀b:Bool,KI K (bif b then 1 else 0)->ka K b:=fun b=>by unfold ka;exact qU (K:=KI K) id id
 have h15: ∀b,KI K (XF b c)->Jr K b c:=by
  intro b h;unfold Jr;unfold XF at h;cases b;rotate_left
  . exact h17 true h
  rw [Jaf] at h ⊢;cases e1:decide (c.kind=5)
  . rw [e1] at h;exact h17 false h
  . rw [e1] at h;exact vz (J:=ka K) (f:=fun b:Bool=>bif b then (1:Int)else 0) (K:=KI K) h17 h
 have h18: ∀b,KI K (XK b c)->kH K b c:=by
  intro b h;unfold kH;unfold XK at h;cases b;rotate_left
  . exact h
  exact vz (J:=fun b=>Jr K b c) (f:=fun b=>XF b c) (K:=KI K) h15 h
 exact vz (J:=fun b=>kH K b c) (f:=fun b=>XK b c) (K:=KI K) h18 h
theorem qJ7 {c:Chg} (hl:c.over.length<=4194304):(jY c).length<=4194400:=by
 have hs:(Qx c).length=c.over.length:=by simp [Qx]
 have h17: ∀t out,(qkh c t out).length<=out.length+2+c.over.length:=fun t out=>by
  unfold qkh;cases t<;>simp only [Jae,Jaf,Jak,hs,Jal]<;>omega
 have h12: ∀t out,(qQQ c t out).length<=out.length+3+c.over.length:=fun t out=>by
  unfold qQQ;cases t
  . have:=h17 (bif decide (c.kind=5)then true else decide (c.kind=6)) out;simp only [Jaf,qyK];omega
  . have:=h17 (bif decide (c.kind=5)then true else decide (c.kind=6)) (out++[⟨c.parent,Fd.dir⟩]);simp only [Jae,qyK,Jak,Jal] at this ⊢;omega
 have h25: ∀out,(qxE c out).length<=out.length+3+c.over.length:=fun out=>h12 _ _
 have h7: ∀t,(rL7 c t).length<=4+c.over.length:=fun t=>by
  unfold rL7;cases t
  . have:=h25 [];simp only [Jaf,Ja1] at this ⊢;omega
  . have:=h25 [⟨c.file,Fd.txt⟩];simp only [Jae,Jal] at this ⊢;omega
 have h8: ∀k t,(rL8 c k t).length<=4+c.over.length:=fun k t=>by
  unfold rL8;cases t
  . rw [Jaf];cases decide (k=4)
    . exact h7 _
    . have:=h25 [⟨c.file,Fd.data⟩];simp only [Jae,Jal] at this ⊢;omega
  . have:=h25 [⟨c.file,Fd.file⟩];simp only [Jae,Jal] at this ⊢;omega
 have:=h8 c.kind (bif decide (c.kind=2)then true else decide (c.kind=3))
 unfold jY;omega
theorem qol {c:Chg} {own:List Atm} {K:Kn} (hl:c.over.length<=4194304) (h:KI K (yR c own)):F69 (c,own,()) K:=by
 unfold F69;refine ⟨hl, ?_⟩;have hN:=qJ7 hl;unfold qVf;unfold yR at h;have hlen:((jY c).map (yY own)).length=(jY c).length:=by simp
 refine qy.errs ((jY c).map (yY own)) (fun n=>(own,jY c,(((jY c).length:Nat):Int),(n:Int),c,())) (fun e=>KI K (bif !decide (e=0)then e else XX c)) h rfl (fun W n hn h0 h1=> ?_) fun h W=> ?_
 . rw [hlen] at hn;show Y3 K W own (jY c) (jY c).length n c
   unfold Y3;rw [qu hn,Jae];refine qD hn ?_;simp only [List.getElem_map] at h0 h1;generalize (jY c)[n]=r at h0 h1 ⊢;rw [<- zd hn (by omega)] at h0
   have h1:yY own r≠0->KI K (yY own r):=fun z=>by
    have:=h1 z;rw [Jab z] at this;exact this
   unfold yY at h0 h1;cases e1:decide (r.id.n<0)
   . rw [e1] at h0 h1;rw [Jaf] at h0 h1 ⊢;have hn0:0<=r.id.n:=by have:=Jad e1;omega
     refine ⟨trivial, ?_⟩;have h5: ∀b,(b=false->ZJ r.id=true->r.id.n< (own.length:Int))->(Qa own (bif b then true else decide (100000<=r.id.n)) r=0->W (own,jY c,(((jY c).length:Nat):Int),IntKind.i64.wrap ((n:Int)+1),c,()))->(Qa own (bif b then true else decide (100000<=r.id.n)) r≠0->KI K (Qa own (bif b then true else decide (100000<=r.id.n)) r))->qj1 K W own (jY c) (((jY c).length:Nat):Int) n b c r:=by
      intro b hb h0 h1;unfold qj1;cases b
      . exact Zn (fun _ e=>⟨hn0,hb rfl e⟩) h0 h1
      . exact Zn (fun e=>by cases e) h0 h1
     cases e2:ZJ r.id
     . rw [e2] at h0 h1;refine h5 false (fun _ e=>by rw [e2] at e;cases e) ?_ ?_
       . unfold Qa;rw [e2];exact h0
       . unfold Qa;rw [e2];exact h1
     . rw [e2] at h0 h1;refine h5 _ (fun e _=>by have:=Jad e;omega) ?_ ?_
       . unfold Qa;rw [e2];exact h0
       . unfold Qa;rw [e2];exact h1
   . rw [e1] at h0 h1;exact Zn (fun e=>by cases e) h0 h1
 . rw [hlen];show Y3 K W own (jY c) (jY c).length (jY c).length c
   unfold Y3;rw [qm,Jaf];exact qyf h
def qWE:Sp:=⟨S69,L69,fun g=>g.1.over.length<=4194304,fun g=> .int .i64 (yR g.1 g.2.1),fun _=>none⟩
theorem qg6:qWE.Ok Tryz.prog 69 true:=
 .mk (fun g K X hp h=>qnz g K X (qol hp h))
end
section
open Go.RowKit
attribute [local irreducible] zb qa
set_option maxRecDepth 100000
def H36:List (Nat×Hint):=[(6,⟨[((1,[]),none),((6,[]),none),((6,[0]),some .atm)],[(1,.pt 0 0),(6,.pt 1 0),(20,.leaf),(21,.leaf),(22,.leaf)],[.cells [.leaf,.leaf,.leaf,.leaf,.leaf],.cells [.oa .atm 2],.arr .atm],[.sl .chg,.int .i64,.int .i64,.str,.str,.int .i64,.sl .dig,.sl .chg,.sl .atm]⟩)]
def J36:List (Nat×Hint):=[(20,⟨[((6,[]),none),((6,[0]),none)],[(6,.pt 0 0),(12,.leaf),(58,.leaf)],[.cells [.oa .atm 1],.arr .atm],[.str,.bool,.sl .atm]⟩)]
abbrev S36:List Sh:=[.ag [.leaf,.leaf,.leaf,.leaf,.leaf]]
abbrev L36:List Lf:=[.str,.str,.int .i64,.sl .dig,.sl .chg]
abbrev O36:List ObSh:=[]
def YM (K:Kn) (a:ByteArray) (b:Bool) (c:List Atm):Prop:=
 bif b then (
  K (.tu [.nil,.str (⟨#[]⟩:ByteArray),.int .i64 4]) [])
 else (
  K (.tu [.oa .atm 0 0,.str a,.int .i64 0]) [some (.arr 0 .atm c)])
def Ke (K:Kn) (l:prodL [.sl .chg,.int .i64,.int .i64,.str,.str,.int .i64,.sl .dig,.sl .chg,.sl .atm]->Prop) (i:List Chg) (j h:Int) (c d:ByteArray) (e:Int) (f:List Dig) (g:List Chg) (a:List Atm):Prop:=
 bif decide (h<j)then (
  At i h fun b=>
 qYk.pre (b,())/\
 bif !decide (zD b=0)then (
  K (.tu [.nil,.str (⟨#[]⟩:ByteArray),.int .i64 (zD b)]) [])
 else (
  qWE.pre (b,a,())/\
 bif !decide (yR b a=0)then (
  K (.tu [.nil,.str (⟨#[]⟩:ByteArray),.int .i64 (yR b a)]) [])
 else (
  True/\
 qib ((a.length:Int),b,a,())/\
 l (i,j,IntKind.i64.wrap (h+1),c,d,e,f,g,a++xp b (a.length:Int),()))))
 else (
  qVr.pre (c,d,e,f,g,())/\
 bif !decide ((vQ (zN c d e (za f) g)).2=0)then (
  YM K ((vQ (zN c d e (za f) g)).1) true a)
 else (
  YM K ((vQ (zN c d e (za f) g)).1) (decide (65536< (((vQ (zN c d e (za f) g)).1).size:Int))) a))
def qK8 (K:Kn) (g:prodL [.sl .chg,.int .i64,.int .i64,.str,.str,.int .i64,.sl .dig,.sl .chg,.sl .atm]):Prop:=
 qy (γ:=prodL [.sl .chg,.int .i64,.int .i64,.str,.str,.int .i64,.sl .dig,.sl .chg,.sl .atm]) (fun V y=>Ke K V y.1 y.2.1 y.2.2.1 y.2.2.2.1 y.2.2.2.2.1 y.2.2.2.2.2.1 y.2.2.2.2.2.2.1 y.2.2.2.2.2.2.2.1 y.2.2.2.2.2.2.2.2.1) g
def F36 (g:prodL L36) (K:Kn):Prop:=
 qWy.pre (g.1,g.2.1,g.2.2.1,g.2.2.2.1,g.2.2.2.2.1,())/\
 bif !decide (jW jc g.1 g.2.1 g.2.2.1 g.2.2.2.1 g.2.2.2.2.1=0)then (
  K (.tu [.nil,.str (⟨#[]⟩:ByteArray),.int .i64 (jW jc g.1 g.2.1 g.2.2.1 g.2.2.2.1 g.2.2.2.2.1)]) [])
 else (
  qK8 K (g.2.2.2.2.1,(g.2.2.2.2.1.length:Int),0,g.1,g.2.1,g.2.2.1,g.2.2.2.1,g.2.2.2.2.1,[],()))
theorem qoI (g:prodL L36) (K X:Kn):F36 g K=zb D (vG [(84,qXI)] [(43,false,qfJ),(67,true,qWy),(68,true,qYk),(69,true,qWE),(70,true,qVr)]) (vv [(84,qXI)]) H36 J36 61 [.tmp 2,.tmp 3,.tmp 4] (qO Tryz.f36) (argsT S36 L36 g) (qi S36 O36 L36 g) (settleD (qi S36 O36 L36 g).length 0 K) X 0 1036000:=by kernel_rfl
theorem qoM (g:prodL L36) (K X:Kn) (h:F36 g K):FCalls Tryz.prog 36 (argsT S36 L36 g) (qi S36 O36 L36 g) K X 0:=
 FCalls.settleD (Zl (Γ:=vG [(84,qXI)] [(43,false,qfJ),(67,true,qWy),(68,true,qYk),(69,true,qWE),(70,true,qVr)]) (mu:=vv [(84,qXI)]) (H:=H36) (J:=J36) V7 (yz (rs:=[(84,qXI)]) (l:=[(43,false,qfJ),(67,true,qWy),(68,true,qYk),(69,true,qWE),(70,true,qVr)]) (by intro p hp;simp only [Jbf,Jb4,or_false] at hp;subst hp;exact qeX) (by intro p hp;simp only [Jbf,Jb4,or_false] at hp;rcases hp with rfl | rfl | rfl | rfl | rfl<;>first | exact qbh | exact qgZ | exact qbe | exact qg6 | exact qfs)) we rfl Tryz.func36 (c:=qO Tryz.f36) rfl Tryz.ntmps36 (rs:=[.tmp 2,.tmp 3,.tmp 4]) Tryz.results36 (by unfold vT;rw [Tryz.func36];kernel_rfl) (Jag (by kernel_rfl)) (X:=X) (c0:=0) (Eq.mp (qoI g K X) h) (VC [16] (by kernel_rfl) (by kernel_rfl)))
def H73:List (Nat×Hint):=[(3,⟨[((4,[]),some .atm)],[(0,.leaf),(4,.oa .atm 0),(5,.leaf)],[.arr .atm],[.sl .chg,.int .i64,.sl .atm]⟩)]
abbrev S73:List Sh:=[.leaf]
abbrev L73:List Lf:=[.sl .chg]
def Km (K:Kn) (g:prodL [.sl .chg,.int .i64,.sl .atm]->Prop) (b:List Chg) (c:Int) (a:List Atm):Prop:=
 bif decide (c< (b.length:Int))then (
  At b c fun d=>
 qid.pre (d,())/\
 bif !decide (xY d=0)then (
  K (.tu [.nil,.int .i64 (xY d)]) [])
 else (
  At b c fun e=>
 qh3.pre (e,a,())/\
 bif !decide (Zb e a=0)then (
  K (.tu [.nil,.int .i64 (Zb e a)]) [])
 else (
  At b c fun f=>
 qiD.pre (f,(a.length:Int),())/\
 ql (a.length+(xp f (a.length:Int)).length) 296 (
 g (b,IntKind.i64.wrap (c+1),a++(xp f (a.length:Int)),())))))
 else (
  K (.tu [.sl false .atm a,.int .i64 0]) [])
def qY5 (K:Kn) (g:prodL [.sl .chg,.int .i64,.sl .atm]):Prop:=
 qy (γ:=prodL [.sl .chg,.int .i64,.sl .atm]) (fun V y=>Km K V y.1 y.2.1 y.2.2.1) g
def F73 (g:prodL L73) (K:Kn):Prop:=
 qY5 K (g.1,0,[],())
theorem qlk (g:prodL L73) (K X:Kn) (h:F73 g K):FCalls Tryz.prog 73 (argsT S73 L73 g) [] K X:=
 FCalls.settle0 (qw Tryz.func73 Tryz.ntmps73 Tryz.results73 qj (qx qYb (qx qKc (qx qVY qz))) H73 [] (by kernel_rfl) (by kernel_rfl) h)
end
section
open Go.RowKit
set_option maxRecDepth 100000
def virtU (e0:El) (K:Kn):Kn:=fun r s=>match r with
 | .tu (.nil::us)=>K (.tu (.oa e0 s.length 0::us)) (jI s e0)
 | r=>K r s
theorem FCalls.virtU {P:Program} {f:FuncId} {vs:List T} {K X:Kn} {e0:El} (h:FCalls P f vs [] (virtU e0 K) X):FCalls P f vs [] K X:=by
 refine fun g w hg=>(h g w hg).mono fun e w' ⟨g',st',h1,h2,h3⟩=> ?_
 cases e with
 | returned x=>
  obtain ⟨r,r1,r2⟩:=h3;unfold Go.Proofs.YtbglndogddddoaaGreatDoor.virtU at r1;split at r1
  . rename_i us;obtain ⟨g2,k1,k2,k3,k4⟩:=XM h1 e0;refine ⟨g2,_,k1,h2.trans (k3 _),_,r1, ?_⟩;cases r2 with
    | tu _ xs a1 a2=>
     refine .tu _ xs (by simpa using a1) fun i c x hc hx=> ?_
     cases i with
     | zero=>
      simp only [Jbh,Jah] at hc;subst hc;exact k4 _ (a2 0 .nil x rfl hx)
     | succ i=>exact (a2 (i+1) c x hc hx).mono k2
  . exact ⟨g',st',h1,h2,_,r1,r2⟩
 | panicked ch=>exact ⟨g',st',h1,h2,h3⟩
 | outgrown=>exact h3.elim
theorem xV {K:Kn} {e:El} {v:T} {s:St} (h:K (.tu [.sl false e [],v]) s):zI K (.tu [.nil,v]) s:=
 ⟨_,zl.tu (qA.cons (zl.nil e) (qA.cons (zl.refl _) qA.nil)),h⟩
def ZY (cs:List Chg) (n:Nat):List Atm:=(cs.take n).foldl (fun own c=>own++xp c own.length) []
theorem Zp {cs:List Chg} {n:Nat} (h:n<cs.length):ZY cs (n+1)=ZY cs n++xp cs[n] (ZY cs n).length:=by
 unfold ZY;rw [vW h,List.foldl_append];rfl
theorem qy.chgs {γ:Type} {body:(γ->Prop)->γ->Prop} {g:γ} (f:Chg->Int) (r:Chg->List Atm->Int) (cs:List Chg) (S:Nat->List Atm->γ) (Q:List Atm×Int->Prop) (hQ:Q (xC f r cs [])) (hg:g=S 0 [])
  (hk: ∀c,f c=0->zR c) (hb:(cs.map zQ).sum<=4194304)
  (step: ∀(W:γ->Prop) (n:Nat) (h:n<cs.length) (own:List Atm),own.length<=8388608->(f cs[n]≠0->Q ([],f cs[n]))->(f cs[n]=0->r cs[n] own≠0->Q ([],r cs[n] own))->(f cs[n]=0->r cs[n] own=0->W (S (n+1) (own++xp cs[n] own.length)))->body W (S n own))
  (last: ∀(W:γ->Prop) (own:List Atm),(∀c∈cs,zR c)->Q (own,0)->body W (S cs.length own)):qy body g:=by
 have sums: ∀n,((cs.take n).map zQ).sum<=(cs.map zQ).sum:=fun n=>by
  have e:(cs.map zQ).sum=((cs.take n).map zQ).sum+((cs.drop n).map zQ).sum:=by
   rw [<- List.sum_append, <- Jcj,Jcn]
  omega
 refine qy.countTo cs.length (fun n=>S n (ZY cs n)) (fun n=>(ZY cs n).length<=2*((cs.take n).map zQ).sum/\(∀c∈cs.take n,zR c)/\Q (xC f r (cs.drop n) (ZY cs n))) hg (fun n hn hp W hW=> ?_) ⟨by simp [ZY],fun c hc=>by simp at hc,by simpa [ZY] using hQ⟩
 obtain ⟨p1,p2,p3⟩:=hp;have hs:=sums n;by_cases hlt:n<cs.length
 . rw [Jb1 hlt,xC] at p3;refine step W n hlt _ (by omega) (fun z=> ?_) (fun z y=> ?_) fun z y=> ?_
   . rw [Jab z] at p3;exact p3
   . rw [Jaa z,Jab y] at p3;exact p3
   . rw [Jaa z,Jaa y] at p3;rw [<- Zp hlt];refine hW hlt ⟨?_,fun c hc=> ?_, ?_⟩
     . rw [Zp hlt,vW hlt,Jcj,List.sum_append,Jak];have:=K6 (n:=((ZY cs n).length:Int)) (hk _ z);simp only [List.map_cons,List.map_nil,Jcc,List.sum_nil];omega
     . rw [vW hlt] at hc;rcases Jbr.1 hc with hc | hc
       . exact p2 c hc
       . rw [List.mem_singleton.1 hc];exact hk _ z
     . rw [Zp hlt];exact p3
 . have:n=cs.length:=by omega
   subst this;rw [List.drop_length] at p3;rw [List.take_length] at p2;exact last W _ p2 p3
abbrev K3 (K:Kn):List Atm×ByteArray×Int->Prop:=fun x=>K (.tu [.oa .atm 0 0,.str x.2.1,.int .i64 x.2.2]) [some (.arr 0 .atm x.1)]
theorem qow {a m:ByteArray} {t:Int} {ds:List Dig} {cs:List Chg} {K:Kn} (hp:xP a m t ds cs) (h:K3 K (j7 a m t ds cs)):F36 (a,m,t,ds,cs,()) (virtU .atm K):=by
 obtain ⟨h1,h2,h3,h4,h5,h6⟩:=hp;have hl:=XL h5;unfold F36;unfold j7 at h;refine ⟨Jau h2 (by omega), ?_⟩
 show bif !decide (jW jc a m t ds cs=0)then _ else _
 by_cases z:jW jc a m t ds cs=0
 rotate_left
 . rw [Jab z] at h ⊢;exact h
 rw [Jaa z] at h ⊢;rw [Jap,Jaf] at h ⊢;unfold qK8;refine qy.chgs zD yR cs (fun n own=>(cs,(cs.length:Int),(n:Int),a,m,t,ds,cs,own,())) (fun r=>K3 K (Jg r (vQ (zN a m t (za ds) cs)))) h rfl (fun c=>jx) h5 (fun W n hn own ho e1 e2 e3=> ?_) fun W own hk h=> ?_
 . show Ke (virtU .atm K) W cs cs.length n a m t ds cs own
   unfold Ke;rw [qu hn,Jae];have hc:=Jv h5 (Jba hn);have hpp:=zA hc;refine qD hn ⟨hc, ?_⟩;by_cases y:zD cs[n]=0
   rotate_left
   . have e1:=e1 y;unfold Jg at e1;rw [Jab y] at e1 ⊢;exact e1
   rw [Jaa y,Jap,Jaf];refine ⟨hpp.2.2.2.2, ?_⟩;by_cases x:yR cs[n] own=0
   rotate_left
   . have e2:=e2 y x;unfold Jg at e2;rw [Jab x] at e2 ⊢;exact e2
   rw [Jaa x,Jap,Jaf];refine ⟨trivial,⟨⟨jx y,hpp.2.2.1,by omega,by show (own.length:Int)<=_;omega⟩,by show own.length<=_;omega⟩, ?_⟩
   rw [zd hn (by omega)]
   exact e3 y x
 . show Ke (virtU .atm K) W cs cs.length cs.length a m t ds cs own
   unfold Ke;rw [qm,Jaf];refine ⟨⟨h1,h2,h3,h4,h5,fun c hc=>⟨h6 c hc,hk c hc⟩⟩, ?_⟩
   have hJ: ∀b,K3 K (qxU own (vQ (zN a m t (za ds) cs)).1 b)->YM (virtU .atm K) (vQ (zN a m t (za ds) cs)).1 b own:=by
    intro b h;unfold YM;cases b
    . exact h
    . exact h
   exact vz (J:=fun b=>YM (virtU .atm K) (vQ (zN a m t (za ds) cs)).1 b own) (f:=fun b=>qxU own (vQ (zN a m t (za ds) cs)).1 b) (K:=K3 K) hJ h
def qcy:Sp:=⟨S36,L36,fun g=>xP g.1 g.2.1 g.2.2.1 g.2.2.2.1 g.2.2.2.2.1,fun g=> .tu [.oa .atm 0 0,.str (j7 g.1 g.2.1 g.2.2.1 g.2.2.2.1 g.2.2.2.2.1).2.1,.int .i64 (j7 g.1 g.2.1 g.2.2.1 g.2.2.2.1 g.2.2.2.2.1).2.2],fun g=>some (.arr 0 .atm (j7 g.1 g.2.1 g.2.2.1 g.2.2.2.1 g.2.2.2.2.1).1)⟩
theorem qQM:qcy.Ok Tryz.prog 36 false:=
 .mk (fun g K X hp h=>FCalls.virtU (e0:= .atm) (qoM g (virtU .atm K) X (qow hp h)))
abbrev K2 (K:Kn):List Atm×Int->Prop:=fun x=>K (.tu [.sl false .atm x.1,.int .i64 x.2]) []
theorem qne {cs:List Chg} {K:Kn} (h5:(cs.map zQ).sum<=4194304) (h:K2 K (Qu cs)):F73 (cs,()) (zI K):=by
 have hl:=XL h5;unfold F73 qY5;refine qy.chgs xY Zb cs (fun n own=>(cs,(n:Int),own,())) (K2 K) h rfl (fun c=>xc) h5 (fun W n hn own ho e1 e2 e3=> ?_) fun W own hk h=> ?_
 . show Km (zI K) W cs n own
   unfold Km;rw [qu hn,Jae];have hc:=Jv h5 (Jba hn);have hpp:=zA hc;refine qD hn ⟨hc, ?_⟩;by_cases y:xY cs[n]=0
   rotate_left
   . have e1:=e1 y;rw [Jab y];exact xV e1
   rw [Jaa y,Jap,Jaf];refine qD hn ⟨hc, ?_⟩;by_cases x:Zb cs[n] own=0
   rotate_left
   . have e2:=e2 y x;rw [Jab x];exact xV e2
   rw [Jaa x,Jap,Jaf];have hm:=K6 (n:=(own.length:Int)) (xc y);have hc':zQ cs[n]<=4194304:=hc;refine qD hn ⟨⟨xc y,hpp.2.2.1,Int.natCast_nonneg _,by show (own.length:Int)<=_;omega⟩,by omega, ?_⟩
   rw [zd hn (by omega)]
   exact e3 y x
 . show Km (zI K) W cs cs.length own
   unfold Km;rw [qm,Jaf];exact zI.same h
def qrq:Sp:=⟨S73,L73,fun g=>(g.1.map zQ).sum<=4194304,fun g=> .tu [.sl false .atm (Qu g.1).1,.int .i64 (Qu g.1).2],fun _=>none⟩
theorem qgr:qrq.Ok Tryz.prog 73 false:=
 .mk (fun g K X hp h=>FCalls.weak (qlk g (zI K) X (qne hp h)))
set_option maxRecDepth 100000
def kw (a m:ByteArray) (t:Int) (ds:List Dig) (cs:List Chg):ByteArray×Int:=bif !decide ((XU a m t ds cs).2=0)then (⟨#[]⟩,(XU a m t ds cs).2)else qx4 a m t ds cs
theorem YC {f:Chg->Int} {r:Chg->List Atm->Int}: ∀{cs:List Chg} {own:List Atm},(xC f r cs own).2=0-> ∀c∈cs,f c=0
 | [],_,_=>fun c hc=>by cases hc
 | c::l,own,h=>by
  rw [xC] at h;by_cases z:f c=0
  . rw [Jaa z,Jap,Jaf] at h;by_cases y:r c own=0
    . rw [Jaa y,Jap,Jaf] at h;intro d hd;rcases Jbf.1 hd with rfl | hd
      . exact z
      . exact YC h d hd
    . rw [Jab y] at h;exact absurd h y
  . rw [Jab z] at h;exact absurd h z
theorem qxf {a m:ByteArray} {t:Int} {ds:List Dig} {cs:List Chg} (h:(j7 a m t ds cs).2.2=0):jW jc a m t ds cs=0/\(ZX cs).2=0/\(vQ (zN a m t (za ds) cs)).2=0/\((vQ (zN a m t (za ds) cs)).1.size:Int)<=65536:=by
 unfold j7 at h;by_cases z:jW jc a m t ds cs=0
 rotate_left
 . rw [Jab z] at h;exact absurd h z
 rw [Jaa z,Jap,Jaf] at h;unfold Jg at h;by_cases y:(ZX cs).2=0
 rotate_left
 . rw [Jab y] at h;exact absurd h y
 rw [Jaa y,Jap,Jaf] at h;unfold qxU at h;by_cases x:(vQ (zN a m t (za ds) cs)).2=0
 rotate_left
 . rw [Jab x] at h;exact absurd h (show (4:Int)≠0 by decide)
 rw [Jaa x,Jap,Jaf] at h;by_cases w:65536< ((vQ (zN a m t (za ds) cs)).1.size:Int)
 . rw [Jaa w] at h;exact absurd h (show (4:Int)≠0 by decide)
 . exact ⟨z,y,x,by omega⟩
theorem qWu {a m:ByteArray} {t:Int} {ds:List Dig} {cs:List Chg} (h:(j7 a m t ds cs).2.2=0):j7 a m t ds cs=((ZX cs).1,(vQ (zN a m t (za ds) cs)).1,0):=by
 obtain ⟨h1,h2,h3,h4⟩:=qxf h;unfold j7 Jg qxU;rw [Jaa h1,Jaa h2,Jaa h3,Jab (show¬65536< ((vQ (zN a m t (za ds) cs)).1.size:Int)by omega)]
 rfl
theorem qbX {a m:ByteArray} {t:Int} {ds:List Dig} {cs:List Chg} (h:(XU a m t ds cs).2=0):jW xQ a m t ds cs=0/\(Qu cs).2=0:=by
 unfold XU at h;by_cases z:jW xQ a m t ds cs=0
 . rw [Jaa z,Jap,Jaf] at h;exact ⟨z,h⟩
 . rw [Jab z] at h;exact absurd h z
end
section
open Go.RowKit
attribute [local irreducible] zb qa
set_option maxRecDepth 100000
def J37:List (Nat×Hint):=[(6,⟨[((1,[]),none)],[(1,.pt 0 0),(20,.leaf)],[.cells [.leaf,.leaf,.leaf,.leaf,.leaf]],[.bool,.str,.str,.int .i64,.sl .dig,.sl .chg]⟩)]
abbrev S37:List Sh:=[.ag [.leaf,.leaf,.leaf,.leaf,.leaf]]
abbrev L37:List Lf:=[.str,.str,.int .i64,.sl .dig,.sl .chg]
def qql (K:Kn) (c:Bool) (d e:ByteArray) (f:Int) (b:List Dig) (a:List Chg):Prop:=
 bif c then (
  K (.tu [.nil,.int .i64 2]) [])
 else (
  True/\
 bif !decide (jB xQ b=0)then (
  K (.tu [.nil,.int .i64 (jB xQ b)]) [])
 else (
  bif decide ((a.length:Int)=0)then (
  K (.tu [.nil,.int .i64 1]) [])
 else (
  bif decide (400< (a.length:Int))then (
  K (.tu [.nil,.int .i64 4]) [])
 else (
  qrq.pre (a,())/\
 K (.tu [.sl false .atm ((Qu a).1),.int .i64 ((Qu a).2)]) []))))
def F37 (g:prodL L37) (K:Kn):Prop:=
 qor.pre (g.1,())/\
 bif !(xZ g.1)then (
  K (.tu [.nil,.int .i64 5]) [])
 else (
  bif decide (1000< (g.2.1.size:Int))then (
  K (.tu [.nil,.int .i64 4]) [])
 else (
  bif decide (g.2.2.1<0)then (
  qql K true g.1 g.2.1 g.2.2.1 g.2.2.2.1 g.2.2.2.2.1)
 else (
  qql K (decide (1099511627776<g.2.2.1)) g.1 g.2.1 g.2.2.1 g.2.2.2.1 g.2.2.2.2.1)))
theorem qno (g:prodL L37) (K X:Kn) (h:F37 g K):FCalls Tryz.prog 37 (argsT S37 L37 g) [] K X:=
 FCalls.settle0 (qw Tryz.func37 Tryz.ntmps37 Tryz.results37 qj (qx qZn (qx qg9 (qx qgr qz))) [] J37 (by kernel_rfl) (by kernel_rfl) h)
abbrev S13:List Sh:=[.ag [.leaf,.leaf,.leaf,.leaf,.leaf]]
abbrev L13:List Lf:=[.str,.str,.int .i64,.sl .dig,.sl .chg]
def F13 (g:prodL L13) (K:Kn):Prop:=
 qcy.pre (g.1,g.2.1,g.2.2.1,g.2.2.2.1,g.2.2.2.2.1,())/\
 K (.tu [.str ((j7 g.1 g.2.1 g.2.2.1 g.2.2.2.1 g.2.2.2.2.1).2.1),.int .i64 ((j7 g.1 g.2.1 g.2.2.1 g.2.2.2.1 g.2.2.2.2.1).2.2)]) []
theorem qlS (g:prodL L13) (K X:Kn) (h:F13 g K):FCalls Tryz.prog 13 (argsT S13 L13 g) [] K X:=
 FCalls.settle0 (qw Tryz.func13 Tryz.ntmps13 Tryz.results13 qj (qx qQM qz) [] [] (by kernel_rfl) (by kernel_rfl) h)
def qdi:Sp:=⟨S13,L13,fun g=>qcy.pre g,fun g=> .tu [.str ((j7 g.1 g.2.1 g.2.2.1 g.2.2.2.1 g.2.2.2.2.1).2.1),.int .i64 ((j7 g.1 g.2.1 g.2.2.1 g.2.2.2.1 g.2.2.2.2.1).2.2)],fun _=>none⟩
theorem qjk:qdi.Ok Tryz.prog 13 true:=
 .mk (fun g K X hp h=>qlS g K X (by
  have h:K (.tu [.str ((j7 g.1 g.2.1 g.2.2.1 g.2.2.2.1 g.2.2.2.2.1).2.1),.int .i64 ((j7 g.1 g.2.1 g.2.2.1 g.2.2.2.1 g.2.2.2.2.1).2.2)]) []:=h;exact ⟨hp,h⟩))
end
section
open Go.RowKit
set_option maxRecDepth 100000
theorem qn2 {a m:ByteArray} {t:Int} {ds:List Dig} {cs:List Chg} {K:Kn} (hp:xP a m t ds cs) (h:K2 K (XU a m t ds cs)):F37 (a,m,t,ds,cs,()) (zI K):=by
 obtain ⟨h1,h2,h3,h4,h5,h6⟩:=hp;unfold F37;unfold XU jW at h;refine ⟨Jau h2 (by omega), ?_⟩
 show bif !(xZ a)then _ else _
 cases c1:xZ a
 . rw [c1] at h;exact xV h
 rw [c1] at h;rw [Jap,Jaf] at h ⊢;cases c2:decide (1000< (m.size:Int));rotate_left
 . rw [c2] at h;exact xV h
 rw [c2] at h;rw [Jaf] at h ⊢;have hJ: ∀b,K2 K (bif !decide ((bif b then 2 else bif !decide (jB xQ ds=0)then jB xQ ds else bif decide ((cs.length:Int)=0)then 1 else bif decide (400< (cs.length:Int))then 4 else 0)=0)then ([],bif b then 2 else bif !decide (jB xQ ds=0)then jB xQ ds else bif decide ((cs.length:Int)=0)then 1 else bif decide (400< (cs.length:Int))then 4 else 0)else Qu cs)->qql (zI K) b a m t ds cs:=by
  intro b h;unfold qql;cases b;rotate_left
  . exact xV h
  rw [Jaf] at h ⊢;refine ⟨trivial, ?_⟩;by_cases z:jB xQ ds=0
  rotate_left
  . rw [Jab z] at h ⊢;rw [Ja4,Jae,Jab z] at h;exact xV h
  rw [Jaa z] at h ⊢;rw [Jap,Jaf] at h ⊢;cases c3:decide ((cs.length:Int)=0);rotate_left
  . rw [c3] at h;exact xV h
  rw [c3] at h;rw [Jaf] at h ⊢;cases c4:decide (400< (cs.length:Int));rotate_left
  . rw [c4] at h;exact xV h
  rw [c4] at h;exact ⟨h5,zI.same h⟩
 exact vz (J:=fun b=>qql (zI K) b a m t ds cs) (f:=fun b=>bif !decide ((bif b then 2 else bif !decide (jB xQ ds=0)then jB xQ ds else bif decide ((cs.length:Int)=0)then 1 else bif decide (400< (cs.length:Int))then 4 else 0)=0)then ([],bif b then 2 else bif !decide (jB xQ ds=0)then jB xQ ds else bif decide ((cs.length:Int)=0)then 1 else bif decide (400< (cs.length:Int))then 4 else 0)else Qu cs) (K:=K2 K) hJ h
def qsl:Sp:=⟨S37,L37,fun g=>xP g.1 g.2.1 g.2.2.1 g.2.2.2.1 g.2.2.2.2.1,fun g=> .tu [.sl false .atm (XU g.1 g.2.1 g.2.2.1 g.2.2.2.1 g.2.2.2.2.1).1,.int .i64 (XU g.1 g.2.1 g.2.2.1 g.2.2.2.1 g.2.2.2.2.1).2],fun _=>none⟩
theorem qen:qsl.Ok Tryz.prog 37 false:=
 .mk (fun g K X hp h=>FCalls.weak (qno g (zI K) X (qn2 hp h)))
end
section
open Go.RowKit
attribute [local irreducible] zb qa
set_option maxRecDepth 100000
abbrev S14:List Sh:=[.ag [.leaf,.leaf,.leaf,.leaf,.leaf]]
abbrev L14:List Lf:=[.str,.str,.int .i64,.sl .dig,.sl .chg]
def F14 (g:prodL L14) (K:Kn):Prop:=
 qsl.pre (g.1,g.2.1,g.2.2.1,g.2.2.2.1,g.2.2.2.2.1,())/\
 bif !decide ((XU g.1 g.2.1 g.2.2.1 g.2.2.2.1 g.2.2.2.2.1).2=0)then (
  K (.tu [.str (⟨#[]⟩:ByteArray),.int .i64 ((XU g.1 g.2.1 g.2.2.1 g.2.2.2.1 g.2.2.2.2.1).2)]) [])
 else (
  qup.pre (g.1,g.2.1,g.2.2.1,g.2.2.2.1,g.2.2.2.2.1,())/\
 K (.tu [.str ((qx4 g.1 g.2.1 g.2.2.1 g.2.2.2.1 g.2.2.2.2.1).1),.int .i64 ((qx4 g.1 g.2.1 g.2.2.1 g.2.2.2.1 g.2.2.2.2.1).2)]) [])
theorem qmv (g:prodL L14) (K X:Kn) (h:F14 g K):FCalls Tryz.prog 14 (argsT S14 L14 g) [] K X:=
 FCalls.settle0 (qw Tryz.func14 Tryz.ntmps14 Tryz.results14 qj (qx qen (qx qfZ qz)) [] [] (by kernel_rfl) (by kernel_rfl) h)
end
section
open Go.RowKit
set_option maxRecDepth 100000
abbrev KE (K:Kn):ByteArray×Int->Prop:=fun r=>K (.tu [.str r.1,.int .i64 r.2]) []
theorem qmQ {a m:ByteArray} {t:Int} {ds:List Dig} {cs:List Chg} {K:Kn} (hp:xP a m t ds cs) (h:KE K (kw a m t ds cs)):F14 (a,m,t,ds,cs,()) K:=by
 unfold F14;unfold kw at h;refine ⟨hp, ?_⟩;show bif !decide ((XU a m t ds cs).2=0)then _ else _
 by_cases z:(XU a m t ds cs).2=0
 . rw [Jaa z] at h ⊢;obtain ⟨h1,h2,h3,h4,h5,h6⟩:=hp;exact ⟨⟨h1,h2,h3,h4,h5,fun c hc=>⟨h6 c hc,xc (YC (qbX z).2 c hc)⟩⟩,h⟩
 . rw [Jab z] at h ⊢;exact h
def quv:Sp:=⟨S14,L14,fun g=>xP g.1 g.2.1 g.2.2.1 g.2.2.2.1 g.2.2.2.2.1,fun g=> .tu [.str (kw g.1 g.2.1 g.2.2.1 g.2.2.2.1 g.2.2.2.2.1).1,.int .i64 (kw g.1 g.2.1 g.2.2.1 g.2.2.2.1 g.2.2.2.2.1).2],fun _=>none⟩
theorem qdQ:quv.Ok Tryz.prog 14 true:=
 .mk (fun g K X hp h=>qmv g K X (qmQ hp h))
end
section
open Go.RowKit
attribute [local irreducible] zb qa
set_option maxRecDepth 100000
end
section
open Go.RowKit
set_option maxRecDepth 100000
set_option maxRecDepth 100000
def qft (x k:Int):Int:=qb .or .u32 (IntKind.u32.wrap (x*2^(min (qb .and .u64 (IntKind.u64.wrap k) 31).toNat IntKind.u32.bits))) (Int.fdiv x (2^(min (IntKind.u64.wrap (32- (qb .and .u64 (IntKind.u64.wrap k) 31))).toNat IntKind.u32.bits)))
def vC (x n:Int):Int:=qft x (IntKind.i64.wrap (0-n))
def kL:List Int:=[1116352408,1899447441,3049323471,3921009573,961987163,1508970993,2453635748,2870763221,3624381080,310598401,607225278,1426881987,1925078388,2162078206,2614888103,3248222580,3835390401,4022224774,264347078,604807628,770255983,1249150122,1555081692,1996064986,2554220882,2821834349,2952996808,3210313671,3336571891,3584528711,113926993,338241895,666307205,773529912,1294757372,1396182291,1695183700,1986661051,2177026350,2456956037,2730485921,2820302411,3259730800,3345764771,3516065817,3600352804,4094571909,275423344,430227734,506948616,659060556,883997877,958139571,1322822218,1537002063,1747873779,1955562222,2024104815,2227730452,2361852424,2428436474,2756734187,3204031479,3329325298]
theorem qaX (n:Int):0<=IntKind.u64.wrap n:=by
 simp only [IntKind.wrap,IntKind.bits,IntKind.signed,Bool.false_and,Ja5,if_false];omega
theorem qpz (a b:Int):0<=qb .and .u64 a b:=qaX _
def orB (x c:Int):Int:=qb .or .u32 (IntKind.u32.wrap (x*2^(min (8:Int).toNat IntKind.u32.bits))) (IntKind.u32.wrap c)
def Jz (b:ByteArray) (t:Nat):List Int:=zp (b.extract (4*t) (4*t+4))
def sg1 (x:Int):Int:=qb .xor .u32 (qb .xor .u32 (vC x 17) (vC x 19)) (Int.fdiv x (2^(min (10:Int).toNat IntKind.u32.bits)))
def sg0 (x:Int):Int:=qb .xor .u32 (qb .xor .u32 (vC x 7) (vC x 18)) (Int.fdiv x (2^(min (3:Int).toNat IntKind.u32.bits)))
def qpK (w:List Int) (t:Nat):Int:=IntKind.u32.wrap (IntKind.u32.wrap (IntKind.u32.wrap (sg1 (w.getD (t-2) 0)+w.getD (t-7) 0)+sg0 (w.getD (t-15) 0))+w.getD (t-16) 0)
def qJi (b:ByteArray) (w:List Int) (t:Nat):List Int:=if t<16 then w.set t ((Jz b t).foldl orB (w.getD t 0))else w.set t (qpK w t)
def zL:List Int:=List.replicate 64 0
def wAt (b:ByteArray) (n:Nat):List Int:=(List.range n).foldl (qJi b) zL
def qx2 (b:ByteArray):List Int:=wAt b 64
theorem qVe (b:ByteArray) (w:List Int) (t:Nat):(qJi b w t).length=w.length:=by
 unfold qJi;split<;>simp
theorem qx5 (b:ByteArray) (n:Nat):wAt b (n+1)=qJi b (wAt b n) n:=by
 unfold wAt;rw [List.range_succ,List.foldl_append];rfl
theorem qxs (b:ByteArray): ∀n,(wAt b n).length=64
 | 0=>by simp [wAt,zL]
 | n+1=>by rw [qx5,qVe,qxs b n]
def YT (w:List Int) (t:Nat) (e f g h:Int):Int:=IntKind.u32.wrap (IntKind.u32.wrap (IntKind.u32.wrap (IntKind.u32.wrap (h+(qb .xor .u32 (qb .xor .u32 (vC e 6) (vC e 11)) (vC e 25)))+(qb .xor .u32 (qb .and .u32 e f) (qb .and .u32 (qb .xor .u32 IntKind.u32.max e) g)))+kL.getD t 0)+w.getD t 0)
def qQU (a b c:Int):Int:=IntKind.u32.wrap ((qb .xor .u32 (qb .xor .u32 (vC a 2) (vC a 13)) (vC a 22))+(qb .xor .u32 (qb .xor .u32 (qb .and .u32 a b) (qb .and .u32 a c)) (qb .and .u32 b c)))
def rnd (w:List Int) (v:List Int) (t:Nat):List Int:=match v with
 | [a,b,c,d,e,f,g,h]=>[IntKind.u32.wrap (YT w t e f g h+qQU a b c),a,b,c,IntKind.u32.wrap (d+YT w t e f g h),e,f,g]
 | v=>v
def vAt (w s:List Int) (n:Nat):List Int:=(List.range n).foldl (rnd w) s
def Yx (s v:List Int):List Int:=List.zipWith (fun x y=>IntKind.u32.wrap (x+y)) s v
def qB (s:List Int) (b:ByteArray):List Int:=Yx s (vAt (qx2 b) s 64)
theorem qvo {v:List Int} (h:v.length=8): ∃a b c d e f g k,v=[a,b,c,d,e,f,g,k]:=by
 match v,h with
 | [a,b,c,d,e,f,g,k],_=>exact ⟨a,b,c,d,e,f,g,k,rfl⟩
theorem qdF (w:List Int) {v:List Int} (t:Nat) (h:v.length=8):(rnd w v t).length=8:=by
 obtain ⟨a,b,c,d,e,f,g,k,rfl⟩:=qvo h;rfl
theorem qyX (w s:List Int) (n:Nat):vAt w s (n+1)=rnd w (vAt w s n) n:=by
 unfold vAt;rw [List.range_succ,List.foldl_append];rfl
theorem qxV (w:List Int) {s:List Int} (h:s.length=8): ∀n,(vAt w s n).length=8
 | 0=>h
 | n+1=>by rw [qyX];exact qdF w n (qxV w h n)
theorem qXr {s:List Int} (h:s.length=8) (b:ByteArray):(qB s b).length=8:=by
 unfold qB Yx;rw [List.length_zipWith,qxV _ h,h];rfl
def qyT (n:Nat):Nat:=(120-n%64)%64
def qrM (s:ByteArray) (i:Nat):Int:=IntKind.u8.wrap (Int.fdiv (IntKind.u64.wrap ((IntKind.u64.wrap (s.size:Int))*8)) (2^(min (56-8*(i:Int)).toNat IntKind.u64.bits)))
def V2 (s:ByteArray):List Int:=zp (s.extract (s.size / 64*64) s.size)++[128]
def qvN (s:ByteArray):List Int:=V2 s++List.replicate (qyT (V2 s).length) 0
def Ku (s:ByteArray):List Int:=qvN s++(List.range 8).map (qrM s)
def qpj (s:ByteArray) (i:Nat):ByteArray:=s.extract (64*i) (64*i+64)
def kg (l:List Int) (i:Nat):ByteArray:=xk ((l.drop (64*i)).take 64)
def VU (s:ByteArray):List ByteArray:=(List.range (s.size / 64)).map (qpj s)
def qBU (s:ByteArray):List ByteArray:=(List.range ((Ku s).length / 64)).map (kg (Ku s))
def zH (st:List Int) (s:ByteArray):List Int:=(VU s++qBU s).foldl qB st
def qKI (g:prodL [.pr .str,.int .u32,.int .u32,.int .u32,.int .u32,.int .u32,.int .u32,.int .u32,.int .u32]):Prop:=g.1.size<=4194304
def st0:List Int:=[1779033703,3144134277,1013904242,2773480762,1359893119,2600822924,528734635,1541459225]
def zP (v:List Int) (i j:Nat):Int:=IntKind.u8.wrap (Int.fdiv (v.getD i 0) (2^(min ((24:Int) - 8*j).toNat IntKind.u32.bits)))
def qpB (v:List Int):Dig:=⟨zP v 0 0,zP v 0 1,zP v 0 2,zP v 0 3,zP v 1 0,zP v 1 1,zP v 1 2,zP v 1 3,zP v 2 0,zP v 2 1,zP v 2 2,zP v 2 3,zP v 3 0,zP v 3 1,zP v 3 2,zP v 3 3,zP v 4 0,zP v 4 1,zP v 4 2,zP v 4 3,zP v 5 0,zP v 5 1,zP v 5 2,zP v 5 3,zP v 6 0,zP v 6 1,zP v 6 2,zP v 6 3,zP v 7 0,zP v 7 1,zP v 7 2,zP v 7 3⟩
def qqF (s:ByteArray):Dig:=qpB (zH st0 s)
theorem qJ3 {l:List ByteArray}: ∀{st:List Int},st.length=8->(l.foldl qB st).length=8:=by
 induction l with
 | nil=>intro st h;exact h
 | cons b l ih=>intro st h;exact ih (qXr h b)
end
section
open Go.RowKit
attribute [local irreducible] zb qa
set_option maxRecDepth 100000
abbrev qso:List Sh:=[.leaf,.leaf]
abbrev qcg:List Lf:=[.int .u32,.int .i64]
def qAP (g:prodL qcg) (K:Kn):Prop:=
 (0:Int)<=qb .and .u64 (IntKind.u64.wrap g.2.1) 31/\
 (0:Int)<=IntKind.u64.wrap (32- (qb .and .u64 (IntKind.u64.wrap g.2.1) 31))/\
 K (.int .u32 (qb .or .u32 (IntKind.u32.wrap (g.1*2^(min (qb .and .u64 (IntKind.u64.wrap g.2.1) 31).toNat IntKind.u32.bits))) (Int.fdiv g.1 (2^(min (IntKind.u64.wrap (32- (qb .and .u64 (IntKind.u64.wrap g.2.1) 31))).toNat IntKind.u32.bits))))) []
theorem qc6 (g:prodL qcg) (K X:Kn) (h:qAP g K):FCalls Tryz.prog 156 (argsT qso qcg g) [] K X:=
 FCalls.settle0 (qw Tryz.func156 Tryz.ntmps156 Tryz.results156 qj qz [] [] (by kernel_rfl) (by kernel_rfl) h)
def qse:Sp:=⟨qso,qcg,fun _=>True,fun g=> .int .u32 (qft g.1 g.2.1),fun _=>none⟩
theorem qKl:qse.Ok Tryz.prog 156 true:=
 .mk (fun g K X hp h=>qc6 g K X (by
  have h:K (.int .u32 (qft g.1 g.2.1)) []:=h;exact ⟨qpz _ _,qaX _,h⟩))
abbrev qsL:List Sh:=[.leaf,.leaf]
abbrev qeK:List Lf:=[.int .u32,.int .i64]
def qAc (g:prodL qeK) (K:Kn):Prop:=
 True/\
 K (.int .u32 (qft g.1 (IntKind.i64.wrap (0-g.2.1)))) []
theorem qfF (g:prodL qeK) (K X:Kn) (h:qAc g K):FCalls Tryz.prog 114 (argsT qsL qeK g) [] K X:=
 FCalls.settle0 (qw Tryz.func114 Tryz.ntmps114 Tryz.results114 qj (qx qKl qz) [] [] (by kernel_rfl) (by kernel_rfl) h)
def qpQ:Sp:=⟨qsL,qeK,fun _=>True,fun g=> .int .u32 (vC g.1 g.2.1),fun _=>none⟩
theorem qwA:qpQ.Ok Tryz.prog 114 true:=
 .mk (fun g K X hp h=>qfF g K X (by
  have h:K (.int .u32 (vC g.1 g.2.1)) []:=h;exact ⟨trivial,h⟩))
abbrev qtx:List Sh:=[]
abbrev qe5:List Lf:=[]
def qA7 (g:prodL qe5) (K:Kn):Prop:=
 xA ([1116352408,1899447441,3049323471,3921009573,961987163,1508970993,2453635748,2870763221,3624381080,310598401,607225278,1426881987,1925078388,2162078206,2614888103,3248222580,3835390401,4022224774,264347078,604807628,770255983,1249150122,1555081692,1996064986,2554220882,2821834349,2952996808,3210313671,3336571891,3584528711,113926993,338241895,666307205,773529912,1294757372,1396182291,1695183700,1986661051,2177026350,2456956037,2730485921,2820302411,3259730800,3345764771,3516065817,3600352804,4094571909,275423344,430227734,506948616,659060556,883997877,958139571,1322822218,1537002063,1747873779,1955562222,2024104815,2227730452,2361852424,2428436474,2756734187,3204031479,3329325298].length*1=64/\[1116352408,1899447441,3049323471,3921009573,961987163,1508970993,2453635748,2870763221,3624381080,310598401,607225278,1426881987,1925078388,2162078206,2614888103,3248222580,3835390401,4022224774,264347078,604807628,770255983,1249150122,1555081692,1996064986,2554220882,2821834349,2952996808,3210313671,3336571891,3584528711,113926993,338241895,666307205,773529912,1294757372,1396182291,1695183700,1986661051,2177026350,2456956037,2730485921,2820302411,3259730800,3345764771,3516065817,3600352804,4094571909,275423344,430227734,506948616,659060556,883997877,958139571,1322822218,1537002063,1747873779,1955562222,2024104815,2227730452,2361852424,2428436474,2756734187,3204031479,3329325298].length=(List.replicate 64 (0:Int)).length) (
 xA ([1116352408,1899447441,3049323471,3921009573,961987163,1508970993,2453635748,2870763221,3624381080,310598401,607225278,1426881987,1925078388,2162078206,2614888103,3248222580,3835390401,4022224774,264347078,604807628,770255983,1249150122,1555081692,1996064986,2554220882,2821834349,2952996808,3210313671,3336571891,3584528711,113926993,338241895,666307205,773529912,1294757372,1396182291,1695183700,1986661051,2177026350,2456956037,2730485921,2820302411,3259730800,3345764771,3516065817,3600352804,4094571909,275423344,430227734,506948616,659060556,883997877,958139571,1322822218,1537002063,1747873779,1955562222,2024104815,2227730452,2361852424,2428436474,2756734187,3204031479,3329325298].length*1=64) (
 K (.al .u32 [1116352408,1899447441,3049323471,3921009573,961987163,1508970993,2453635748,2870763221,3624381080,310598401,607225278,1426881987,1925078388,2162078206,2614888103,3248222580,3835390401,4022224774,264347078,604807628,770255983,1249150122,1555081692,1996064986,2554220882,2821834349,2952996808,3210313671,3336571891,3584528711,113926993,338241895,666307205,773529912,1294757372,1396182291,1695183700,1986661051,2177026350,2456956037,2730485921,2820302411,3259730800,3345764771,3516065817,3600352804,4094571909,275423344,430227734,506948616,659060556,883997877,958139571,1322822218,1537002063,1747873779,1955562222,2024104815,2227730452,2361852424,2428436474,2756734187,3204031479,3329325298]) []))
theorem qec (g:prodL qe5) (K X:Kn) (h:qA7 g K):FCalls Tryz.prog 113 (argsT qtx qe5 g) [] K X:=
 FCalls.settle0 (qw Tryz.func113 Tryz.ntmps113 Tryz.results113 qj qz [] [] (by kernel_rfl) (by kernel_rfl) h)
def qtv:Sp:=⟨qtx,qe5,fun _=>True,fun g=> .al .u32 kL,fun _=>none⟩
theorem qKY:qtv.Ok Tryz.prog 113 false:=
 .mk (fun g K X hp h=>qec g K X (by
  have h:K (.al .u32 kL) []:=h;exact ⟨⟨rfl,rfl⟩,rfl,h⟩))
def qAO:List (Nat×Hint):=[(3,⟨[((2,[]),none),((3,[]),none)],[(0,.leaf),(2,.pa .u32 0),(3,.pa .u32 1),(9,.leaf)],[.arr .u32,.arr .u32],[.str,.int .i64,.sl .u32,.sl .u32]⟩),(7,⟨[((2,[]),none),((3,[]),none),((21,[]),none)],[(0,.leaf),(2,.pa .u32 0),(3,.pa .u32 1),(4,.leaf),(9,.leaf),(21,.oa .u8 2),(22,.leaf),(23,.leaf)],[.arr .u32,.arr .u32,.arr .u8],[.str,.int .i64,.int .i64,.int .i64,.int .i64,.sl .u32,.sl .u32,.sl .u8]⟩)]
def qAj:List (Nat×Hint):=[(13,⟨[((2,[]),none),((3,[]),none)],[(0,.leaf),(2,.pa .u32 0),(3,.pa .u32 1),(9,.leaf)],[.arr .u32,.arr .u32],[.str,.int .i64,.sl .u32,.sl .u32]⟩)]
abbrev qtn:List Sh:=[.leaf]
abbrev qeL:List Lf:=[.str]
def JL (K:Kn) (a:prodL [.str,.int .i64,.sl .u32,.sl .u32]->Prop) (b:ByteArray) (c:Int) (d:List Int) (e:List Int):Prop:=
 a (b,IntKind.i64.wrap (c+1),d,e,())
def qxk (K:Kn) (i:prodL [.str,.int .i64,.sl .u32,.sl .u32]->Prop) (j:prodL [.str,.int .i64,.int .i64,.int .i64,.int .i64,.sl .u32,.sl .u32,.sl .u8]->Prop) (e:ByteArray) (a f g b:Int) (h:List Int) (c:List Int) (d:List Int):Prop:=
 bif decide (b<g)then (
   0<=b/\b.toNat<d.length/\
  atI d b.toNat fun l=>
  0<=a/\a.toNat<64/\
  atI c a.toNat fun m=>
  (0:Int)<=8/\
  0<=a/\a.toNat<64/\
  atI c a.toNat fun n=>
  j (e,a,f,g,IntKind.i64.wrap (b+1),h,c.set a.toNat (qb .or .u32 (IntKind.u32.wrap (m*2^(min (8:Int).toNat IntKind.u32.bits))) (IntKind.u32.wrap l)),d,()))
  else (
   JL K i e f h c)
def qj6 (K:Kn) (a:prodL [.str,.int .i64,.sl .u32,.sl .u32]->Prop) (g:prodL [.str,.int .i64,.int .i64,.int .i64,.int .i64,.sl .u32,.sl .u32,.sl .u8]):Prop:=
 qy (γ:=prodL [.str,.int .i64,.int .i64,.int .i64,.int .i64,.sl .u32,.sl .u32,.sl .u8]) (fun V y=>qxk K a V y.1 y.2.1 y.2.2.1 y.2.2.2.1 y.2.2.2.2.1 y.2.2.2.2.2.1 y.2.2.2.2.2.2.1 y.2.2.2.2.2.2.2.1) g
def qjG (K:Kn) (g:prodL [.str,.int .i64,.sl .u32,.sl .u32]->Prop) (c:ByteArray) (a:Int) (d:List Int) (b:List Int):Prop:=
 bif decide (a<64)then (
  bif decide (a<16)then (
  (0:Int)<=IntKind.i64.wrap (4*a)/\IntKind.i64.wrap (4*a)<=IntKind.i64.wrap ((IntKind.i64.wrap (4*a))+4)/\IntKind.i64.wrap ((IntKind.i64.wrap (4*a))+4)<=(c.size:Int)/\
  ql (c.extract (IntKind.i64.wrap (4*a)).toNat (IntKind.i64.wrap ((IntKind.i64.wrap (4*a))+4)).toNat).size 1 (
  qj6 K g (c,a,a,(((zp (c.extract (IntKind.i64.wrap (4*a)).toNat (IntKind.i64.wrap ((IntKind.i64.wrap (4*a))+4)).toNat)).length:Nat):Int),0,d,b,zp (c.extract (IntKind.i64.wrap (4*a)).toNat (IntKind.i64.wrap ((IntKind.i64.wrap (4*a))+4)).toNat),())))
 else (
  0<=IntKind.i64.wrap (a-15)/\(IntKind.i64.wrap (a-15)).toNat<64/\
 atI b ((IntKind.i64.wrap (a-15)).toNat) fun e=>
 0<=IntKind.i64.wrap (a-2)/\(IntKind.i64.wrap (a-2)).toNat<64/\
 atI b ((IntKind.i64.wrap (a-2)).toNat) fun f=>
 True/\
 True/\
 (0:Int)<=10/\
 0<=IntKind.i64.wrap (a-7)/\(IntKind.i64.wrap (a-7)).toNat<64/\
 atI b ((IntKind.i64.wrap (a-7)).toNat) fun h=>
 True/\
 True/\
 (0:Int)<=3/\
 0<=IntKind.i64.wrap (a-16)/\(IntKind.i64.wrap (a-16)).toNat<64/\
 atI b ((IntKind.i64.wrap (a-16)).toNat) fun i=>
 0<=a/\a.toNat<64/\
 atI b a.toNat fun j=>
 JL K g c a d (b.set a.toNat (IntKind.u32.wrap ((IntKind.u32.wrap ((IntKind.u32.wrap ((qb .xor .u32 (qb .xor .u32 (vC f 17) (vC f 19)) (Int.fdiv f (2^(min (10:Int).toNat IntKind.u32.bits))))+h))+(qb .xor .u32 (qb .xor .u32 (vC e 7) (vC e 18)) (Int.fdiv e (2^(min (3:Int).toNat IntKind.u32.bits))))))+i)))))
 else (
  xA (b.length*1=64) (
 xA (b.length*1=64/\b.length=d.length) (
 xA (b.length*1=64) (
 K (.al .u32 b) []))))
def qxC (K:Kn) (g:prodL [.str,.int .i64,.sl .u32,.sl .u32]):Prop:=
 qy (γ:=prodL [.str,.int .i64,.sl .u32,.sl .u32]) (fun V y=>qjG K V y.1 y.2.1 y.2.2.1 y.2.2.2.1) g
def qmY (g:prodL qeL) (K:Kn):Prop:=
 qxC K (g.1,0,(List.replicate 64 (0:Int)),(List.replicate 64 (0:Int)),())
theorem qcf (g:prodL qeL) (K X:Kn) (h:qmY g K):FCalls Tryz.prog 112 (argsT qtn qeL g) [] K X:=
 FCalls.settle0 (qw Tryz.func112 Tryz.ntmps112 Tryz.results112 qj (qx qwA qz) qAO qAj (by kernel_rfl) (by kernel_rfl) h)
abbrev S65:List Sh:=[.leaf]
abbrev L65:List Lf:=[.str]
def F65 (g:prodL L65) (K:Kn):Prop:=
 K (.fn 111 [] [.pr .str g.1 0]) []
theorem qoa (g:prodL L65) (K X:Kn) (h:F65 g K):FCalls Tryz.prog 65 (argsT S65 L65 g) [] K X:=
 FCalls.settle0 (qw Tryz.func65 Tryz.ntmps65 Tryz.results65 qj qz [] [] (by kernel_rfl) (by kernel_rfl) h)
def qfH:Sp:=⟨S65,L65,fun _=>True,fun g=> .fn 111 [] [.pr .str g.1 0],fun _=>none⟩
theorem qbl:qfH.Ok Tryz.prog 65 false:=
 .mk (fun g K X hp h=>qoa g K X (by
  have h:K (.fn 111 [] [.pr .str g.1 0]) []:=h;exact h))
end
section
open Go.RowKit
set_option maxRecDepth 100000
theorem yJ {α:Type} {l:List α} {n:Nat} {K:α->Prop} (h:n<l.length) (hK:K l[n]):atI l n K:=⟨l[n],jU h,hK⟩
theorem W8 {l:List Int} {n:Nat} (h:n<l.length):l.getD n 0=l[n]:=by rw [Jbq,jU h];rfl
theorem toN (n:Nat):((n:Nat):Int).toNat=n:=by omega
theorem wI {n:Int} (h: -4294967296<=n/\n<=4294967296):IntKind.i64.wrap n=n:=qE (by omega) (by omega)
theorem qW1 (w:List Int) (t:Nat) (h:t<w.length):w.set t (w.getD t 0)=w:=by
 rw [W8 h,List.set_getElem_self]
theorem qhn {b:ByteArray} {K:Kn} (hb:b.size=64) (h:K (.al .u32 (qx2 b)) []):qmY (b,()) K:=by
 unfold qmY;show qxC K _
 unfold qxC;refine qy.countTo 64 (fun t=>(b,(t:Int),zL,wAt b t,())) (fun _=>True) rfl (fun t ht _ W hW=> ?_) trivial
 show qjG K W b t zL (wAt b t)
 have hlen:=qxs b t;unfold qjG;by_cases hlt:t<64
 . rw [Jaa (show (t:Int) <64 by omega),Jae]
   have hW:=hW hlt trivial;rw [qx5] at hW;by_cases h16:t<16
   . rw [Jaa (show (t:Int) <16 by omega),Jae]
     have e4:IntKind.i64.wrap (4*(t:Int))=((4*t:Nat):Int):=by rw [wI (by omega)];omega
     have e5:IntKind.i64.wrap (((4*t:Nat):Int)+4)=((4*t+4:Nat):Int):=by rw [wI (by omega)];omega
     rw [e4,e5,toN,toN];refine ⟨by omega,by omega,by rw [hb];omega, ?_⟩
     have hsz:(b.extract (4*t) (4*t+4)).size=4:=by rw [ByteArray.size_extract,hb];omega
     refine ⟨by rw [hsz];exact Jag rfl, ?_⟩
     have hbl:(Jz b t).length=4:=by unfold Jz zp;simp;rw [hb];omega
     unfold qJi at hW;rw [if_pos h16] at hW;show qj6 K W (b,(t:Int),(t:Int),(((Jz b t).length:Nat):Int),0,zL,wAt b t,Jz b t,())
     unfold qj6;refine qy.countTo (Jz b t).length (fun j=>(b,(t:Int),(t:Int),(((Jz b t).length:Nat):Int),(j:Int),zL,(wAt b t).set t (((Jz b t).take j).foldl orB ((wAt b t).getD t 0)),Jz b t,())) (fun _=>True) (by rw [List.take_zero,List.foldl_nil,qW1 _ _ (by omega)];rfl) (fun j hj _ W4 hW4=> ?_) trivial
     show qxk K W W4 b t t (((Jz b t).length:Nat):Int) j zL ((wAt b t).set t (((Jz b t).take j).foldl orB ((wAt b t).getD t 0))) (Jz b t)
     unfold qxk;by_cases hjl:j< (Jz b t).length
     . rw [qu hjl,Jae];simp only [toN];have hl2:t< ((wAt b t).set t (((Jz b t).take j).foldl orB ((wAt b t).getD t 0))).length:=by rw [List.length_set];omega
       refine ⟨by omega,hjl,yJ hjl ⟨by omega,by omega,yJ hl2 ⟨by omega,by omega,by omega,yJ hl2 ?_⟩⟩⟩
       have:=hW4 hjl trivial;rw [vW hjl,List.foldl_append] at this;rw [zd hjl (by omega),List.set_set,List.getElem_set_self]
       exact this
     . have:j=(Jz b t).length:=by omega
       subst this;rw [qm,Jaf,List.take_length];unfold JL;rw [wI (by omega)]
       exact hW
   . rw [Jab (show¬(t:Int) <16 by omega),Jaf]
     unfold qJi at hW;rw [if_neg h16] at hW;have e15:IntKind.i64.wrap ((t:Int) - 15)=((t-15:Nat):Int):=by rw [wI (by omega)];omega
     have e2:IntKind.i64.wrap ((t:Int) - 2)=((t-2:Nat):Int):=by rw [wI (by omega)];omega
     have e7:IntKind.i64.wrap ((t:Int) - 7)=((t-7:Nat):Int):=by rw [wI (by omega)];omega
     have e16:IntKind.i64.wrap ((t:Int) - 16)=((t-16:Nat):Int):=by rw [wI (by omega)];omega
     rw [e15,e2,e7,e16];simp only [toN];refine ⟨by omega,by omega,yJ (by omega) ⟨by omega,by omega,yJ (by omega) ⟨trivial,trivial,by omega,by omega,by omega,yJ (by omega) ⟨trivial,trivial,by omega,by omega,by omega,yJ (by omega) ⟨by omega,by omega,yJ (by omega) ?_⟩⟩⟩⟩⟩
     unfold JL;unfold qpK at hW;rw [W8 (show t-2< (wAt b t).length by omega),W8 (show t-7< (wAt b t).length by omega),W8 (show t-15< (wAt b t).length by omega),W8 (show t-16< (wAt b t).length by omega)] at hW
     rw [wI (by omega)]
     exact hW
 . have:t=64:=by omega
   subst this;rw [Jab (by omega),Jaf]
   exact ⟨by omega,⟨by omega,by rw [hlen];rfl⟩,by omega,h⟩
def qh9:Sp:=⟨qtn,qeL,fun g=>g.1.size=64,fun g=> .al .u32 (qx2 g.1),fun _=>none⟩
theorem qWh:qh9.Ok Tryz.prog 112 false:=
 .mk (fun g K X hp h=>qcf g K X (qhn hp h))
end
section
open Go.RowKit
attribute [local irreducible] zb qa
set_option maxRecDepth 100000
def H66:List (Nat×Hint):=[(4,⟨[((2,[]),none),((4,[]),none),((5,[]),none),((6,[]),none)],[(2,.pt 0 0),(4,.pt 1 0),(5,.pa .u32 2),(6,.pa .u32 3),(7,.leaf),(8,.leaf),(9,.leaf),(10,.leaf),(11,.leaf),(12,.leaf),(13,.leaf),(14,.leaf),(39,.leaf)],[.cells [.leaf,.leaf,.leaf,.leaf,.leaf,.leaf,.leaf,.leaf],.cells [.leaf,.leaf,.leaf,.leaf,.leaf,.leaf,.leaf,.leaf],.arr .u32,.arr .u32],[.int .u32,.int .u32,.int .u32,.int .u32,.int .u32,.int .u32,.int .u32,.int .u32,.int .i64,.int .u32,.int .u32,.int .u32,.int .u32,.int .u32,.int .u32,.int .u32,.int .u32,.int .u32,.int .u32,.int .u32,.int .u32,.int .u32,.int .u32,.int .u32,.int .u32,.sl .u32,.sl .u32]⟩),(11,⟨[],[],[],[]⟩),(9000011,⟨[],[],[],[]⟩)]
abbrev S66:List Sh:=[.ag [.leaf,.leaf,.leaf,.leaf,.leaf,.leaf,.leaf,.leaf],.leaf]
abbrev L66:List Lf:=[.int .u32,.int .u32,.int .u32,.int .u32,.int .u32,.int .u32,.int .u32,.int .u32,.str]
def qqb (K:Kn) (w:prodL [.int .u32,.int .u32,.int .u32,.int .u32,.int .u32,.int .u32,.int .u32,.int .u32,.int .i64,.int .u32,.int .u32,.int .u32,.int .u32,.int .u32,.int .u32,.int .u32,.int .u32,.int .u32,.int .u32,.int .u32,.int .u32,.int .u32,.int .u32,.int .u32,.int .u32,.sl .u32,.sl .u32]->Prop) (c d e i a f g h b j l m n o p q r x y z A B C E F:Int) (s:List Int) (t:List Int):Prop:=
 bif decide (b<64)then (
  True/\
 True/\
 True/\
 0<=b/\b.toNat<64/\
 atI t b.toNat fun u=>
 0<=b/\b.toNat<64/\
 atI s b.toNat fun v=>
 True/\
 True/\
 True/\
 w (IntKind.u32.wrap ((IntKind.u32.wrap ((IntKind.u32.wrap ((IntKind.u32.wrap ((IntKind.u32.wrap (h+(qb .xor .u32 (qb .xor .u32 (vC a 6) (vC a 11)) (vC a 25))))+(qb .xor .u32 (qb .and .u32 a f) (qb .and .u32 (qb .xor .u32 IntKind.u32.max a) g))))+u))+v))+(IntKind.u32.wrap ((qb .xor .u32 (qb .xor .u32 (vC c 2) (vC c 13)) (vC c 22))+(qb .xor .u32 (qb .xor .u32 (qb .and .u32 c d) (qb .and .u32 c e)) (qb .and .u32 d e))))),c,d,e,IntKind.u32.wrap (i+(IntKind.u32.wrap ((IntKind.u32.wrap ((IntKind.u32.wrap ((IntKind.u32.wrap (h+(qb .xor .u32 (qb .xor .u32 (vC a 6) (vC a 11)) (vC a 25))))+(qb .xor .u32 (qb .and .u32 a f) (qb .and .u32 (qb .xor .u32 IntKind.u32.max a) g))))+u))+v))),a,f,g,IntKind.i64.wrap (b+1),j,l,m,n,o,p,q,r,x,y,z,A,B,C,E,F,s,t,()))
 else (
  (0:Int)<=0/\(0:Int).toNat<8/\
 0<=(0:Int)/\(0:Int).toNat<8/\
 0<=(0:Int)/\(0:Int).toNat<8/\
 (0:Int)<=1/\(1:Int).toNat<8/\
 0<=(1:Int)/\(1:Int).toNat<8/\
 0<=(1:Int)/\(1:Int).toNat<8/\
 (0:Int)<=2/\(2:Int).toNat<8/\
 0<=(2:Int)/\(2:Int).toNat<8/\
 0<=(2:Int)/\(2:Int).toNat<8/\
 (0:Int)<=3/\(3:Int).toNat<8/\
 0<=(3:Int)/\(3:Int).toNat<8/\
 0<=(3:Int)/\(3:Int).toNat<8/\
 (0:Int)<=4/\(4:Int).toNat<8/\
 0<=(4:Int)/\(4:Int).toNat<8/\
 0<=(4:Int)/\(4:Int).toNat<8/\
 (0:Int)<=5/\(5:Int).toNat<8/\
 0<=(5:Int)/\(5:Int).toNat<8/\
 0<=(5:Int)/\(5:Int).toNat<8/\
 (0:Int)<=6/\(6:Int).toNat<8/\
 0<=(6:Int)/\(6:Int).toNat<8/\
 0<=(6:Int)/\(6:Int).toNat<8/\
 (0:Int)<=7/\(7:Int).toNat<8/\
 0<=(7:Int)/\(7:Int).toNat<8/\
 0<=(7:Int)/\(7:Int).toNat<8/\
 K (.ag [.int .u32 (IntKind.u32.wrap (j+c)),.int .u32 (IntKind.u32.wrap (l+d)),.int .u32 (IntKind.u32.wrap (m+e)),.int .u32 (IntKind.u32.wrap (n+i)),.int .u32 (IntKind.u32.wrap (o+a)),.int .u32 (IntKind.u32.wrap (p+f)),.int .u32 (IntKind.u32.wrap (q+g)),.int .u32 (IntKind.u32.wrap (r+h))]) [])
def qkg (K:Kn) (g:prodL [.int .u32,.int .u32,.int .u32,.int .u32,.int .u32,.int .u32,.int .u32,.int .u32,.int .i64,.int .u32,.int .u32,.int .u32,.int .u32,.int .u32,.int .u32,.int .u32,.int .u32,.int .u32,.int .u32,.int .u32,.int .u32,.int .u32,.int .u32,.int .u32,.int .u32,.sl .u32,.sl .u32]):Prop:=
 qy (γ:=prodL [.int .u32,.int .u32,.int .u32,.int .u32,.int .u32,.int .u32,.int .u32,.int .u32,.int .i64,.int .u32,.int .u32,.int .u32,.int .u32,.int .u32,.int .u32,.int .u32,.int .u32,.int .u32,.int .u32,.int .u32,.int .u32,.int .u32,.int .u32,.int .u32,.int .u32,.sl .u32,.sl .u32]) (fun V y=>qqb K V y.1 y.2.1 y.2.2.1 y.2.2.2.1 y.2.2.2.2.1 y.2.2.2.2.2.1 y.2.2.2.2.2.2.1 y.2.2.2.2.2.2.2.1 y.2.2.2.2.2.2.2.2.1 y.2.2.2.2.2.2.2.2.2.1 y.2.2.2.2.2.2.2.2.2.2.1 y.2.2.2.2.2.2.2.2.2.2.2.1 y.2.2.2.2.2.2.2.2.2.2.2.2.1 y.2.2.2.2.2.2.2.2.2.2.2.2.2.1 y.2.2.2.2.2.2.2.2.2.2.2.2.2.2.1 y.2.2.2.2.2.2.2.2.2.2.2.2.2.2.2.1 y.2.2.2.2.2.2.2.2.2.2.2.2.2.2.2.2.1 y.2.2.2.2.2.2.2.2.2.2.2.2.2.2.2.2.2.1 y.2.2.2.2.2.2.2.2.2.2.2.2.2.2.2.2.2.2.1 y.2.2.2.2.2.2.2.2.2.2.2.2.2.2.2.2.2.2.2.1 y.2.2.2.2.2.2.2.2.2.2.2.2.2.2.2.2.2.2.2.2.1 y.2.2.2.2.2.2.2.2.2.2.2.2.2.2.2.2.2.2.2.2.2.1 y.2.2.2.2.2.2.2.2.2.2.2.2.2.2.2.2.2.2.2.2.2.2.1 y.2.2.2.2.2.2.2.2.2.2.2.2.2.2.2.2.2.2.2.2.2.2.2.1 y.2.2.2.2.2.2.2.2.2.2.2.2.2.2.2.2.2.2.2.2.2.2.2.2.1 y.2.2.2.2.2.2.2.2.2.2.2.2.2.2.2.2.2.2.2.2.2.2.2.2.2.1 y.2.2.2.2.2.2.2.2.2.2.2.2.2.2.2.2.2.2.2.2.2.2.2.2.2.2.1) g
def F66 (g:prodL L66) (K:Kn):Prop:=
 qh9.pre (g.2.2.2.2.2.2.2.2.1,())/\
 True/\
 xA ((qx2 g.2.2.2.2.2.2.2.2.1).length*1=64/\(qx2 g.2.2.2.2.2.2.2.2.1).length=(List.replicate 64 (0:Int)).length) (
 xA (kL.length*1=64/\kL.length=(List.replicate 64 (0:Int)).length) (
 0<=(0:Int)/\(0:Int).toNat<8/\
 0<=(1:Int)/\(1:Int).toNat<8/\
 0<=(2:Int)/\(2:Int).toNat<8/\
 0<=(3:Int)/\(3:Int).toNat<8/\
 0<=(4:Int)/\(4:Int).toNat<8/\
 0<=(5:Int)/\(5:Int).toNat<8/\
 0<=(6:Int)/\(6:Int).toNat<8/\
 0<=(7:Int)/\(7:Int).toNat<8/\
 qkg K (g.1,g.2.1,g.2.2.1,g.2.2.2.1,g.2.2.2.2.1,g.2.2.2.2.2.1,g.2.2.2.2.2.2.1,g.2.2.2.2.2.2.2.1,0,g.1,g.2.1,g.2.2.1,g.2.2.2.1,g.2.2.2.2.1,g.2.2.2.2.2.1,g.2.2.2.2.2.2.1,g.2.2.2.2.2.2.2.1,0,0,0,0,0,0,0,0,qx2 g.2.2.2.2.2.2.2.2.1,kL,())))
theorem qld (g:prodL L66) (K X:Kn) (h:F66 g K):FCalls Tryz.prog 66 (argsT S66 L66 g) [] K X:=
 FCalls.settle0 (qw Tryz.func66 Tryz.ntmps66 Tryz.results66 qj (qx qWh (qx qKY (qx qwA qz))) H66 [] (by kernel_rfl) (by kernel_rfl) h)
end
section
open Go.RowKit
set_option maxRecDepth 100000
theorem qmd (x0 x1 x2 x3 x4 x5 x6 x7 a b c d e f g k:Int):Yx [x0,x1,x2,x3,x4,x5,x6,x7] [a,b,c,d,e,f,g,k]=[IntKind.u32.wrap (x0+a),IntKind.u32.wrap (x1+b),IntKind.u32.wrap (x2+c),IntKind.u32.wrap (x3+d),IntKind.u32.wrap (x4+e),IntKind.u32.wrap (x5+f),IntKind.u32.wrap (x6+g),IntKind.u32.wrap (x7+k)]:=rfl
theorem qrg (w:List Int) (t:Nat) (a b c d e f g k:Int):rnd w [a,b,c,d,e,f,g,k] t=[IntKind.u32.wrap (YT w t e f g k+qQU a b c),a,b,c,IntKind.u32.wrap (d+YT w t e f g k),e,f,g]:=rfl
theorem qna:kL.length=64:=rfl
theorem qK4 (w s:List Int):vAt w s 0=s:=rfl
theorem qJB {K:Kn} {W:prodL [.int .u32,.int .u32,.int .u32,.int .u32,.int .u32,.int .u32,.int .u32,.int .u32,.int .i64,.int .u32,.int .u32,.int .u32,.int .u32,.int .u32,.int .u32,.int .u32,.int .u32,.int .u32,.int .u32,.int .u32,.int .u32,.int .u32,.int .u32,.int .u32,.int .u32,.sl .u32,.sl .u32]->Prop}
  {w:List Int} (hw:w.length=64) {t:Nat} (ht:t<64) {a b c d e f g k x0 x1 x2 x3 x4 x5 x6 x7:Int}
  (h:W (IntKind.u32.wrap (YT w t e f g k+qQU a b c),a,b,c,IntKind.u32.wrap (d+YT w t e f g k),e,f,g,((t+1:Nat):Int),x0,x1,x2,x3,x4,x5,x6,x7,0,0,0,0,0,0,0,0,w,kL,())):
  qqb K W a b c d e f g k t x0 x1 x2 x3 x4 x5 x6 x7 0 0 0 0 0 0 0 0 w kL:=by
 have hk:=qna;unfold qqb;rw [Jaa (show (t:Int) <64 by omega),Jae]
 unfold YT qQU at h;rw [W8 (show t<kL.length by omega),W8 (show t<w.length by omega)] at h
 simp only [toN];rw [wI (by omega)]
 exact ⟨trivial,trivial,trivial,by omega,by omega,yJ (show t<kL.length by omega) ⟨by omega,by omega,yJ (show t<w.length by omega) ⟨trivial,trivial,trivial,h⟩⟩⟩
theorem qQx {K:Kn} {W:prodL [.int .u32,.int .u32,.int .u32,.int .u32,.int .u32,.int .u32,.int .u32,.int .u32,.int .i64,.int .u32,.int .u32,.int .u32,.int .u32,.int .u32,.int .u32,.int .u32,.int .u32,.int .u32,.int .u32,.int .u32,.int .u32,.int .u32,.int .u32,.int .u32,.int .u32,.sl .u32,.sl .u32]->Prop}
  {w l:List Int} {a b c d e f g k x0 x1 x2 x3 x4 x5 x6 x7:Int}
  (h:K (.ag [.int .u32 (IntKind.u32.wrap (x0+a)),.int .u32 (IntKind.u32.wrap (x1+b)),.int .u32 (IntKind.u32.wrap (x2+c)),.int .u32 (IntKind.u32.wrap (x3+d)),.int .u32 (IntKind.u32.wrap (x4+e)),.int .u32 (IntKind.u32.wrap (x5+f)),.int .u32 (IntKind.u32.wrap (x6+g)),.int .u32 (IntKind.u32.wrap (x7+k))]) []):
  qqb K W a b c d e f g k 64 x0 x1 x2 x3 x4 x5 x6 x7 0 0 0 0 0 0 0 0 w l:=by
 unfold qqb;rw [Jab (by omega),Jaf]
 repeat (refine And.intro (by decide) ?_)
 exact h
theorem qXv {w:List Int} (hw:w.length=64) {x0 x1 x2 x3 x4 x5 x6 x7:Int} {K:Kn} (h:K (.ag [.int .u32 ((Yx [x0,x1,x2,x3,x4,x5,x6,x7] (vAt w [x0,x1,x2,x3,x4,x5,x6,x7] 64)).getD 0 0),.int .u32 ((Yx [x0,x1,x2,x3,x4,x5,x6,x7] (vAt w [x0,x1,x2,x3,x4,x5,x6,x7] 64)).getD 1 0),.int .u32 ((Yx [x0,x1,x2,x3,x4,x5,x6,x7] (vAt w [x0,x1,x2,x3,x4,x5,x6,x7] 64)).getD 2 0),.int .u32 ((Yx [x0,x1,x2,x3,x4,x5,x6,x7] (vAt w [x0,x1,x2,x3,x4,x5,x6,x7] 64)).getD 3 0),.int .u32 ((Yx [x0,x1,x2,x3,x4,x5,x6,x7] (vAt w [x0,x1,x2,x3,x4,x5,x6,x7] 64)).getD 4 0),.int .u32 ((Yx [x0,x1,x2,x3,x4,x5,x6,x7] (vAt w [x0,x1,x2,x3,x4,x5,x6,x7] 64)).getD 5 0),.int .u32 ((Yx [x0,x1,x2,x3,x4,x5,x6,x7] (vAt w [x0,x1,x2,x3,x4,x5,x6,x7] 64)).getD 6 0),.int .u32 ((Yx [x0,x1,x2,x3,x4,x5,x6,x7] (vAt w [x0,x1,x2,x3,x4,x5,x6,x7] 64)).getD 7 0)]) []):
  qkg K (x0,x1,x2,x3,x4,x5,x6,x7,0,x0,x1,x2,x3,x4,x5,x6,x7,0,0,0,0,0,0,0,0,w,kL,()):=by
 have hs:[x0,x1,x2,x3,x4,x5,x6,x7].length=8:=rfl;have key: ∀t,(vAt w [x0,x1,x2,x3,x4,x5,x6,x7] t).length=8:=qxV w hs;have hz:=qK4 w [x0,x1,x2,x3,x4,x5,x6,x7];have hsu:=qyX w [x0,x1,x2,x3,x4,x5,x6,x7];generalize vAt w [x0,x1,x2,x3,x4,x5,x6,x7]=v at h key hz hsu;unfold qkg;refine qy.countTo 64 (fun t=>((v t).getD 0 0,(v t).getD 1 0,(v t).getD 2 0,(v t).getD 3 0,(v t).getD 4 0,(v t).getD 5 0,(v t).getD 6 0,(v t).getD 7 0,(t:Int),x0,x1,x2,x3,x4,x5,x6,x7,0,0,0,0,0,0,0,0,w,kL,())) (fun _=>True) (by rw [hz];rfl) (fun t ht _ W hW=> ?_) trivial
 obtain ⟨a,b,c,d,e,f,g,k,hv⟩:=qvo (key t);by_cases hlt:t<64
 . have hW:=hW hlt trivial;rw [hsu,hv,qrg] at hW;rw [hv];exact qJB hw hlt hW
 . have:t=64:=by omega
   subst this;rw [hv,qmd] at h;rw [hv];exact qQx h
theorem qoC {x0 x1 x2 x3 x4 x5 x6 x7:Int} {b:ByteArray} {K:Kn} (hb:b.size=64) (h:K (.ag [.int .u32 ((qB [x0,x1,x2,x3,x4,x5,x6,x7] b).getD 0 0),.int .u32 ((qB [x0,x1,x2,x3,x4,x5,x6,x7] b).getD 1 0),.int .u32 ((qB [x0,x1,x2,x3,x4,x5,x6,x7] b).getD 2 0),.int .u32 ((qB [x0,x1,x2,x3,x4,x5,x6,x7] b).getD 3 0),.int .u32 ((qB [x0,x1,x2,x3,x4,x5,x6,x7] b).getD 4 0),.int .u32 ((qB [x0,x1,x2,x3,x4,x5,x6,x7] b).getD 5 0),.int .u32 ((qB [x0,x1,x2,x3,x4,x5,x6,x7] b).getD 6 0),.int .u32 ((qB [x0,x1,x2,x3,x4,x5,x6,x7] b).getD 7 0)]) []):F66 (x0,x1,x2,x3,x4,x5,x6,x7,b,()) K:=by
 have hw:(qx2 b).length=64:=qxs b 64;unfold qB at h;unfold F66;refine ⟨hb,trivial, ?_⟩;dsimp only;generalize qx2 b=w at hw h ⊢;refine ⟨⟨by omega,by rw [hw];rfl⟩,⟨rfl,rfl⟩, ?_⟩
 repeat (refine And.intro (by decide) ?_)
 exact qXv hw h
def qke:Sp:=⟨S66,L66,fun g=>g.2.2.2.2.2.2.2.2.1.size=64,fun g=> .ag [.int .u32 ((qB [g.1,g.2.1,g.2.2.1,g.2.2.2.1,g.2.2.2.2.1,g.2.2.2.2.2.1,g.2.2.2.2.2.2.1,g.2.2.2.2.2.2.2.1] g.2.2.2.2.2.2.2.2.1).getD 0 0),.int .u32 ((qB [g.1,g.2.1,g.2.2.1,g.2.2.2.1,g.2.2.2.2.1,g.2.2.2.2.2.1,g.2.2.2.2.2.2.1,g.2.2.2.2.2.2.2.1] g.2.2.2.2.2.2.2.2.1).getD 1 0),.int .u32 ((qB [g.1,g.2.1,g.2.2.1,g.2.2.2.1,g.2.2.2.2.1,g.2.2.2.2.2.1,g.2.2.2.2.2.2.1,g.2.2.2.2.2.2.2.1] g.2.2.2.2.2.2.2.2.1).getD 2 0),.int .u32 ((qB [g.1,g.2.1,g.2.2.1,g.2.2.2.1,g.2.2.2.2.1,g.2.2.2.2.2.1,g.2.2.2.2.2.2.1,g.2.2.2.2.2.2.2.1] g.2.2.2.2.2.2.2.2.1).getD 3 0),.int .u32 ((qB [g.1,g.2.1,g.2.2.1,g.2.2.2.1,g.2.2.2.2.1,g.2.2.2.2.2.1,g.2.2.2.2.2.2.1,g.2.2.2.2.2.2.2.1] g.2.2.2.2.2.2.2.2.1).getD 4 0),.int .u32 ((qB [g.1,g.2.1,g.2.2.1,g.2.2.2.1,g.2.2.2.2.1,g.2.2.2.2.2.1,g.2.2.2.2.2.2.1,g.2.2.2.2.2.2.2.1] g.2.2.2.2.2.2.2.2.1).getD 5 0),.int .u32 ((qB [g.1,g.2.1,g.2.2.1,g.2.2.2.1,g.2.2.2.2.1,g.2.2.2.2.2.1,g.2.2.2.2.2.2.1,g.2.2.2.2.2.2.2.1] g.2.2.2.2.2.2.2.2.1).getD 6 0),.int .u32 ((qB [g.1,g.2.1,g.2.2.1,g.2.2.2.1,g.2.2.2.2.1,g.2.2.2.2.2.1,g.2.2.2.2.2.2.1,g.2.2.2.2.2.2.2.1] g.2.2.2.2.2.2.2.2.1).getD 7 0)],fun _=>none⟩
theorem qfd:qke.Ok Tryz.prog 66 true:=
 .mk (fun g K X hp h=>qld g K X (qoC hp h))
end
section
open Go.RowKit
attribute [local irreducible] zb qa
set_option maxRecDepth 100000
def qv8:List (Nat×Hint):=[]
def qvF:List (Nat×Hint):=[]
abbrev yT:List Sh:=[.leaf,.pt 0 0]
abbrev xG:List Lf:=[.str,.int .u32,.int .u32,.int .u32,.int .u32,.int .u32,.int .u32,.int .u32,.int .u32]
abbrev JS:List ObSh:=[.cells [.leaf,.leaf,.leaf,.leaf,.leaf,.leaf,.leaf,.leaf]]
def qqe (g:prodL xG) (K:Kn):Prop:=
 qke.pre (g.2.1,g.2.2.1,g.2.2.2.1,g.2.2.2.2.1,g.2.2.2.2.2.1,g.2.2.2.2.2.2.1,g.2.2.2.2.2.2.2.1,g.2.2.2.2.2.2.2.2.1,g.1,())/\
 K (.bool true) [some (.cells [.int .u32 ((qB [g.2.1,g.2.2.1,g.2.2.2.1,g.2.2.2.2.1,g.2.2.2.2.2.1,g.2.2.2.2.2.2.1,g.2.2.2.2.2.2.2.1,g.2.2.2.2.2.2.2.2.1] g.1).getD 0 0),.int .u32 ((qB [g.2.1,g.2.2.1,g.2.2.2.1,g.2.2.2.2.1,g.2.2.2.2.2.1,g.2.2.2.2.2.2.1,g.2.2.2.2.2.2.2.1,g.2.2.2.2.2.2.2.2.1] g.1).getD 1 0),.int .u32 ((qB [g.2.1,g.2.2.1,g.2.2.2.1,g.2.2.2.2.1,g.2.2.2.2.2.1,g.2.2.2.2.2.2.1,g.2.2.2.2.2.2.2.1,g.2.2.2.2.2.2.2.2.1] g.1).getD 2 0),.int .u32 ((qB [g.2.1,g.2.2.1,g.2.2.2.1,g.2.2.2.2.1,g.2.2.2.2.2.1,g.2.2.2.2.2.2.1,g.2.2.2.2.2.2.2.1,g.2.2.2.2.2.2.2.2.1] g.1).getD 3 0),.int .u32 ((qB [g.2.1,g.2.2.1,g.2.2.2.1,g.2.2.2.2.1,g.2.2.2.2.2.1,g.2.2.2.2.2.2.1,g.2.2.2.2.2.2.2.1,g.2.2.2.2.2.2.2.2.1] g.1).getD 4 0),.int .u32 ((qB [g.2.1,g.2.2.1,g.2.2.2.1,g.2.2.2.2.1,g.2.2.2.2.2.1,g.2.2.2.2.2.2.1,g.2.2.2.2.2.2.2.1,g.2.2.2.2.2.2.2.2.1] g.1).getD 5 0),.int .u32 ((qB [g.2.1,g.2.2.1,g.2.2.2.1,g.2.2.2.2.1,g.2.2.2.2.2.1,g.2.2.2.2.2.2.1,g.2.2.2.2.2.2.2.1,g.2.2.2.2.2.2.2.2.1] g.1).getD 6 0),.int .u32 ((qB [g.2.1,g.2.2.1,g.2.2.2.1,g.2.2.2.2.1,g.2.2.2.2.2.1,g.2.2.2.2.2.2.1,g.2.2.2.2.2.2.2.1,g.2.2.2.2.2.2.2.2.1] g.1).getD 7 0)])]
theorem qvM (g:prodL xG) (K:Kn):qqe g K=qa D (vG [] [(66,true,qke)]) (vv []) qv8 qvF (JJ Tryz.prog 1033004) [3] (argsT yT xG g) (qi yT JS xG g) (settleD (qi yT JS xG g).length 0 K) 0:=by kernel_rfl
theorem qvH (g:prodL xG) (K X:Kn) (h:qqe g K):FCalls Tryz.prog 1033004 (argsT yT xG g) (qi yT JS xG g) K X 0:=
 FCalls.settleD (qz0 (Γ:=vG [] [(66,true,qke)]) (mu:=vv []) (H:=qv8) (J:=qvF) V7 (yz (rs:=[]) (l:=[(66,true,qke)]) (fun p hp=>by cases hp) (by intro p hp;simp only [Jbf,Jb4,or_false] at hp;subst hp;exact qfd)) we rfl (yi:=⟨33,4,[3]⟩) rfl (by kernel_rfl) (by kernel_rfl) (by kernel_rfl) (by rw [qvM g K] at h;exact h))
def qJ0:Raw:=⟨yT,JS,xG,0,fun g K _=>qqe g K⟩
theorem qxb:qJ0.Ok Tryz.prog 1033004:=fun g K X h=>qvH g K X h
def qAb:List (Nat×Hint):=[(2,⟨[],[(0,.fn 1033004 [] [.pt 0 0]),(1,.leaf),(3,.leaf),(4,.leaf)],[.cells [.leaf,.leaf,.leaf,.leaf,.leaf,.leaf,.leaf,.leaf]],[.pr .str,.int .i64,.int .i64,.int .u32,.int .u32,.int .u32,.int .u32,.int .u32,.int .u32,.int .u32,.int .u32]⟩),(6,⟨[((5,[]),none)],[(0,.fn 1033004 [] [.pt 0 0]),(1,.leaf),(5,.oa .u8 1)],[.cells [.leaf,.leaf,.leaf,.leaf,.leaf,.leaf,.leaf,.leaf],.arr .u8],[.pr .str,.int .u32,.int .u32,.int .u32,.int .u32,.int .u32,.int .u32,.int .u32,.int .u32,.sl .u8]⟩),(9,⟨[((5,[]),none)],[(0,.fn 1033004 [] [.pt 0 0]),(1,.leaf),(5,.oa .u8 1),(6,.leaf)],[.cells [.leaf,.leaf,.leaf,.leaf,.leaf,.leaf,.leaf,.leaf],.arr .u8],[.pr .str,.int .i64,.int .u32,.int .u32,.int .u32,.int .u32,.int .u32,.int .u32,.int .u32,.int .u32,.sl .u8]⟩),(13,⟨[((5,[]),none)],[(0,.fn 1033004 [] [.pt 0 0]),(5,.oa .u8 1),(7,.leaf)],[.cells [.leaf,.leaf,.leaf,.leaf,.leaf,.leaf,.leaf,.leaf],.arr .u8],[.int .i64,.int .u32,.int .u32,.int .u32,.int .u32,.int .u32,.int .u32,.int .u32,.int .u32,.sl .u8]⟩)]
abbrev qnm:List Sh:=[.fn 1033004 [] [.pt 0 0],.leaf]
abbrev qWp:List Lf:=[.pr .str,.int .u32,.int .u32,.int .u32,.int .u32,.int .u32,.int .u32,.int .u32,.int .u32]
abbrev qrJ:List ObSh:=[.cells [.leaf,.leaf,.leaf,.leaf,.leaf,.leaf,.leaf,.leaf]]
def qjq (K:Kn) (l:prodL [.int .i64,.int .u32,.int .u32,.int .u32,.int .u32,.int .u32,.int .u32,.int .u32,.int .u32,.sl .u8]->Prop) (a c d e f g h i j:Int) (b:List Int):Prop:=
 bif decide (a< (b.length:Int))then (
  (0:Int)<=a/\a<=IntKind.i64.wrap (a+64)/\IntKind.i64.wrap (a+64)<=(b.length:Int)/\
 let g10:prodL [.str,.int .u32,.int .u32,.int .u32,.int .u32,.int .u32,.int .u32,.int .u32,.int .u32]:=(xk ((b.drop a.toNat).take ((IntKind.i64.wrap (a+64)).toNat-a.toNat)),c,d,e,f,g,h,i,j,());
 qke.pre (g10.2.1,g10.2.2.1,g10.2.2.2.1,g10.2.2.2.2.1,g10.2.2.2.2.2.1,g10.2.2.2.2.2.2.1,g10.2.2.2.2.2.2.2.1,g10.2.2.2.2.2.2.2.2.1,g10.1,())/\
 l (IntKind.i64.wrap (a+64),(qB [g10.2.1,g10.2.2.1,g10.2.2.2.1,g10.2.2.2.2.1,g10.2.2.2.2.2.1,g10.2.2.2.2.2.2.1,g10.2.2.2.2.2.2.2.1,g10.2.2.2.2.2.2.2.2.1] g10.1).getD 0 0,(qB [g10.2.1,g10.2.2.1,g10.2.2.2.1,g10.2.2.2.2.1,g10.2.2.2.2.2.1,g10.2.2.2.2.2.2.1,g10.2.2.2.2.2.2.2.1,g10.2.2.2.2.2.2.2.2.1] g10.1).getD 1 0,(qB [g10.2.1,g10.2.2.1,g10.2.2.2.1,g10.2.2.2.2.1,g10.2.2.2.2.2.1,g10.2.2.2.2.2.2.1,g10.2.2.2.2.2.2.2.1,g10.2.2.2.2.2.2.2.2.1] g10.1).getD 2 0,(qB [g10.2.1,g10.2.2.1,g10.2.2.2.1,g10.2.2.2.2.1,g10.2.2.2.2.2.1,g10.2.2.2.2.2.2.1,g10.2.2.2.2.2.2.2.1,g10.2.2.2.2.2.2.2.2.1] g10.1).getD 3 0,(qB [g10.2.1,g10.2.2.1,g10.2.2.2.1,g10.2.2.2.2.1,g10.2.2.2.2.2.1,g10.2.2.2.2.2.2.1,g10.2.2.2.2.2.2.2.1,g10.2.2.2.2.2.2.2.2.1] g10.1).getD 4 0,(qB [g10.2.1,g10.2.2.1,g10.2.2.2.1,g10.2.2.2.2.1,g10.2.2.2.2.2.1,g10.2.2.2.2.2.2.1,g10.2.2.2.2.2.2.2.1,g10.2.2.2.2.2.2.2.2.1] g10.1).getD 5 0,(qB [g10.2.1,g10.2.2.1,g10.2.2.2.1,g10.2.2.2.2.1,g10.2.2.2.2.2.1,g10.2.2.2.2.2.2.1,g10.2.2.2.2.2.2.2.1,g10.2.2.2.2.2.2.2.2.1] g10.1).getD 6 0,(qB [g10.2.1,g10.2.2.1,g10.2.2.2.1,g10.2.2.2.2.1,g10.2.2.2.2.2.1,g10.2.2.2.2.2.2.1,g10.2.2.2.2.2.2.2.1,g10.2.2.2.2.2.2.2.2.1] g10.1).getD 7 0,b,()))
 else (
  K (.tu []) [some (.cells [.int .u32 c,.int .u32 d,.int .u32 e,.int .u32 f,.int .u32 g,.int .u32 h,.int .u32 i,.int .u32 j])])
def WN (K:Kn) (g:prodL [.int .i64,.int .u32,.int .u32,.int .u32,.int .u32,.int .u32,.int .u32,.int .u32,.int .u32,.sl .u8]):Prop:=
 qy (γ:=prodL [.int .i64,.int .u32,.int .u32,.int .u32,.int .u32,.int .u32,.int .u32,.int .u32,.int .u32,.sl .u8]) (fun V y=>qjq K V y.1 y.2.1 y.2.2.1 y.2.2.2.1 y.2.2.2.2.1 y.2.2.2.2.2.1 y.2.2.2.2.2.2.1 y.2.2.2.2.2.2.2.1 y.2.2.2.2.2.2.2.2.1 y.2.2.2.2.2.2.2.2.2.1) g
def JH (K:Kn) (m:prodL [.pr .str,.int .i64,.int .u32,.int .u32,.int .u32,.int .u32,.int .u32,.int .u32,.int .u32,.int .u32,.sl .u8]->Prop) (b:ByteArray) (a d e f g h i j l:Int) (c:List Int):Prop:=
 bif decide (0<=a)then (
  (0:Int)<=a/\
 ql (c.length+[IntKind.u8.wrap (Int.fdiv (IntKind.u64.wrap ((IntKind.u64.wrap (b.size:Int))*8)) (2^(min a.toNat IntKind.u64.bits)))].length) 1 (
 m (b,IntKind.i64.wrap (a-8),d,e,f,g,h,i,j,l,c++[IntKind.u8.wrap (Int.fdiv (IntKind.u64.wrap ((IntKind.u64.wrap (b.size:Int))*8)) (2^(min a.toNat IntKind.u64.bits)))],())))
 else (
  WN K (0,d,e,f,g,h,i,j,l,c,()))
def Wt (K:Kn) (g:prodL [.pr .str,.int .i64,.int .u32,.int .u32,.int .u32,.int .u32,.int .u32,.int .u32,.int .u32,.int .u32,.sl .u8]):Prop:=
 qy (γ:=prodL [.pr .str,.int .i64,.int .u32,.int .u32,.int .u32,.int .u32,.int .u32,.int .u32,.int .u32,.int .u32,.sl .u8]) (fun V y=>JH K V y.1 y.2.1 y.2.2.1 y.2.2.2.1 y.2.2.2.2.1 y.2.2.2.2.2.1 y.2.2.2.2.2.2.1 y.2.2.2.2.2.2.2.1 y.2.2.2.2.2.2.2.2.1 y.2.2.2.2.2.2.2.2.2.1 y.2.2.2.2.2.2.2.2.2.2.1) g
def qxu (K:Kn) (l:prodL [.pr .str,.int .u32,.int .u32,.int .u32,.int .u32,.int .u32,.int .u32,.int .u32,.int .u32,.sl .u8]->Prop) (b:ByteArray) (c d e f g h i j:Int) (a:List Int):Prop:=
 ¬64=(0:Int)/\
 bif !decide (Int.tmod (a.length:Int) 64=56)then (
  ql (a.length+[0].length) 1 (
 l (b,c,d,e,f,g,h,i,j,a++[0],())))
 else (
  Wt K (b,56,c,d,e,f,g,h,i,j,a,()))
def qji (K:Kn) (g:prodL [.pr .str,.int .u32,.int .u32,.int .u32,.int .u32,.int .u32,.int .u32,.int .u32,.int .u32,.sl .u8]):Prop:=
 qy (γ:=prodL [.pr .str,.int .u32,.int .u32,.int .u32,.int .u32,.int .u32,.int .u32,.int .u32,.int .u32,.sl .u8]) (fun V y=>qxu K V y.1 y.2.1 y.2.2.1 y.2.2.2.1 y.2.2.2.2.1 y.2.2.2.2.2.1 y.2.2.2.2.2.2.1 y.2.2.2.2.2.2.2.1 y.2.2.2.2.2.2.2.2.1 y.2.2.2.2.2.2.2.2.2.1) g
def qjT (K:Kn) (m:prodL [.pr .str,.int .i64,.int .i64,.int .u32,.int .u32,.int .u32,.int .u32,.int .u32,.int .u32,.int .u32,.int .u32]->Prop) (a:ByteArray) (c b d e f g h i j l:Int):Prop:=
 bif decide (b<c)then (
  (0:Int)<=b/\b<=IntKind.i64.wrap (b+64)/\IntKind.i64.wrap (b+64)<=(a.size:Int)/\
 let g3:prodL [.str,.int .u32,.int .u32,.int .u32,.int .u32,.int .u32,.int .u32,.int .u32,.int .u32]:=(a.extract b.toNat (IntKind.i64.wrap (b+64)).toNat,d,e,f,g,h,i,j,l,());
 qke.pre (g3.2.1,g3.2.2.1,g3.2.2.2.1,g3.2.2.2.2.1,g3.2.2.2.2.2.1,g3.2.2.2.2.2.2.1,g3.2.2.2.2.2.2.2.1,g3.2.2.2.2.2.2.2.2.1,g3.1,())/\
 m (a,c,IntKind.i64.wrap (b+64),(qB [g3.2.1,g3.2.2.1,g3.2.2.2.1,g3.2.2.2.2.1,g3.2.2.2.2.2.1,g3.2.2.2.2.2.2.1,g3.2.2.2.2.2.2.2.1,g3.2.2.2.2.2.2.2.2.1] g3.1).getD 0 0,(qB [g3.2.1,g3.2.2.1,g3.2.2.2.1,g3.2.2.2.2.1,g3.2.2.2.2.2.1,g3.2.2.2.2.2.2.1,g3.2.2.2.2.2.2.2.1,g3.2.2.2.2.2.2.2.2.1] g3.1).getD 1 0,(qB [g3.2.1,g3.2.2.1,g3.2.2.2.1,g3.2.2.2.2.1,g3.2.2.2.2.2.1,g3.2.2.2.2.2.2.1,g3.2.2.2.2.2.2.2.1,g3.2.2.2.2.2.2.2.2.1] g3.1).getD 2 0,(qB [g3.2.1,g3.2.2.1,g3.2.2.2.1,g3.2.2.2.2.1,g3.2.2.2.2.2.1,g3.2.2.2.2.2.2.1,g3.2.2.2.2.2.2.2.1,g3.2.2.2.2.2.2.2.2.1] g3.1).getD 3 0,(qB [g3.2.1,g3.2.2.1,g3.2.2.2.1,g3.2.2.2.2.1,g3.2.2.2.2.2.1,g3.2.2.2.2.2.2.1,g3.2.2.2.2.2.2.2.1,g3.2.2.2.2.2.2.2.2.1] g3.1).getD 4 0,(qB [g3.2.1,g3.2.2.1,g3.2.2.2.1,g3.2.2.2.2.1,g3.2.2.2.2.2.1,g3.2.2.2.2.2.2.1,g3.2.2.2.2.2.2.2.1,g3.2.2.2.2.2.2.2.2.1] g3.1).getD 5 0,(qB [g3.2.1,g3.2.2.1,g3.2.2.2.1,g3.2.2.2.2.1,g3.2.2.2.2.2.1,g3.2.2.2.2.2.2.1,g3.2.2.2.2.2.2.2.1,g3.2.2.2.2.2.2.2.2.1] g3.1).getD 6 0,(qB [g3.2.1,g3.2.2.1,g3.2.2.2.1,g3.2.2.2.2.1,g3.2.2.2.2.2.1,g3.2.2.2.2.2.2.1,g3.2.2.2.2.2.2.2.1,g3.2.2.2.2.2.2.2.2.1] g3.1).getD 7 0,()))
 else (
  (0:Int)<=c/\c<=(a.size:Int)/\(a.size:Int)<=(a.size:Int)/\
 ql (a.extract c.toNat (a.size:Int).toNat).size 1 (
 ql ((zp (a.extract c.toNat (a.size:Int).toNat)).length+[128].length) 1 (
 qji K (a,d,e,f,g,h,i,j,l,(zp (a.extract c.toNat (a.size:Int).toNat))++[128],()))))
def qjf (K:Kn) (g:prodL [.pr .str,.int .i64,.int .i64,.int .u32,.int .u32,.int .u32,.int .u32,.int .u32,.int .u32,.int .u32,.int .u32]):Prop:=
 qy (γ:=prodL [.pr .str,.int .i64,.int .i64,.int .u32,.int .u32,.int .u32,.int .u32,.int .u32,.int .u32,.int .u32,.int .u32]) (fun V y=>qjT K V y.1 y.2.1 y.2.2.1 y.2.2.2.1 y.2.2.2.2.1 y.2.2.2.2.2.1 y.2.2.2.2.2.2.1 y.2.2.2.2.2.2.2.1 y.2.2.2.2.2.2.2.2.1 y.2.2.2.2.2.2.2.2.2.1 y.2.2.2.2.2.2.2.2.2.2.1) g
def qlW (g:prodL qWp) (K:Kn):Prop:=
 ¬64=(0:Int)/\
 qjf K (g.1,IntKind.i64.wrap ((IntKind.i64.wrap (Int.tdiv (g.1.size:Int) 64))*64),0,g.2.1,g.2.2.1,g.2.2.2.1,g.2.2.2.2.1,g.2.2.2.2.2.1,g.2.2.2.2.2.2.1,g.2.2.2.2.2.2.2.1,g.2.2.2.2.2.2.2.2.1,())
theorem qbN (g:prodL qWp) (K X:Kn) (h:qlW g K):FCalls Tryz.prog 111 (argsT qnm qWp g) (qi qnm qrJ qWp g) K X 0:=
 FCalls.settleD (qw Tryz.func111 Tryz.ntmps111 Tryz.results111 (qd qxb qj) qz qAb [] (by kernel_rfl) (by kernel_rfl) h)
end
section
open Go.RowKit
set_option maxRecDepth 100000
def vA (st:List Int) (l:List ByteArray) (n:Nat):List Int:=(l.take n).foldl qB st
theorem qQn (st:List Int) (l:List ByteArray):vA st l 0=st:=by simp [vA]
theorem qZm (st:List Int) {l:List ByteArray} {n:Nat} (h:n<l.length):vA st l (n+1)=qB (vA st l n) l[n]:=by
 unfold vA;rw [vW h,List.foldl_append];rfl
theorem qYJ {st:List Int} (h:st.length=8) (l:List ByteArray) (n:Nat):(vA st l n).length=8:=qJ3 h
theorem qaz (st:List Int) (l:List ByteArray):vA st l l.length=l.foldl qB st:=by unfold vA;rw [List.take_length]
theorem qJy (l:List Int):(xk l).size=l.length:=by
 show (l.map fun n=>UInt8.ofNat n.toNat).toArray.size=_
 simp
theorem qxO (s:ByteArray) (a b:Nat) (hb:b<=s.size):(zp (s.extract a b)).length=b-a:=by
 rw [xD,ByteArray.size_extract];omega
theorem qwS (s:ByteArray):(V2 s).length=s.size%64+1:=by
 unfold V2;rw [Jak,qxO _ _ _ (Jam _),Jal];omega
theorem qva (s:ByteArray):(qvN s).length%64=56/\(qvN s).length<=130:=by
 unfold qvN;rw [Jak,Jb3,qwS];unfold qyT;omega
theorem qXg (s:ByteArray):(Ku s).length%64=0/\(Ku s).length<=138:=by
 have:=qva s;unfold Ku;rw [Jak,Jbs,List.length_range];omega
theorem qyl {x0 x1 x2 x3 x4 x5 x6 x7:Int} {last:List Int} {K:Kn} (h1:last.length%64=0) (h2:last.length<=1000) (h:K (.tu []) [some (.cells [.int .u32 ((((List.range (last.length / 64)).map (kg last)).foldl qB [x0,x1,x2,x3,x4,x5,x6,x7]).getD 0 0),.int .u32 ((((List.range (last.length / 64)).map (kg last)).foldl qB [x0,x1,x2,x3,x4,x5,x6,x7]).getD 1 0),.int .u32 ((((List.range (last.length / 64)).map (kg last)).foldl qB [x0,x1,x2,x3,x4,x5,x6,x7]).getD 2 0),.int .u32 ((((List.range (last.length / 64)).map (kg last)).foldl qB [x0,x1,x2,x3,x4,x5,x6,x7]).getD 3 0),.int .u32 ((((List.range (last.length / 64)).map (kg last)).foldl qB [x0,x1,x2,x3,x4,x5,x6,x7]).getD 4 0),.int .u32 ((((List.range (last.length / 64)).map (kg last)).foldl qB [x0,x1,x2,x3,x4,x5,x6,x7]).getD 5 0),.int .u32 ((((List.range (last.length / 64)).map (kg last)).foldl qB [x0,x1,x2,x3,x4,x5,x6,x7]).getD 6 0),.int .u32 ((((List.range (last.length / 64)).map (kg last)).foldl qB [x0,x1,x2,x3,x4,x5,x6,x7]).getD 7 0)])]):WN K (0,x0,x1,x2,x3,x4,x5,x6,x7,last,()):=by
 have hN:((List.range (last.length / 64)).map (kg last)).length=last.length / 64:=by simp
 have hg: ∀n (hn:n< ((List.range (last.length / 64)).map (kg last)).length),((List.range (last.length / 64)).map (kg last))[n]=kg last n:=fun n hn=>by simp
 rw [<- qaz,hN] at h;have hz:=qQn [x0,x1,x2,x3,x4,x5,x6,x7] ((List.range (last.length / 64)).map (kg last));have hs: ∀n,n<last.length / 64->vA [x0,x1,x2,x3,x4,x5,x6,x7] ((List.range (last.length / 64)).map (kg last)) (n+1)=qB (vA [x0,x1,x2,x3,x4,x5,x6,x7] ((List.range (last.length / 64)).map (kg last)) n) (kg last n):=fun n hn=>by
  rw [qZm _ (by rw [hN];exact hn),hg]
 have hl:=qYJ (st:=[x0,x1,x2,x3,x4,x5,x6,x7]) rfl ((List.range (last.length / 64)).map (kg last));generalize vA [x0,x1,x2,x3,x4,x5,x6,x7] ((List.range (last.length / 64)).map (kg last))=v at h hz hs hl;unfold WN;refine qy.countTo (last.length / 64) (fun n=>(((64*n:Nat):Int),(v n).getD 0 0,(v n).getD 1 0,(v n).getD 2 0,(v n).getD 3 0,(v n).getD 4 0,(v n).getD 5 0,(v n).getD 6 0,(v n).getD 7 0,last,())) (fun _=>True) (by rw [hz];rfl) (fun n hn _ W hW=> ?_) trivial
 show qjq K W ((64*n:Nat):Int) ((v n).getD 0 0) ((v n).getD 1 0) ((v n).getD 2 0) ((v n).getD 3 0) ((v n).getD 4 0) ((v n).getD 5 0) ((v n).getD 6 0) ((v n).getD 7 0) last
 unfold qjq;by_cases hlt:n<last.length / 64
 . rw [Jaa (by omega),Jae]
   have e:IntKind.i64.wrap (((64*n:Nat):Int)+64)=((64*n+64:Nat):Int):=by rw [wI (by omega)];omega
   have hb:(last.drop ((64*n:Nat):Int).toNat).take (((64*n+64:Nat):Int).toNat- ((64*n:Nat):Int).toNat)=(last.drop (64*n)).take 64:=by
    rw [toN,toN,show 64*n+64-64*n=64 by omega]
   rw [e,hb];have hW:=hW hlt trivial;rw [hs n hlt] at hW;obtain ⟨a,b,c,d,e,f,g,k,hv⟩:=qvo (hl n);rw [hv] at hW ⊢;refine ⟨by omega,by omega,by omega, ?_, ?_⟩
   . show (xk ((last.drop (64*n)).take 64)).size=64
     rw [qJy,Jb5,Jb9];omega
   . exact hW
 . have:n=last.length / 64:=by omega
   subst this;rw [Jab (by omega),Jaf]
   exact h
theorem qkH {s:ByteArray} {x0 x1 x2 x3 x4 x5 x6 x7:Int} {K:Kn} (hs:s.size<=4194304) (h:WN K (0,x0,x1,x2,x3,x4,x5,x6,x7,Ku s,())):Wt K (s,56,x0,x1,x2,x3,x4,x5,x6,x7,qvN s,()):=by
 have hp:=qva s;unfold Wt;refine qy.mapN 8 (qrM s) (fun n out=>(s,56-8*(n:Int),x0,x1,x2,x3,x4,x5,x6,x7,qvN s++out,())) (by rw [List.append_nil];rfl) (fun W n hn out ho hW=> ?_) fun W=> ?_
 . show JH K W s (56-8*(n:Int)) x0 x1 x2 x3 x4 x5 x6 x7 (qvN s++out)
   unfold JH;rw [Jaa (by omega),Jae]
   refine ⟨by omega,by simp only [Jak,Jal,ho];omega, ?_⟩
   rw [<- Jat] at hW;rw [wI (by omega),show (56:Int) - 8*(n:Int) - 8=56-8*((n+1:Nat):Int)by omega]
   exact hW
 . show JH K W s (56-8*((8:Nat):Int)) x0 x1 x2 x3 x4 x5 x6 x7 (Ku s)
   unfold JH;rw [Jab (by omega),Jaf]
   exact h
theorem qy0 {s:ByteArray} {x0 x1 x2 x3 x4 x5 x6 x7:Int} {K:Kn} (h:Wt K (s,56,x0,x1,x2,x3,x4,x5,x6,x7,qvN s,())):qji K (s,x0,x1,x2,x3,x4,x5,x6,x7,V2 s,()):=by
 have he:=qwS s;unfold qji;refine qy.countTo (qyT (V2 s).length) (fun n=>(s,x0,x1,x2,x3,x4,x5,x6,x7,V2 s++List.replicate n 0,())) (fun _=>True) (by simp) (fun n hn _ W hW=> ?_) trivial
 show qxu K W s x0 x1 x2 x3 x4 x5 x6 x7 (V2 s++List.replicate n 0)
 unfold qxu;refine ⟨by omega, ?_⟩
 have hlen:(V2 s++List.replicate n 0).length=s.size%64+1+n:=by rw [Jak,Jb3,he]
 rw [hlen,Int.tmod_eq_emod_of_nonneg (Int.natCast_nonneg _)];have hp:qyT (V2 s).length=(120- (s.size%64+1)%64)%64:=by unfold qyT;rw [he]
 by_cases hlt:n<qyT (V2 s).length
 . rw [Jab (show¬((s.size%64+1+n:Nat):Int)%64=56 by omega),Ja4,Jae]
   refine ⟨by simp only [Jal];omega, ?_⟩
   have:=hW hlt trivial;rw [List.replicate_succ', <- Jat] at this;exact this
 . have e:n=qyT (V2 s).length:=by omega
   rw [Jaa (show ((s.size%64+1+n:Nat):Int)%64=56 by omega),Jap,Jaf]
   rw [e];exact h
theorem qdO {s:ByteArray} {x0 x1 x2 x3 x4 x5 x6 x7:Int} {K:Kn} (hsz:s.size<=4194304) (h:K (.tu []) [some (.cells [.int .u32 ((zH [x0,x1,x2,x3,x4,x5,x6,x7] s).getD 0 0),.int .u32 ((zH [x0,x1,x2,x3,x4,x5,x6,x7] s).getD 1 0),.int .u32 ((zH [x0,x1,x2,x3,x4,x5,x6,x7] s).getD 2 0),.int .u32 ((zH [x0,x1,x2,x3,x4,x5,x6,x7] s).getD 3 0),.int .u32 ((zH [x0,x1,x2,x3,x4,x5,x6,x7] s).getD 4 0),.int .u32 ((zH [x0,x1,x2,x3,x4,x5,x6,x7] s).getD 5 0),.int .u32 ((zH [x0,x1,x2,x3,x4,x5,x6,x7] s).getD 6 0),.int .u32 ((zH [x0,x1,x2,x3,x4,x5,x6,x7] s).getD 7 0)])]):qlW (s,x0,x1,x2,x3,x4,x5,x6,x7,()) K:=by
 unfold qlW;refine ⟨by omega, ?_⟩
 have hw:IntKind.i64.wrap (IntKind.i64.wrap (Int.tdiv (s.size:Int) 64)*64)=((s.size / 64*64:Nat):Int):=by
  rw [Int.tdiv_eq_ediv_of_nonneg (Int.natCast_nonneg _),wI (n:=(s.size:Int) / 64) (by omega),wI (by omega)];omega
 show qjf K (s,IntKind.i64.wrap (IntKind.i64.wrap (Int.tdiv (s.size:Int) 64)*64),0,x0,x1,x2,x3,x4,x5,x6,x7,())
 rw [hw];unfold zH at h;rw [List.foldl_append] at h;have hN:(VU s).length=s.size / 64:=by simp [VU]
 have hg: ∀n (hn:n< (VU s).length),(VU s)[n]=qpj s n:=fun n hn=>by simp [VU]
 rw [<- qaz [x0,x1,x2,x3,x4,x5,x6,x7] (VU s),hN] at h;have hz:=qQn [x0,x1,x2,x3,x4,x5,x6,x7] (VU s);have hs: ∀n,n<s.size / 64->vA [x0,x1,x2,x3,x4,x5,x6,x7] (VU s) (n+1)=qB (vA [x0,x1,x2,x3,x4,x5,x6,x7] (VU s) n) (qpj s n):=fun n hn=>by
  rw [qZm _ (by rw [hN];exact hn),hg]
 have hl:=qYJ (st:=[x0,x1,x2,x3,x4,x5,x6,x7]) rfl (VU s);generalize vA [x0,x1,x2,x3,x4,x5,x6,x7] (VU s)=v at h hz hs hl;unfold qjf;refine qy.countTo (s.size / 64) (fun n=>(s,((s.size / 64*64:Nat):Int),((64*n:Nat):Int),(v n).getD 0 0,(v n).getD 1 0,(v n).getD 2 0,(v n).getD 3 0,(v n).getD 4 0,(v n).getD 5 0,(v n).getD 6 0,(v n).getD 7 0,())) (fun _=>True) (by rw [hz];rfl) (fun n hn _ W hW=> ?_) trivial
 show qjT K W s ((s.size / 64*64:Nat):Int) ((64*n:Nat):Int) ((v n).getD 0 0) ((v n).getD 1 0) ((v n).getD 2 0) ((v n).getD 3 0) ((v n).getD 4 0) ((v n).getD 5 0) ((v n).getD 6 0) ((v n).getD 7 0)
 unfold qjT;by_cases hlt:n<s.size / 64
 . rw [Jaa (by omega),Jae]
   have e:IntKind.i64.wrap (((64*n:Nat):Int)+64)=((64*n+64:Nat):Int):=by rw [wI (by omega)];omega
   rw [e,toN,toN];have hW:=hW hlt trivial;rw [hs n hlt] at hW;obtain ⟨a,b,c,d,e,f,g,k,hv⟩:=qvo (hl n);rw [hv] at hW ⊢;refine ⟨by omega,by omega,by omega, ?_, ?_⟩
   . show (s.extract (64*n) (64*n+64)).size=64
     rw [ByteArray.size_extract];omega
   . exact hW
 . have:n=s.size / 64:=by omega
   subst this;rw [Jab (by omega),Jaf]
   obtain ⟨a,b,c,d,e,f,g,k,hv⟩:=qvo (hl (s.size / 64));rw [hv] at h ⊢;rw [toN,toN];have hx:=qxO s (s.size / 64*64) s.size (Jam _);refine ⟨by omega,by omega,by omega,by rw [ByteArray.size_extract];omega,by rw [hx,Jal];omega, ?_⟩
   have hla:=qXg s;exact qy0 (qkH hsz (qyl hla.1 (by omega) h))
def qq9:Raw:=⟨qnm,qrJ,qWp,0,fun g K _=>qKI g/\K (.tu []) [some (.cells [.int .u32 ((zH [g.2.1,g.2.2.1,g.2.2.2.1,g.2.2.2.2.1,g.2.2.2.2.2.1,g.2.2.2.2.2.2.1,g.2.2.2.2.2.2.2.1,g.2.2.2.2.2.2.2.2.1] g.1).getD 0 0),.int .u32 ((zH [g.2.1,g.2.2.1,g.2.2.2.1,g.2.2.2.2.1,g.2.2.2.2.2.1,g.2.2.2.2.2.2.1,g.2.2.2.2.2.2.2.1,g.2.2.2.2.2.2.2.2.1] g.1).getD 1 0),.int .u32 ((zH [g.2.1,g.2.2.1,g.2.2.2.1,g.2.2.2.2.1,g.2.2.2.2.2.1,g.2.2.2.2.2.2.1,g.2.2.2.2.2.2.2.1,g.2.2.2.2.2.2.2.2.1] g.1).getD 2 0),.int .u32 ((zH [g.2.1,g.2.2.1,g.2.2.2.1,g.2.2.2.2.1,g.2.2.2.2.2.1,g.2.2.2.2.2.2.1,g.2.2.2.2.2.2.2.1,g.2.2.2.2.2.2.2.2.1] g.1).getD 3 0),.int .u32 ((zH [g.2.1,g.2.2.1,g.2.2.2.1,g.2.2.2.2.1,g.2.2.2.2.2.1,g.2.2.2.2.2.2.1,g.2.2.2.2.2.2.2.1,g.2.2.2.2.2.2.2.2.1] g.1).getD 4 0),.int .u32 ((zH [g.2.1,g.2.2.1,g.2.2.2.1,g.2.2.2.2.1,g.2.2.2.2.2.1,g.2.2.2.2.2.2.1,g.2.2.2.2.2.2.2.1,g.2.2.2.2.2.2.2.2.1] g.1).getD 5 0),.int .u32 ((zH [g.2.1,g.2.2.1,g.2.2.2.1,g.2.2.2.2.1,g.2.2.2.2.2.1,g.2.2.2.2.2.2.1,g.2.2.2.2.2.2.2.1,g.2.2.2.2.2.2.2.2.1] g.1).getD 6 0),.int .u32 ((zH [g.2.1,g.2.2.1,g.2.2.2.1,g.2.2.2.2.1,g.2.2.2.2.2.1,g.2.2.2.2.2.2.1,g.2.2.2.2.2.2.2.1,g.2.2.2.2.2.2.2.2.1] g.1).getD 7 0)])]⟩
theorem qVw:qq9.Ok Tryz.prog 111:=fun g K X h=>qbN g K X (qdO h.1 h.2)
end
section
open Go.RowKit
attribute [local irreducible] zb qa
set_option maxRecDepth 100000
def H33:List (Nat×Hint):=[(7,⟨[],[],[],[]⟩),(10,⟨[],[],[],[]⟩),(5000010,⟨[],[],[],[]⟩),(9000007,⟨[],[],[],[]⟩)]
def J33:List (Nat×Hint):=[]
abbrev S33:List Sh:=[.leaf]
abbrev L33:List Lf:=[.str]
def F33 (g:prodL L33) (K:Kn):Prop:=
 True/\
 True/\
 qKI (g.1,1779033703,3144134277,1013904242,2773480762,1359893119,2600822924,528734635,1541459225,())/\
 (0:Int)<=0/\(0:Int).toNat<8/\
 (0:Int)<=24/\
 0<=(0:Int)/\(0:Int).toNat<32/\
 (0:Int)<=16/\
 0<=(1:Int)/\(1:Int).toNat<32/\
 (0:Int)<=8/\
 0<=(2:Int)/\(2:Int).toNat<32/\
 (0:Int)<=0/\
 0<=(3:Int)/\(3:Int).toNat<32/\
 (0:Int)<=1/\(1:Int).toNat<8/\
 (0:Int)<=24/\
 0<=(4:Int)/\(4:Int).toNat<32/\
 (0:Int)<=16/\
 0<=(5:Int)/\(5:Int).toNat<32/\
 (0:Int)<=8/\
 0<=(6:Int)/\(6:Int).toNat<32/\
 (0:Int)<=0/\
 0<=(7:Int)/\(7:Int).toNat<32/\
 (0:Int)<=2/\(2:Int).toNat<8/\
 (0:Int)<=24/\
 0<=(8:Int)/\(8:Int).toNat<32/\
 (0:Int)<=16/\
 0<=(9:Int)/\(9:Int).toNat<32/\
 (0:Int)<=8/\
 0<=(10:Int)/\(10:Int).toNat<32/\
 (0:Int)<=0/\
 0<=(11:Int)/\(11:Int).toNat<32/\
 (0:Int)<=3/\(3:Int).toNat<8/\
 (0:Int)<=24/\
 0<=(12:Int)/\(12:Int).toNat<32/\
 (0:Int)<=16/\
 0<=(13:Int)/\(13:Int).toNat<32/\
 (0:Int)<=8/\
 0<=(14:Int)/\(14:Int).toNat<32/\
 (0:Int)<=0/\
 0<=(15:Int)/\(15:Int).toNat<32/\
 (0:Int)<=4/\(4:Int).toNat<8/\
 (0:Int)<=24/\
 0<=(16:Int)/\(16:Int).toNat<32/\
 (0:Int)<=16/\
 0<=(17:Int)/\(17:Int).toNat<32/\
 (0:Int)<=8/\
 0<=(18:Int)/\(18:Int).toNat<32/\
 (0:Int)<=0/\
 0<=(19:Int)/\(19:Int).toNat<32/\
 (0:Int)<=5/\(5:Int).toNat<8/\
 (0:Int)<=24/\
 0<=(20:Int)/\(20:Int).toNat<32/\
 (0:Int)<=16/\
 0<=(21:Int)/\(21:Int).toNat<32/\
 (0:Int)<=8/\
 0<=(22:Int)/\(22:Int).toNat<32/\
 (0:Int)<=0/\
 0<=(23:Int)/\(23:Int).toNat<32/\
 (0:Int)<=6/\(6:Int).toNat<8/\
 (0:Int)<=24/\
 0<=(24:Int)/\(24:Int).toNat<32/\
 (0:Int)<=16/\
 0<=(25:Int)/\(25:Int).toNat<32/\
 (0:Int)<=8/\
 0<=(26:Int)/\(26:Int).toNat<32/\
 (0:Int)<=0/\
 0<=(27:Int)/\(27:Int).toNat<32/\
 (0:Int)<=7/\(7:Int).toNat<8/\
 (0:Int)<=24/\
 0<=(28:Int)/\(28:Int).toNat<32/\
 (0:Int)<=16/\
 0<=(29:Int)/\(29:Int).toNat<32/\
 (0:Int)<=8/\
 0<=(30:Int)/\(30:Int).toNat<32/\
 (0:Int)<=0/\
 0<=(31:Int)/\(31:Int).toNat<32/\
 K (.ag (enc .dig (⟨IntKind.u8.wrap (Int.fdiv ((zH [1779033703,3144134277,1013904242,2773480762,1359893119,2600822924,528734635,1541459225] g.1).getD 0 0) (2^(min (24:Int).toNat IntKind.u32.bits))),IntKind.u8.wrap (Int.fdiv ((zH [1779033703,3144134277,1013904242,2773480762,1359893119,2600822924,528734635,1541459225] g.1).getD 0 0) (2^(min (16:Int).toNat IntKind.u32.bits))),IntKind.u8.wrap (Int.fdiv ((zH [1779033703,3144134277,1013904242,2773480762,1359893119,2600822924,528734635,1541459225] g.1).getD 0 0) (2^(min (8:Int).toNat IntKind.u32.bits))),IntKind.u8.wrap (Int.fdiv ((zH [1779033703,3144134277,1013904242,2773480762,1359893119,2600822924,528734635,1541459225] g.1).getD 0 0) (2^(min (0:Int).toNat IntKind.u32.bits))),IntKind.u8.wrap (Int.fdiv ((zH [1779033703,3144134277,1013904242,2773480762,1359893119,2600822924,528734635,1541459225] g.1).getD 1 0) (2^(min (24:Int).toNat IntKind.u32.bits))),IntKind.u8.wrap (Int.fdiv ((zH [1779033703,3144134277,1013904242,2773480762,1359893119,2600822924,528734635,1541459225] g.1).getD 1 0) (2^(min (16:Int).toNat IntKind.u32.bits))),IntKind.u8.wrap (Int.fdiv ((zH [1779033703,3144134277,1013904242,2773480762,1359893119,2600822924,528734635,1541459225] g.1).getD 1 0) (2^(min (8:Int).toNat IntKind.u32.bits))),IntKind.u8.wrap (Int.fdiv ((zH [1779033703,3144134277,1013904242,2773480762,1359893119,2600822924,528734635,1541459225] g.1).getD 1 0) (2^(min (0:Int).toNat IntKind.u32.bits))),IntKind.u8.wrap (Int.fdiv ((zH [1779033703,3144134277,1013904242,2773480762,1359893119,2600822924,528734635,1541459225] g.1).getD 2 0) (2^(min (24:Int).toNat IntKind.u32.bits))),IntKind.u8.wrap (Int.fdiv ((zH [1779033703,3144134277,1013904242,2773480762,1359893119,2600822924,528734635,1541459225] g.1).getD 2 0) (2^(min (16:Int).toNat IntKind.u32.bits))),IntKind.u8.wrap (Int.fdiv ((zH [1779033703,3144134277,1013904242,2773480762,1359893119,2600822924,528734635,1541459225] g.1).getD 2 0) (2^(min (8:Int).toNat IntKind.u32.bits))),IntKind.u8.wrap (Int.fdiv ((zH [1779033703,3144134277,1013904242,2773480762,1359893119,2600822924,528734635,1541459225] g.1).getD 2 0) (2^(min (0:Int).toNat IntKind.u32.bits))),IntKind.u8.wrap (Int.fdiv ((zH [1779033703,3144134277,1013904242,2773480762,1359893119,2600822924,528734635,1541459225] g.1).getD 3 0) (2^(min (24:Int).toNat IntKind.u32.bits))),IntKind.u8.wrap (Int.fdiv ((zH [1779033703,3144134277,1013904242,2773480762,1359893119,2600822924,528734635,1541459225] g.1).getD 3 0) (2^(min (16:Int).toNat IntKind.u32.bits))),IntKind.u8.wrap (Int.fdiv ((zH [1779033703,3144134277,1013904242,2773480762,1359893119,2600822924,528734635,1541459225] g.1).getD 3 0) (2^(min (8:Int).toNat IntKind.u32.bits))),IntKind.u8.wrap (Int.fdiv ((zH [1779033703,3144134277,1013904242,2773480762,1359893119,2600822924,528734635,1541459225] g.1).getD 3 0) (2^(min (0:Int).toNat IntKind.u32.bits))),IntKind.u8.wrap (Int.fdiv ((zH [1779033703,3144134277,1013904242,2773480762,1359893119,2600822924,528734635,1541459225] g.1).getD 4 0) (2^(min (24:Int).toNat IntKind.u32.bits))),IntKind.u8.wrap (Int.fdiv ((zH [1779033703,3144134277,1013904242,2773480762,1359893119,2600822924,528734635,1541459225] g.1).getD 4 0) (2^(min (16:Int).toNat IntKind.u32.bits))),IntKind.u8.wrap (Int.fdiv ((zH [1779033703,3144134277,1013904242,2773480762,1359893119,2600822924,528734635,1541459225] g.1).getD 4 0) (2^(min (8:Int).toNat IntKind.u32.bits))),IntKind.u8.wrap (Int.fdiv ((zH [1779033703,3144134277,1013904242,2773480762,1359893119,2600822924,528734635,1541459225] g.1).getD 4 0) (2^(min (0:Int).toNat IntKind.u32.bits))),IntKind.u8.wrap (Int.fdiv ((zH [1779033703,3144134277,1013904242,2773480762,1359893119,2600822924,528734635,1541459225] g.1).getD 5 0) (2^(min (24:Int).toNat IntKind.u32.bits))),IntKind.u8.wrap (Int.fdiv ((zH [1779033703,3144134277,1013904242,2773480762,1359893119,2600822924,528734635,1541459225] g.1).getD 5 0) (2^(min (16:Int).toNat IntKind.u32.bits))),IntKind.u8.wrap (Int.fdiv ((zH [1779033703,3144134277,1013904242,2773480762,1359893119,2600822924,528734635,1541459225] g.1).getD 5 0) (2^(min (8:Int).toNat IntKind.u32.bits))),IntKind.u8.wrap (Int.fdiv ((zH [1779033703,3144134277,1013904242,2773480762,1359893119,2600822924,528734635,1541459225] g.1).getD 5 0) (2^(min (0:Int).toNat IntKind.u32.bits))),IntKind.u8.wrap (Int.fdiv ((zH [1779033703,3144134277,1013904242,2773480762,1359893119,2600822924,528734635,1541459225] g.1).getD 6 0) (2^(min (24:Int).toNat IntKind.u32.bits))),IntKind.u8.wrap (Int.fdiv ((zH [1779033703,3144134277,1013904242,2773480762,1359893119,2600822924,528734635,1541459225] g.1).getD 6 0) (2^(min (16:Int).toNat IntKind.u32.bits))),IntKind.u8.wrap (Int.fdiv ((zH [1779033703,3144134277,1013904242,2773480762,1359893119,2600822924,528734635,1541459225] g.1).getD 6 0) (2^(min (8:Int).toNat IntKind.u32.bits))),IntKind.u8.wrap (Int.fdiv ((zH [1779033703,3144134277,1013904242,2773480762,1359893119,2600822924,528734635,1541459225] g.1).getD 6 0) (2^(min (0:Int).toNat IntKind.u32.bits))),IntKind.u8.wrap (Int.fdiv ((zH [1779033703,3144134277,1013904242,2773480762,1359893119,2600822924,528734635,1541459225] g.1).getD 7 0) (2^(min (24:Int).toNat IntKind.u32.bits))),IntKind.u8.wrap (Int.fdiv ((zH [1779033703,3144134277,1013904242,2773480762,1359893119,2600822924,528734635,1541459225] g.1).getD 7 0) (2^(min (16:Int).toNat IntKind.u32.bits))),IntKind.u8.wrap (Int.fdiv ((zH [1779033703,3144134277,1013904242,2773480762,1359893119,2600822924,528734635,1541459225] g.1).getD 7 0) (2^(min (8:Int).toNat IntKind.u32.bits))),IntKind.u8.wrap (Int.fdiv ((zH [1779033703,3144134277,1013904242,2773480762,1359893119,2600822924,528734635,1541459225] g.1).getD 7 0) (2^(min (0:Int).toNat IntKind.u32.bits)))⟩:Dig))) []
theorem qo6 (g:prodL L33) (K X:Kn):F33 g K=zb D (vG [(111,qq9)] [(64,false,qc8),(65,false,qfH)]) (vv [(111,qq9)]) H33 J33 38 [.cell 2 32] (qO Tryz.f33) (argsT S33 L33 g) [] (settle0 K) X 0 1033000:=by kernel_rfl
theorem qnQ (g:prodL L33) (K X:Kn) (h:F33 g K):FCalls Tryz.prog 33 (argsT S33 L33 g) [] K X:=
 FCalls.settle0 (Zl (Γ:=vG [(111,qq9)] [(64,false,qc8),(65,false,qfH)]) (mu:=vv [(111,qq9)]) (H:=H33) (J:=J33) V7 (yz (rs:=[(111,qq9)]) (l:=[(64,false,qc8),(65,false,qfH)]) (by intro p hp;simp only [Jbf,Jb4,or_false] at hp;subst hp;exact qVw) (by intro p hp;simp only [Jbf,Jb4,or_false] at hp;rcases hp with rfl | rfl<;>first | exact qdV | exact qbl)) we rfl Tryz.func33 (c:=qO Tryz.f33) rfl Tryz.ntmps33 Tryz.results33 (by unfold vT;rw [Tryz.func33];kernel_rfl) (Jag (by kernel_rfl)) (c0:=0) (Eq.mp (qo6 g K X) h) (VC [4] (by kernel_rfl) (by kernel_rfl)))
end
section
open Go.RowKit
set_option maxRecDepth 100000
theorem qoZ {s:ByteArray} {K:Kn} (hs:s.size<=4194304) (h:K (.ag (enc .dig (qqF s))) []):F33 (s,()) K:=by
 unfold F33;refine ⟨trivial,trivial,hs, ?_⟩;repeat (refine And.intro (by decide) ?_)
 unfold qqF at h;show K (.ag (enc .dig (qpB (zH st0 s)))) []
 exact h
def qr4:Sp:=⟨S33,L33,fun g=>g.1.size<=4194304,fun g=> .ag (enc .dig (qqF g.1)),fun _=>none⟩
theorem qgK:qr4.Ok Tryz.prog 33 true:=
 .mk (fun g K X hp h=>qnQ g K X (qoZ hp h))
end
section
open Go.RowKit Go.Shelf Go.Lib
set_option maxRecDepth 100000
theorem qZM: ∀l:List UInt8,Lib.compareBytes l l=0
 | []=>rfl
 | a::l=>by
  unfold Lib.compareBytes;simp [qZM l]
theorem qZw: ∀l m:List UInt8,Lib.compareBytes l m= - Lib.compareBytes m l
 | [],[]=>rfl
 | [],_::_=>rfl
 | _::_,[]=>rfl
 | a::l,b::m=>by
  have:=qZw l m;unfold Lib.compareBytes;have h: ∀x y:UInt8,x<y↔x.toNat<y.toNat:=fun x y=>Iff.rfl
  by_cases h1:a<b
  . have h2: ¬b<a:=by rw [h] at h1 ⊢;omega
    simp [h1,h2]
  . by_cases h2:b<a
    . simp [h1,h2]
    . simp [h1,h2,this]
theorem qvm: ∀l m n:List UInt8,Lib.compareBytes l m<=0->Lib.compareBytes m n<=0->Lib.compareBytes l n<=0/\(Lib.compareBytes l n=0->Lib.compareBytes l m=0/\Lib.compareBytes m n=0)
 | [],[],[],_,_=>⟨Int.le_refl 0,fun _=>⟨rfl,rfl⟩⟩
 | [],[],_::_,_,_=>⟨show (-1:Int)<=0 by decide,fun h=>absurd h (show¬(-1:Int)=0 by decide)⟩
 | [],_::_,[],_,h=>absurd h (show¬(1:Int)<=0 by decide)
 | [],_::_,_::_,_,_=>⟨show (-1:Int)<=0 by decide,fun h=>absurd h (show¬(-1:Int)=0 by decide)⟩
 | _::_,[],_,h,_=>absurd h (show¬(1:Int)<=0 by decide)
 | _::_,_::_,[],_,h=>absurd h (show¬(1:Int)<=0 by decide)
 | a::l,b::m,c::n,h1,h2=>by
  have ih:=qvm l m n;unfold Lib.compareBytes at h1 h2 ⊢;have h: ∀x y:UInt8,x<y↔x.toNat<y.toNat:=fun x y=>Iff.rfl
  by_cases a1:a<b
  . by_cases b1:b<c
    . have:a<c:=by rw [h] at a1 b1 ⊢;omega
      simp [this]
    . by_cases b2:c<b
      . simp [b1,b2] at h2
      . have:a<c:=by rw [h] at a1 b1 b2 ⊢;omega
        simp [this]
  . by_cases a2:b<a
    . simp [a1,a2] at h1
    . have e:a=b:=by rw [h] at a1 a2;exact UInt8.toNat_inj.1 (by omega)
      subst e;simp only [a1,if_false] at h1;by_cases b1:a<c
      . simp [b1]
      . by_cases b2:c<a
        . simp [b1,b2] at h2
        . simp only [b1,b2,if_false] at h2 ⊢;simp only [a1,if_false];exact ih h1 h2
theorem qQz (a b:Idn):(idC a b<0)↔(jc a.patch b.patch<0∨(jc a.patch b.patch=0/\a.n<b.n)):=by
 unfold idC;by_cases z:jc a.patch b.patch=0
 . rw [Jaa z,Jap,Jaf];unfold ZS;by_cases h1:a.n<b.n
   . rw [Jaa h1,Jae];exact ⟨fun _=> .inr ⟨z,h1⟩,fun _=>by decide⟩
   . rw [Jab h1,Jaf];by_cases h2:b.n<a.n
     . rw [Jaa h2,Jae];exact ⟨fun h=>absurd h (by decide),fun h=>by omega⟩
     . rw [Jab h2,Jaf];exact ⟨fun h=>absurd h (by decide),fun h=>by omega⟩
 . rw [Jab z,Ja4,Jae];exact ⟨.inl,fun h=>by omega⟩
theorem Vz (a b:Dig):jc a b= - jc b a:=qZw _ _
theorem Yi {a b c:Dig} (h1:jc a b<=0) (h2:jc b c<=0):jc a c<=0/\(jc a c=0->jc a b=0/\jc b c=0):=qvm _ _ _ h1 h2
theorem qXf (a:Dig):jc a a=0:=qZM _
theorem qYH:Go.Sort.SWO (ltOf idC) where
 irrefl x:=by
  unfold ltOf;rw [Jb6,qQz,qXf];omega
 trans x y z h1 h2:=by
  unfold ltOf at *;rw [Jbk,qQz] at *;have:=Yi (a:=x.patch) (b:=y.patch) (c:=z.patch);omega
 ntrans x y z h1 h2:=by
  unfold ltOf at *;rw [Jb6,qQz] at *;have:=Yi (a:=z.patch) (b:=y.patch) (c:=x.patch);have e1:=Vz x.patch y.patch;have e2:=Vz y.patch z.patch;have e3:=Vz x.patch z.patch;omega
instance:Inhabited Idn:=⟨iz⟩
instance:Inhabited Dig:=⟨dz⟩
def YF (l:List Idn):List Idn:=(Go.Sort.pdq (ltOf idC) l.toArray 0 l.toArray.size (Lib.bitLen l.toArray.size) true true).toList
def idP (a m:ByteArray) (t:Int) (ds:List Dig) (cs:List Chg):Dig×Int:=bif !decide ((j7 a m t ds cs).2.2=0)then (dz,(j7 a m t ds cs).2.2)else (qqF (j7 a m t ds cs).2.1,0)
def xw (d:Dig) (x:Idn):Idn:=bif (bif ZJ x then decide (0<=x.n)else false)then ⟨d,x.n⟩else x
def qoe (d:Dig) (x:Atm):Atm:=⟨x.id,x.kind,x.file,x.typ,x.parent,x.name,x.mode,x.data,x.text,x.frm,x.til,YF (x.over.map (xw d))⟩
def qgH (d:Dig) (x:Atm):Atm:=bif decide (x.kind=6)then qoe d ⟨x.id,x.kind,x.file,x.typ,x.parent,x.name,x.mode,x.data,x.text,xw d x.frm,xw d x.til,x.over⟩else qoe d x
def qe4 (d:Dig) (x:Atm):Atm:=bif decide (x.kind=2)then qgH d ⟨x.id,x.kind,x.file,x.typ,xw d x.parent,x.name,x.mode,x.data,x.text,x.frm,x.til,x.over⟩else qgH d x
def qyM (d:Dig) (x:Atm):Atm:=bif !decide (x.kind=7)then qe4 d ⟨xw d x.id,x.kind,xw d x.file,x.typ,x.parent,x.name,x.mode,x.data,x.text,x.frm,x.til,x.over⟩else qe4 d ⟨xw d x.id,x.kind,x.file,x.typ,x.parent,x.name,x.mode,x.data,x.text,x.frm,x.til,x.over⟩
def kG (a m:ByteArray) (t:Int) (ds:List Dig) (cs:List Chg):List Atm×Int:=
 bif !decide ((j7 a m t ds cs).2.2=0)then ([],(j7 a m t ds cs).2.2)else bif !decide ((idP a m t ds cs).2=0)then ([],(idP a m t ds cs).2)else ((j7 a m t ds cs).1.map (qyM (idP a m t ds cs).1),0)
def qi4 (g:prodL [.sl .idk]):Prop:=g.1.length<=4194304
end
section
open Go.RowKit Go.Lib Go.Shelf Go.Sort
theorem qVi {P:Program} {w:World} {b off:Nat} {l:List Int} (hc: ∀(j:Nat) (y:Int),l[j]? =some y->w.cell? ((⟨b,off,none⟩:Addr).add j)=some (.int .u8 y)) (c:Nat):
  (Extern.Bytes.bytesOf (.slice (some ⟨b,off,none⟩) l.length c)).run P w= .ok ⟨(bs l).toArray⟩ w:=by
 have hl:=run_loadBytesX (P:=P) w l ⟨b,off,none⟩ .empty hc;show (Extern.Bytes.loadBytes ⟨b,off,none⟩ l.length .empty).run P w=_
 rw [hl];congr 1
 apply ByteArray.ext;show (#[]:Array UInt8)++(Lib.bytesOf l).toArray=(bs l).toArray
 rw [Array.empty_append];rfl
set_option maxHeartbeats 1000000 in
set_option maxRecDepth 100000 in
theorem qr0 (x:Int) (W:World):Calls Tryz.prog 83 #[.int .i64 x] W fun e w'=>e= .returned (.bool false)/\w'=W:=by
 go_enter Tryz.func83,Tryz.ntmps83
 go_wp2
 go_ret
 exact ⟨rfl,rfl⟩
set_option maxHeartbeats 1000000 in
set_option maxRecDepth 100000 in
theorem qsQ (x y:Int) (W:World):Calls Tryz.prog 41 #[.int .i64 x,.int .i64 y] W fun e w'=>e= .returned (.int .i64 (ZS x y))/\w'=W:=by
 have hn:=fun x W=>qr0 x W
 go_enter Tryz.func41,Tryz.ntmps41
 go_wp2_with (go_at_call 83;refine (hn _ _).mono ?_;rintro e w' ⟨rfl,rfl⟩)
 . have e:ZS x y= -1:=by unfold ZS;rw [Jaa (by assumption)];rfl
   rw [e];go_ret;exact ⟨rfl,rfl⟩
 . have e:ZS x y=1:=by unfold ZS;rw [Jab (by omega),Jaf,Jaa (by assumption)];rfl
   rw [e];go_ret;exact ⟨rfl,rfl⟩
 . have e:ZS x y=0:=by unfold ZS;rw [Jab (by omega),Jaf,Jab (by omega)];rfl
   rw [e];go_ret;exact ⟨rfl,rfl⟩
def xm (x:Idn):List Value:=[.int .u8 x.patch.b0,.int .u8 x.patch.b1,.int .u8 x.patch.b2,.int .u8 x.patch.b3,.int .u8 x.patch.b4,.int .u8 x.patch.b5,.int .u8 x.patch.b6,.int .u8 x.patch.b7,.int .u8 x.patch.b8,.int .u8 x.patch.b9,.int .u8 x.patch.b10,.int .u8 x.patch.b11,.int .u8 x.patch.b12,.int .u8 x.patch.b13,.int .u8 x.patch.b14,.int .u8 x.patch.b15,.int .u8 x.patch.b16,.int .u8 x.patch.b17,.int .u8 x.patch.b18,.int .u8 x.patch.b19,.int .u8 x.patch.b20,.int .u8 x.patch.b21,.int .u8 x.patch.b22,.int .u8 x.patch.b23,.int .u8 x.patch.b24,.int .u8 x.patch.b25,.int .u8 x.patch.b26,.int .u8 x.patch.b27,.int .u8 x.patch.b28,.int .u8 x.patch.b29,.int .u8 x.patch.b30,.int .u8 x.patch.b31,.int .i64 x.n]
set_option maxHeartbeats 1000000 in
set_option maxRecDepth 100000 in
theorem qmZ (x y:Idn) (W:World) (r r2:Int) (h3: ∀q,Calls Tryz.prog 40 #[.slice (some ⟨W.heap.size,0,none⟩) 32 32,.slice (some ⟨W.heap.size+1,0,none⟩) 32 32] ((((W.alloc (.cells (xm x).toArray 36)).alloc (.cells (xm y).toArray 36))).drewN q) fun e w'=>e= .returned (.int .i64 r)/\w'=((((W.alloc (.cells (xm x).toArray 36)).alloc (.cells (xm y).toArray 36))).drewN q))
  (h41: ∀W:World,Calls Tryz.prog 41 #[.int .i64 x.n,.int .i64 y.n] W fun e w'=>e= .returned (.int .i64 r2)/\w'=W):
  Calls Tryz.prog 17 #[.agg (xm x).toArray,.agg (xm y).toArray] W fun e w'=>e= .returned (.int .i64 (bif !decide (r=0)then r else r2))/\ ∃q os',w'=grow (W.drewN q) os':=by
 unfold xm at h3 ⊢;go_enter Tryz.func17,Tryz.ntmps17
 go_wp2
 go_quiet (first | (go_at_call 40;refine Calls.quiet_of_same (h3 _)))
 go_wp2_with (go_at_call 41;refine (h41 _).mono ?_;rintro e w' ⟨rfl,rfl⟩)
 . rename_i hh;rw [show (bif !decide (r=0)then r else r2)=r by rw [Jab (by simpa using hh)];rfl]
   go_ret
   refine ⟨by kernel_rfl, ?_⟩
   exact ⟨_,_,by rw [alloc_eq_grow,alloc_eq_grow,grow_grow];rfl⟩
 . rename_i hh;rw [show (bif !decide (r=0)then r else r2)=r2 by rw [Jaa (by simpa using hh)];rfl]
   go_ret
   refine ⟨by kernel_rfl, ?_⟩
   exact ⟨_,_,by rw [alloc_eq_grow,alloc_eq_grow,grow_grow];rfl⟩
theorem qtG (x y:Idn) (W:World):Calls Tryz.prog 17 #[.agg (xm x).toArray,.agg (xm y).toArray] W fun e w'=>e= .returned (.int .i64 (idC x y))/\ ∃q os',w'=grow (W.drewN q) os':=by
 have hb: ∀(d:Idn) (n:Nat) (w:World),w.heap[n]? =some (.cells (xm d).toArray 36 (0,0))->(Extern.Bytes.bytesOf (.slice (some ⟨n,0,none⟩) 32 32)).run Tryz.prog w= .ok ⟨(bs (xB d.patch)).toArray⟩ w:=fun d n w hw=>qVi (l:=xB d.patch) (fun j z hz=>by
  have:(xm d)[j]? =some (.int .u8 z):=by
   have e:xm d=(xB d.patch).map (Value.int .u8)++[.int .i64 d.n]:=rfl;have hj:j< ((xB d.patch).map (Value.int .u8)).length:=by
    rw [Jbs];exact (Jai.1 hz).1
   rw [e,Jav hj,Jax,hz];rfl
  simp only [Addr.add_lit,World.cell?,hw];simpa using this) 32
 have h1: ∀q,(Extern.Bytes.bytesOf (.slice (some ⟨W.heap.size,0,none⟩) 32 32)).run Tryz.prog ((((W.alloc (.cells (xm x).toArray 36)).alloc (.cells (xm y).toArray 36))).drewN q)= .ok ⟨(bs (xB x.patch)).toArray⟩ _:=fun q=>hb x _ _ (by show ((W.heap.push _).push _)[W.heap.size]? =_;simp [Array.getElem?_push])
 have h2: ∀q,(Extern.Bytes.bytesOf (.slice (some ⟨W.heap.size+1,0,none⟩) 32 32)).run Tryz.prog ((((W.alloc (.cells (xm x).toArray 36)).alloc (.cells (xm y).toArray 36))).drewN q)= .ok ⟨(bs (xB y.patch)).toArray⟩ _:=fun q=>hb y _ _ (by show ((W.heap.push (.cells (xm x).toArray 36 (0,0))).push _)[W.heap.size+1]? =_;rw [show W.heap.size+1=(W.heap.push (.cells (xm x).toArray 36 (0,0))).size by simp,Array.getElem?_push_size])
 have h3: ∀q,Calls Tryz.prog 40 #[.slice (some ⟨W.heap.size,0,none⟩) 32 32,.slice (some ⟨W.heap.size+1,0,none⟩) 32 32] ((((W.alloc (.cells (xm x).toArray 36)).alloc (.cells (xm y).toArray 36))).drewN q) fun e w'=>e= .returned (.int .i64 (jc x.patch y.patch))/\w'=_:=fun q=>qz5 (h1 q) (h2 q)
 exact qmZ x y W _ _ h3 fun W=>qsQ x.n y.n W
end
end Go.Proofs.YtbglndogddddoaaGreatDoor
