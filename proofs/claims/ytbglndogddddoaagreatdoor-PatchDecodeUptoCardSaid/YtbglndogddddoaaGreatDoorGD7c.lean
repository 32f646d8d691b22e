import Derived.Test.YtbglndogddddoaaGreatDoorGD7b
set_option linter.unusedVariables false
set_option linter.unusedSimpArgs false
set_option linter.unusedSectionVars false
namespace Go.Proofs.YtbglndogddddoaaGreatDoor
section
open Go.RowKit
set_option maxRecDepth 100000
abbrev KCh (K:Kn) (l:List Sx) (b:Bool):Chg×Bool->Prop:=fun r=>K (.ag (enc .chg r.1)) [some (.cells [.sl false .sexp l,.bool (b||r.2)])]
theorem Jw {K:Kn} {l q:List Sx} {b p:Bool} {t c:Chg} {ls:List ByteArray} (h:KCh K l b (⟨c.kind,c.file,c.typ,c.parent,c.name,c.mode,c.data,c.after,c.before,ls,c.over⟩,p)):XB K l b t q p c ls:=by
 unfold XB jQ;exact qjY (J:=fun b=>qZv K l b t ⟨c.kind,c.file,c.typ,c.parent,c.name,c.mode,c.data,c.after,c.before,[],c.over⟩ ls) h
theorem vY {K:Kn} {l:List Sx} {b:Bool} {t:Chg} {kind typ mode:Int} {file parent after before:Idn} {name data:ByteArray} {over:List Idn} {r:yc} (hb:qV r.1<=zV) (h:KCh K l b (cP3 ⟨kind,file,typ,parent,name,mode,data,after,before,[],over⟩ r)):
  WA K l b t r.1 r.2 ⟨kind,file,typ,parent,name,mode,data,after,before,[],over⟩ []:=by
 unfold WA jQ;unfold cP3 at h;dsimp only at h ⊢;cases e1:decide (kind=5)
 . rw [e1,Jaf] at h;rw [Jaf];cases e2:decide (2<=kind)
   . rw [e2,Jaf] at h;rw [Jaf];exact Jw h
   . rw [e2,Jae] at h;rw [Jae];exact ⟨hb,Jw h⟩
 . rw [e1,Jae] at h;rw [Jae];refine ⟨trivial, ?_⟩;rw [xr (f:=lPx) fun _=>rfl] at h
   rw [show (r.1,r.2)=r from rfl,xr (f:=zJ) fun _=>rfl]
   have hs:qV (zz r.1).list<=zV:=vD hb;have hlim:zV=1073741824:=rfl;have hlen:=jF (zz r.1).list;unfold qQE;refine qy.map (zz r.1).list (fun x=>x.atom) (fun n out=>((zz r.1).list,(((zz r.1).list.length:Nat):Int),n,l,b,t,(xT r).1,(xT r).2,⟨kind,file,typ,parent,name,mode,data,after,before,[],over⟩,out,())) (by omega) rfl (fun W n hn out ho hW=> ?_) fun W=> ?_
   . show Jb K (fun y=>XB K y.1 y.2.1 y.2.2.1 y.2.2.2.1 y.2.2.2.2.1 y.2.2.2.2.2.1 y.2.2.2.2.2.2.1) W (zz r.1).list (zz r.1).list.length n l b t _ _ _ out
     unfold Jb;rw [qu hn,Jae];exact qD hn ⟨by simp only [Jal,ho];omega,hW⟩
   . show Jb K (fun y=>XB K y.1 y.2.1 y.2.2.1 y.2.2.2.1 y.2.2.2.2.1 y.2.2.2.2.2.1 y.2.2.2.2.2.2.1) W (zz r.1).list (zz r.1).list.length (zz r.1).list.length l b t _ _ _ _
     unfold Jb;rw [qm,Jaf];exact Jw h
theorem qz6 {K:Kn} {l:List Sx} {b d:Bool} {t:Chg} {kind typ mode:Int} {file parent after before:Idn} {name data:ByteArray} {over:List Idn} {r:yc} (hb:qV r.1<=zV)
  (h:KCh K l b (bif d then cP3 ⟨kind,file,typ,parent,name,mode,data,(qq zC r).1,(qq zC (qq zC r).2).1,[],over⟩ (qq zC (qq zC r).2).2 else cP3 ⟨kind,file,typ,parent,name,mode,data,after,before,[],over⟩ r)):
  qko K (fun y=>WA K y.1 y.2.1 y.2.2.1 y.2.2.2.1 y.2.2.2.2.1 y.2.2.2.2.2.1 y.2.2.2.2.2.2.1) d l b t r.1 r.2 ⟨kind,file,typ,parent,name,mode,data,after,before,[],over⟩ []:=by
 unfold qko;cases d
 . exact vY hb h
 . exact ⟨hb,zO hb,vY (zO (zO hb)) h⟩
theorem Yp {K:Kn} {l:List Sx} {b:Bool} {t:Chg} {kind typ mode:Int} {file parent after before:Idn} {name data:ByteArray} {over:List Idn} {r:yc} (hb:qV r.1<=zV) (h:KCh K l b (cP2 ⟨kind,file,typ,parent,name,mode,data,after,before,[],over⟩ r)):
  QR K l b t r.1 r.2 ⟨kind,file,typ,parent,name,mode,data,after,before,[],over⟩ []:=by
 unfold QR jQ;unfold cP2 at h;dsimp only at h ⊢;cases e1:decide (kind=1);rotate_left
 . rw [e1,Jae] at h;exact ⟨hb,vY (zO hb) h⟩
 rw [e1,Jaf] at h;rw [Jaf];cases e2:decide (kind=2);rotate_left
 . rw [e2,Jae] at h;exact ⟨hb,trivial,vY (zO (zO hb)) h⟩
 rw [e2,Jaf] at h;rw [Jaf];cases e3:decide (kind=3);rotate_left
 . rw [e3,Jae] at h;exact ⟨hb,vY (zO hb) h⟩
 rw [e3,Jaf] at h;rw [Jaf];cases e4:decide (kind=4);rotate_left
 . rw [e4,Jae] at h;exact ⟨trivial,vY (zO hb) h⟩
 rw [e4,Jaf] at h;rw [Jaf];cases e5:decide (kind=5)
 . rw [e5] at h;exact qz6 hb h
 . rw [e5] at h;exact qz6 hb h
def qiB (g:prodL L55):Prop:=qV g.1<=zV
def qAI:Raw:=⟨S55,O55,L55,0,fun g K _=>qiB g/\K (.ag (enc .chg (qq JX (g.1,g.2.1)).1)) [some (.cells [.sl false .sexp (qq JX (g.1,g.2.1)).2.1,.bool (qq JX (g.1,g.2.1)).2.2])]⟩
theorem qXT {K:Kn} {l:List Sx} {b d:Bool} {t:Chg} {k:Int} {r:yc} (hb:qV r.1<=zV) (h:KCh K l b (bif d then cP2 ⟨k,(qq zC r).1,0,iz,⟨#[]⟩,0,⟨#[]⟩,iz,iz,[],[]⟩ (qq zC r).2 else cP2 (qF k) r)):
  Y0 K (fun y=>QR K y.1 y.2.1 y.2.2.1 y.2.2.2.1 y.2.2.2.2.1 y.2.2.2.2.2.1 y.2.2.2.2.2.2.1) d l b t r.1 r.2 (qF k) []:=by
 unfold Y0;cases d
 . exact Yp hb h
 . exact ⟨hb,Yp (zO hb) h⟩
theorem qbs:qAI.Ok Tryz.prog 55:=fun g K X h=>qmW g K X (by
 obtain ⟨hb,h⟩:=h;have hs:qV (zz g.1).list<=zV:=vD hb;refine ⟨trivial,hs, ?_⟩;unfold jQ;rw [xr (f:=zJ) fun _=>rfl]
 have h:KCh K (xT (g.1,g.2.1)).1 (xT (g.1,g.2.1)).2 (cP1 (qF (qq zq ((zz g.1).list,false)).1) (qq zq ((zz g.1).list,false)).2):=h;unfold cP1 at h;have hJ: ∀d,KCh K (xT (g.1,g.2.1)).1 (xT (g.1,g.2.1)).2 (bif d then cP2 ⟨(qq zq ((zz g.1).list,false)).1,(qq zC (qq zq ((zz g.1).list,false)).2).1,0,iz,⟨#[]⟩,0,⟨#[]⟩,iz,iz,[],[]⟩ (qq zC (qq zq ((zz g.1).list,false)).2).2 else cP2 (qF (qq zq ((zz g.1).list,false)).1) (qq zq ((zz g.1).list,false)).2)->
   Y0 K (fun y=>QR K y.1 y.2.1 y.2.2.1 y.2.2.2.1 y.2.2.2.2.1 y.2.2.2.2.2.1 y.2.2.2.2.2.2.1) d (xT (g.1,g.2.1)).1 (xT (g.1,g.2.1)).2 cz (qq zq ((zz g.1).list,false)).2.1 (qq zq ((zz g.1).list,false)).2.2 (qF (qq zq ((zz g.1).list,false)).1) []:=fun d h=>qXT (zO hs) h
 exact vz (J:=fun d=>Y0 K (fun y=>QR K y.1 y.2.1 y.2.2.1 y.2.2.2.1 y.2.2.2.2.1 y.2.2.2.2.2.1 y.2.2.2.2.2.2.1) d _ _ cz _ _ (qF _) []) (f:=fun d=>bif d then cP2 ⟨(qq zq ((zz g.1).list,false)).1,(qq zC (qq zq ((zz g.1).list,false)).2).1,0,iz,⟨#[]⟩,0,⟨#[]⟩,iz,iz,[],[]⟩ (qq zC (qq zq ((zz g.1).list,false)).2).2 else cP2 (qF (qq zq ((zz g.1).list,false)).1) (qq zq ((zz g.1).list,false)).2) (K:=KCh K (xT (g.1,g.2.1)).1 (xT (g.1,g.2.1)).2) hJ h)
theorem ZB {K:Kn} {l:List Sx} {b:Bool} {t c:Chg} {r:yc} (h:KCh K l b (c,Y1 r)):qxY K l b t r.1 r.2 c:=by
 unfold qxY jQ;exact qn6 (J:=fun b=>qZg K l b t c) h
theorem vX {K:Kn} {l:List Sx} {b:Bool} {t c:Chg} {r:yc} (hb:qV r.1<=zV) (h:KCh K l b (cR3 c r)):Wr K l b t r.1 r.2 c:=by
 unfold Wr jQ;unfold cR3 at h;dsimp only;cases e1:decide (c.kind=5)
 . rw [e1,Jaf] at h;rw [Jaf];cases e2:decide (c.kind=1)
   . rw [e2,Ja4,Jae] at h;rw [Ja4,Jae];exact ⟨hb,ZB h⟩
   . rw [e2,Jap,Jaf] at h;rw [Jap,Jaf];exact ZB h
 . rw [e1,Jae] at h;exact ⟨hb,ZB h⟩
theorem qzp {K:Kn} {l:List Sx} {b d:Bool} {t c:Chg} {r:yc} (hb:qV r.1<=zV)
  (h:KCh K l b (bif d then cR3 ⟨c.kind,c.file,c.typ,c.parent,c.name,c.mode,c.data,(qq zt r).1,(qq zt (qq zt r).2).1,c.lines,c.over⟩ (qq zt (qq zt r).2).2 else cR3 c r)):qyG K (fun y=>Wr K y.1 y.2.1 y.2.2.1 y.2.2.2.1 y.2.2.2.2.1 y.2.2.2.2.2.1) d l b t r.1 r.2 c:=by
 unfold qyG;cases d
 . exact vX hb h
 . exact ⟨hb,zO hb,vX (zO (zO hb)) h⟩
theorem Yq {K:Kn} {l:List Sx} {b:Bool} {t c:Chg} {r:yc} (hb:qV r.1<=zV) (h:KCh K l b (cR2 c r)):QT K l b t r.1 r.2 c:=by
 unfold QT jQ;unfold cR2 at h;dsimp only;cases e1:decide (c.kind=1);rotate_left
 . rw [e1,Jae] at h;exact ⟨hb,vX (zO hb) h⟩
 rw [e1,Jaf] at h;rw [Jaf];cases e2:decide (c.kind=2);rotate_left
 . rw [e2,Jae] at h;exact ⟨hb,trivial,vX (zO (zO hb)) h⟩
 rw [e2,Jaf] at h;rw [Jaf];cases e3:decide (c.kind=3);rotate_left
 . rw [e3,Jae] at h;exact ⟨hb,vX (zO hb) h⟩
 rw [e3,Jaf] at h;rw [Jaf];cases e4:decide (c.kind=4);rotate_left
 . rw [e4,Jae] at h;exact ⟨trivial,vX (zO hb) h⟩
 rw [e4,Jaf] at h;rw [Jaf];cases e5:decide (c.kind=5)
 . rw [e5] at h;exact qzp hb h
 . rw [e5] at h;exact qzp hb h
theorem qXp {K:Kn} {l:List Sx} {b d:Bool} {t:Chg} {k:Int} {r:yc} (hb:qV r.1<=zV) (h:KCh K l b (bif d then cR2 ⟨k,(qq zt r).1,0,iz,⟨#[]⟩,0,⟨#[]⟩,iz,iz,[],[]⟩ (qq zt r).2 else cR2 (qF k) r)):
  Kl K (fun y=>QT K y.1 y.2.1 y.2.2.1 y.2.2.2.1 y.2.2.2.2.1 y.2.2.2.2.2.1) d l b t r.1 r.2 (qF k):=by
 unfold Kl;cases d
 . exact Yq hb h
 . exact ⟨hb,Yq (zO hb) h⟩
def qhB (g:prodL L61):Prop:=qV g.1<=zV
def qBP:Raw:=⟨S61,O61,L61,0,fun g K _=>qhB g/\K (.ag (enc .chg (qq ZU (g.1,g.2.1)).1)) [some (.cells [.sl false .sexp (qq ZU (g.1,g.2.1)).2.1,.bool (qq ZU (g.1,g.2.1)).2.2])]⟩
theorem qff:qBP.Ok Tryz.prog 61:=fun g K X h=>qoj g K X (by
 obtain ⟨hb,h⟩:=h;have hs:qV (zz g.1).list<=zV:=vD hb;refine ⟨trivial,hs, ?_⟩;unfold jQ;have h:KCh K (xT (g.1,g.2.1)).1 (qq qN (g.1,g.2.1)).2.2 (Js (qF (qq zq ((zz g.1).list,false)).1) (qq zq ((zz g.1).list,false)).2):=by
  show K _ [some (.cells [_,.bool (((xT (g.1,g.2.1)).2|| !(zz g.1).isList)||_)])]
  rw [Jcl];exact h
 unfold Js at h;have hJ: ∀d,KCh K (xT (g.1,g.2.1)).1 (qq qN (g.1,g.2.1)).2.2 (bif d then cR2 ⟨(qq zq ((zz g.1).list,false)).1,(qq zt (qq zq ((zz g.1).list,false)).2).1,0,iz,⟨#[]⟩,0,⟨#[]⟩,iz,iz,[],[]⟩ (qq zt (qq zq ((zz g.1).list,false)).2).2 else cR2 (qF (qq zq ((zz g.1).list,false)).1) (qq zq ((zz g.1).list,false)).2)->
   Kl K (fun y=>QT K y.1 y.2.1 y.2.2.1 y.2.2.2.1 y.2.2.2.2.1 y.2.2.2.2.2.1) d (xT (g.1,g.2.1)).1 (qq qN (g.1,g.2.1)).2.2 cz (qq zq ((zz g.1).list,false)).2.1 (qq zq ((zz g.1).list,false)).2.2 (qF (qq zq ((zz g.1).list,false)).1):=fun d h=>qXp (zO hs) h
 exact vz (J:=fun d=>Kl K (fun y=>QT K y.1 y.2.1 y.2.2.1 y.2.2.2.1 y.2.2.2.2.1 y.2.2.2.2.2.1) d _ _ cz _ _ (qF _)) (f:=fun d=>bif d then cR2 ⟨(qq zq ((zz g.1).list,false)).1,(qq zt (qq zq ((zz g.1).list,false)).2).1,0,iz,⟨#[]⟩,0,⟨#[]⟩,iz,iz,[],[]⟩ (qq zt (qq zq ((zz g.1).list,false)).2).2 else cR2 (qF (qq zq ((zz g.1).list,false)).1) (qq zq ((zz g.1).list,false)).2) (K:=KCh K (xT (g.1,g.2.1)).1 (qq qN (g.1,g.2.1)).2.2) hJ h)
end
section
open Go.RowKit
attribute [local irreducible] zb qa
set_option maxRecDepth 100000
def H30:List (Nat×Hint):=[(8,⟨[((2,[]),none),((6,[]),none),((7,[]),none),((8,[]),none),((7,[3]),some .dig)],[(0,.leaf),(2,.pt 0 0),(6,.pt 1 0),(7,.pt 2 0),(8,.pt 3 0)],[.cells [.leaf,.leaf,.leaf,.nil,.nil],.cells [.leaf,.leaf],.cells [.leaf,.leaf,.leaf,.oa .dig 4,.nil],.cells [.leaf,.leaf],.arr .dig],[.str,.str,.str,.int .i64,.sl .sexp,.bool,.str,.str,.int .i64,.sl .sexp,.bool,.sl .dig]⟩),(11,⟨[((2,[]),none),((6,[]),none),((7,[]),none),((8,[]),none),((9,[]),none),((7,[3]),none),((7,[4]),some .chg)],[(0,.leaf),(2,.pt 0 0),(6,.pt 1 0),(7,.pt 2 0),(8,.pt 3 0),(9,.pt 4 0)],[.cells [.leaf,.leaf,.leaf,.nil,.nil],.cells [.leaf,.leaf],.cells [.leaf,.leaf,.leaf,.oa .dig 5,.oa .chg 6],.cells [.leaf,.leaf],.cells [.leaf,.leaf],.arr .dig,.arr .chg],[.str,.str,.str,.int .i64,.sl .sexp,.bool,.str,.str,.int .i64,.sl .sexp,.bool,.sl .sexp,.bool,.sl .dig,.sl .chg]⟩)]
def J30:List (Nat×Hint):=[(3,⟨[((2,[]),none),((4,[]),none)],[(0,.leaf),(2,.pt 0 0),(4,.pt 1 0),(23,.leaf)],[.cells [.leaf,.leaf,.leaf,.nil,.nil],.cells [.leaf,.leaf,.leaf]],[.str,.bool,.str,.str,.int .i64,.bool,.str,.sl .sexp]⟩),(13,⟨[((2,[]),none),((6,[]),none),((7,[]),none),((8,[]),none),((9,[]),none),((7,[3]),none),((7,[4]),none)],[(0,.leaf),(2,.pt 0 0),(6,.pt 1 0),(7,.pt 2 0),(8,.pt 3 0),(9,.pt 4 0)],[.cells [.leaf,.leaf,.leaf,.nil,.nil],.cells [.leaf,.leaf],.cells [.leaf,.leaf,.leaf,.oa .dig 5,.oa .chg 6],.cells [.leaf,.leaf],.cells [.leaf,.leaf],.arr .dig,.arr .chg],[.str,.str,.str,.int .i64,.sl .sexp,.bool,.str,.str,.int .i64,.sl .sexp,.bool,.sl .sexp,.bool,.sl .dig,.sl .chg]⟩),(14,⟨[((2,[]),none),((7,[]),none),((7,[3]),none),((7,[4]),none)],[(0,.leaf),(2,.pt 0 0),(7,.pt 1 0),(71,.leaf)],[.cells [.leaf,.leaf,.leaf,.nil,.nil],.cells [.leaf,.leaf,.leaf,.oa .dig 2,.oa .chg 3],.arr .dig,.arr .chg],[.str,.bool,.str,.str,.int .i64,.str,.str,.int .i64,.sl .dig,.sl .chg]⟩),(17,⟨[((2,[]),none),((7,[]),none),((7,[3]),none),((7,[4]),none)],[(2,.pt 0 0),(7,.pt 1 0),(84,.leaf)],[.cells [.leaf,.leaf,.leaf,.nil,.nil],.cells [.leaf,.leaf,.leaf,.oa .dig 2,.oa .chg 3],.arr .dig,.arr .chg],[.bool,.str,.str,.int .i64,.str,.str,.int .i64,.sl .dig,.sl .chg]⟩)]
abbrev S30:List Sh:=[.leaf]
abbrev L30:List Lf:=[.str]
def qxe (K:Kn) (a:Bool) (g h:ByteArray) (i:Int) (b c:ByteArray) (d:Int) (e:List Dig) (f:List Chg):Prop:=
 bif a then (
  K (.tu [.ag [.str (⟨#[]⟩:ByteArray),.str (⟨#[]⟩:ByteArray),.int .i64 0,.nil,.nil],.int .i64 12]) [])
 else (
  K (.tu [.ag [.str b,.str c,.int .i64 d,.sl false .dig e,.sl false .chg f],.int .i64 0]) [])
def Q0 (K:Kn) (i:ByteArray) (j:Bool) (f g:ByteArray) (h:Int) (a b:ByteArray) (c:Int) (d:List Dig) (e:List Chg):Prop:=
 bif j then (
  K (.tu [.ag [.str (⟨#[]⟩:ByteArray),.str (⟨#[]⟩:ByteArray),.int .i64 0,.nil,.nil],.int .i64 12]) [])
 else (
  qdi.pre (a,b,c,d,e,())/\
 bif !decide ((j7 a b c d e).2.2=0)then (
  qxe K true f g h a b c d e)
 else (
  qxe K (!decide ((j7 a b c d e).2.1=i)) f g h a b c d e))
def Wa (K:Kn) (a b c:ByteArray) (d:Int) (n:List Sx) (j:Bool) (e f:ByteArray) (g:Int) (o:List Sx) (l:Bool) (p:List Sx) (m:Bool) (h:List Dig) (i:List Chg):Prop:=
 bif j then (
  Q0 K a true b c d e f g h i)
 else (
  bif l then (
   Q0 K a true b c d e f g h i)
  else (
   Q0 K a m b c d e f g h i))
def kJ (K:Kn) (q:prodL [.str,.str,.str,.int .i64,.sl .sexp,.bool,.str,.str,.int .i64,.sl .sexp,.bool,.sl .sexp,.bool,.sl .dig,.sl .chg]->Prop) (d e f:ByteArray) (g:Int) (h:List Sx) (i:Bool) (j l:ByteArray) (m:Int) (n:List Sx) (o:Bool) (a:List Sx) (b:Bool) (p:List Dig) (c:List Chg):Prop:=
 bif decide (0< (a.length:Int))then (
  bif !b then (
  qiB (a,b,())/\
 ql (c.length+[((qq JX (a,b)).1)].length) 264 (
 q (d,e,f,g,h,i,j,l,m,n,o,(qq JX (a,b)).2.1,(qq JX (a,b)).2.2,p,c++[((qq JX (a,b)).1)],())))
 else (
  Wa K d e f g h i j l m n o a b p c))
 else (
  Wa K d e f g h i j l m n o a b p c)
def qjx (K:Kn) (g:prodL [.str,.str,.str,.int .i64,.sl .sexp,.bool,.str,.str,.int .i64,.sl .sexp,.bool,.sl .sexp,.bool,.sl .dig,.sl .chg]):Prop:=
 qy (γ:=prodL [.str,.str,.str,.int .i64,.sl .sexp,.bool,.str,.str,.int .i64,.sl .sexp,.bool,.sl .sexp,.bool,.sl .dig,.sl .chg]) (fun V y=>kJ K V y.1 y.2.1 y.2.2.1 y.2.2.2.1 y.2.2.2.2.1 y.2.2.2.2.2.1 y.2.2.2.2.2.2.1 y.2.2.2.2.2.2.2.1 y.2.2.2.2.2.2.2.2.1 y.2.2.2.2.2.2.2.2.2.1 y.2.2.2.2.2.2.2.2.2.2.1 y.2.2.2.2.2.2.2.2.2.2.2.1 y.2.2.2.2.2.2.2.2.2.2.2.2.1 y.2.2.2.2.2.2.2.2.2.2.2.2.2.1 y.2.2.2.2.2.2.2.2.2.2.2.2.2.2.1) g
def KG (K:Kn) (n:prodL [.str,.str,.str,.int .i64,.sl .sexp,.bool,.str,.str,.int .i64,.sl .sexp,.bool,.sl .dig]->Prop) (f g h:ByteArray) (i:Int) (c:List Sx) (d:Bool) (j l:ByteArray) (m:Int) (a:List Sx) (b:Bool) (e:List Dig):Prop:=
 bif decide (0< (a.length:Int))then (
  qKQ (a,b,())/\
 ql (e.length+[((qq Jh (a,b)).1)].length) 32 (
 n (f,g,h,i,c,d,j,l,m,(qq Jh (a,b)).2.1,(qq Jh (a,b)).2.2,e++[((qq Jh (a,b)).1)],())))
 else (
  qqn (c,d,())/\
 qjx K (f,g,h,i,(qq zJ (c,d)).2.1,(qq zJ (c,d)).2.2,j,l,m,a,b,(qq zJ (c,d)).1,false,e,[],()))
def qyt (K:Kn) (g:prodL [.str,.str,.str,.int .i64,.sl .sexp,.bool,.str,.str,.int .i64,.sl .sexp,.bool,.sl .dig]):Prop:=
 qy (γ:=prodL [.str,.str,.str,.int .i64,.sl .sexp,.bool,.str,.str,.int .i64,.sl .sexp,.bool,.sl .dig]) (fun V y=>KG K V y.1 y.2.1 y.2.2.1 y.2.2.2.1 y.2.2.2.2.1 y.2.2.2.2.2.1 y.2.2.2.2.2.2.1 y.2.2.2.2.2.2.2.1 y.2.2.2.2.2.2.2.2.1 y.2.2.2.2.2.2.2.2.2.1 y.2.2.2.2.2.2.2.2.2.2.1 y.2.2.2.2.2.2.2.2.2.2.2.1) g
def qqd (K:Kn) (b:ByteArray) (c:Bool) (d e:ByteArray) (f:Int) (g:Bool) (h:ByteArray) (a:List Sx):Prop:=
 bif c then (
  K (.tu [.ag [.str (⟨#[]⟩:ByteArray),.str (⟨#[]⟩:ByteArray),.int .i64 0,.nil,.nil],.int .i64 12]) [])
 else (
  qqQ (a,false,())/\
 qqQ ((qq jK (a,false)).2.1,(qq jK (a,false)).2.2,())/\
 qqQ ((qq jK ((qq jK (a,false)).2)).2.1,(qq jK ((qq jK (a,false)).2)).2.2,())/\
 qza ((qq jK ((qq jK ((qq jK (a,false)).2)).2)).2.1,(qq jK ((qq jK ((qq jK (a,false)).2)).2)).2.2,())/\
 qqn ((qq zq ((qq jK ((qq jK ((qq jK (a,false)).2)).2)).2)).2.1,(qq zq ((qq jK ((qq jK ((qq jK (a,false)).2)).2)).2)).2.2,())/\
 qyt K (b,d,e,f,(qq zJ ((qq zq ((qq jK ((qq jK ((qq jK (a,false)).2)).2)).2)).2)).2.1,(qq zJ ((qq zq ((qq jK ((qq jK ((qq jK (a,false)).2)).2)).2)).2)).2.2,(qq jK ((qq jK (a,false)).2)).1,(qq jK ((qq jK ((qq jK (a,false)).2)).2)).1,(qq zq ((qq jK ((qq jK ((qq jK (a,false)).2)).2)).2)).1,(qq zJ ((qq zq ((qq jK ((qq jK ((qq jK (a,false)).2)).2)).2)).2)).1,false,[],()))
def F30 (g:prodL L30) (K:Kn):Prop:=
 qnX.pre (g.1,())/\
 bif !decide ((zj g.1).2=0)then (
  qqd K g.1 true (⟨#[]⟩:ByteArray) (⟨#[]⟩:ByteArray) 0 (((zj g.1).1).isList) (((zj g.1).1).atom) (((zj g.1).1).list))
 else (
  qqd K g.1 (decide (65536< (g.1.size:Int))) (⟨#[]⟩:ByteArray) (⟨#[]⟩:ByteArray) 0 (((zj g.1).1).isList) (((zj g.1).1).atom) (((zj g.1).1).list))
theorem qmf (g:prodL L30) (K X:Kn) (h:F30 g K):FCalls Tryz.prog 30 (argsT S30 L30 g) [] K X:=
 FCalls.settle0 (qw Tryz.func30 Tryz.ntmps30 Tryz.results30 (qd qjh (qd qjP (qd Wq (qd qQW (qd qbs qj))))) (qx qjk (qx qfl qz)) H30 J30 (by kernel_rfl) (by kernel_rfl) h)
def H31:List (Nat×Hint):=[(11,⟨[((2,[]),none),((6,[]),none),((7,[]),none),((8,[]),none),((7,[3]),some .dig)],[(0,.leaf),(2,.pt 0 0),(6,.pt 1 0),(7,.pt 2 0),(8,.pt 3 0)],[.cells [.leaf,.leaf,.leaf,.nil,.nil],.cells [.leaf,.leaf],.cells [.leaf,.leaf,.leaf,.oa .dig 4,.nil],.cells [.leaf,.leaf],.arr .dig],[.str,.str,.str,.int .i64,.sl .sexp,.bool,.str,.str,.int .i64,.sl .sexp,.bool,.sl .dig]⟩),(14,⟨[((2,[]),none),((6,[]),none),((7,[]),none),((8,[]),none),((9,[]),none),((7,[3]),none),((7,[4]),some .chg)],[(0,.leaf),(2,.pt 0 0),(6,.pt 1 0),(7,.pt 2 0),(8,.pt 3 0),(9,.pt 4 0)],[.cells [.leaf,.leaf,.leaf,.nil,.nil],.cells [.leaf,.leaf],.cells [.leaf,.leaf,.leaf,.oa .dig 5,.oa .chg 6],.cells [.leaf,.leaf],.cells [.leaf,.leaf],.arr .dig,.arr .chg],[.str,.str,.str,.int .i64,.sl .sexp,.bool,.str,.str,.int .i64,.sl .sexp,.bool,.sl .sexp,.bool,.sl .dig,.sl .chg]⟩)]
def J31:List (Nat×Hint):=[(13,⟨[((2,[]),none),((6,[]),none),((7,[]),none),((8,[]),none),((7,[3]),none)],[(0,.leaf),(2,.pt 0 0),(6,.pt 1 0),(7,.pt 2 0),(8,.pt 3 0)],[.cells [.leaf,.leaf,.leaf,.nil,.nil],.cells [.leaf,.leaf],.cells [.leaf,.leaf,.leaf,.oa .dig 4,.nil],.cells [.leaf,.leaf],.arr .dig],[.str,.str,.str,.int .i64,.sl .sexp,.bool,.str,.str,.int .i64,.sl .sexp,.bool,.sl .dig]⟩),(16,⟨[((2,[]),none),((6,[]),none),((7,[]),none),((8,[]),none),((9,[]),none),((7,[3]),none),((7,[4]),none)],[(0,.leaf),(2,.pt 0 0),(6,.pt 1 0),(7,.pt 2 0),(8,.pt 3 0),(9,.pt 4 0)],[.cells [.leaf,.leaf,.leaf,.nil,.nil],.cells [.leaf,.leaf],.cells [.leaf,.leaf,.leaf,.oa .dig 5,.oa .chg 6],.cells [.leaf,.leaf],.cells [.leaf,.leaf],.arr .dig,.arr .chg],[.str,.str,.str,.int .i64,.sl .sexp,.bool,.str,.str,.int .i64,.sl .sexp,.bool,.sl .sexp,.bool,.sl .dig,.sl .chg]⟩),(18,⟨[((2,[]),none),((7,[]),none),((7,[3]),none),((7,[4]),none)],[(2,.pt 0 0),(7,.pt 1 0),(113,.leaf)],[.cells [.leaf,.leaf,.leaf,.nil,.nil],.cells [.leaf,.leaf,.leaf,.oa .dig 2,.oa .chg 3],.arr .dig,.arr .chg],[.bool,.str,.str,.int .i64,.str,.str,.int .i64,.sl .dig,.sl .chg]⟩)]
abbrev S31:List Sh:=[.leaf]
abbrev L31:List Lf:=[.str]
def kr (K:Kn) (a:Bool) (g h:ByteArray) (i:Int) (b c:ByteArray) (d:Int) (e:List Dig) (f:List Chg):Prop:=
 bif a then (
  K (.tu [.ag [.str (⟨#[]⟩:ByteArray),.str (⟨#[]⟩:ByteArray),.int .i64 0,.nil,.nil],.int .i64 12]) [])
 else (
  K (.tu [.ag [.str b,.str c,.int .i64 d,.sl false .dig e,.sl false .chg f],.int .i64 0]) [])
def WX (K:Kn) (i f g:ByteArray) (h:Int) (n:List Sx) (j:Bool) (a b:ByteArray) (c:Int) (o:List Sx) (l:Bool) (p:List Sx) (m:Bool) (d:List Dig) (e:List Chg):Prop:=
 quv.pre (a,b,c,d,e,())/\
 bif j then (
  kr K true f g h a b c d e)
 else (
  bif l then (
   kr K true f g h a b c d e)
  else (
   bif m then (
    kr K true f g h a b c d e)
   else (
    bif !decide ((kw a b c d e).2=0)then (
     kr K true f g h a b c d e)
    else (
     kr K (!decide ((kw a b c d e).1=i)) f g h a b c d e))))
def ZA (K:Kn) (q:prodL [.str,.str,.str,.int .i64,.sl .sexp,.bool,.str,.str,.int .i64,.sl .sexp,.bool,.sl .sexp,.bool,.sl .dig,.sl .chg]->Prop) (d e f:ByteArray) (g:Int) (h:List Sx) (i:Bool) (j l:ByteArray) (m:Int) (n:List Sx) (o:Bool) (a:List Sx) (b:Bool) (p:List Dig) (c:List Chg):Prop:=
 bif decide (0< (a.length:Int))then (
  bif !b then (
  qhB (a,b,())/\
 ql (c.length+[((qq ZU (a,b)).1)].length) 264 (
 q (d,e,f,g,h,i,j,l,m,n,o,(qq ZU (a,b)).2.1,(qq ZU (a,b)).2.2,p,c++[((qq ZU (a,b)).1)],())))
 else (
  WX K d e f g h i j l m n o a b p c))
 else (
  WX K d e f g h i j l m n o a b p c)
def qyp (K:Kn) (g:prodL [.str,.str,.str,.int .i64,.sl .sexp,.bool,.str,.str,.int .i64,.sl .sexp,.bool,.sl .sexp,.bool,.sl .dig,.sl .chg]):Prop:=
 qy (γ:=prodL [.str,.str,.str,.int .i64,.sl .sexp,.bool,.str,.str,.int .i64,.sl .sexp,.bool,.sl .sexp,.bool,.sl .dig,.sl .chg]) (fun V y=>ZA K V y.1 y.2.1 y.2.2.1 y.2.2.2.1 y.2.2.2.2.1 y.2.2.2.2.2.1 y.2.2.2.2.2.2.1 y.2.2.2.2.2.2.2.1 y.2.2.2.2.2.2.2.2.1 y.2.2.2.2.2.2.2.2.2.1 y.2.2.2.2.2.2.2.2.2.2.1 y.2.2.2.2.2.2.2.2.2.2.2.1 y.2.2.2.2.2.2.2.2.2.2.2.2.1 y.2.2.2.2.2.2.2.2.2.2.2.2.2.1 y.2.2.2.2.2.2.2.2.2.2.2.2.2.2.1) g
def WG (K:Kn) (c d e:ByteArray) (f:Int) (a:List Sx) (b:Bool) (g h:ByteArray) (i:Int) (j:List Sx) (l:Bool) (m:List Dig):Prop:=
 KM (a,b,())/\
 qyp K (c,d,e,f,(qq qN (a,b)).2.1,(qq qN (a,b)).2.2,g,h,i,j,l,(qq qN (a,b)).1,false,m,[],())
def ZO (K:Kn) (n:prodL [.str,.str,.str,.int .i64,.sl .sexp,.bool,.str,.str,.int .i64,.sl .sexp,.bool,.sl .dig]->Prop) (d e f:ByteArray) (g:Int) (h:List Sx) (i:Bool) (j l:ByteArray) (m:Int) (a:List Sx) (b:Bool) (c:List Dig):Prop:=
 bif decide (0< (a.length:Int))then (
  bif !b then (
  qYj (a,b,())/\
 ql (c.length+[((qq Qo (a,b)).1)].length) 32 (
 n (d,e,f,g,h,i,j,l,m,(qq Qo (a,b)).2.1,(qq Qo (a,b)).2.2,c++[((qq Qo (a,b)).1)],())))
 else (
  WG K d e f g h i j l m a b c))
 else (
  WG K d e f g h i j l m a b c)
def qyh (K:Kn) (g:prodL [.str,.str,.str,.int .i64,.sl .sexp,.bool,.str,.str,.int .i64,.sl .sexp,.bool,.sl .dig]):Prop:=
 qy (γ:=prodL [.str,.str,.str,.int .i64,.sl .sexp,.bool,.str,.str,.int .i64,.sl .sexp,.bool,.sl .dig]) (fun V y=>ZO K V y.1 y.2.1 y.2.2.1 y.2.2.2.1 y.2.2.2.2.1 y.2.2.2.2.2.1 y.2.2.2.2.2.2.1 y.2.2.2.2.2.2.2.1 y.2.2.2.2.2.2.2.2.1 y.2.2.2.2.2.2.2.2.2.1 y.2.2.2.2.2.2.2.2.2.2.1 y.2.2.2.2.2.2.2.2.2.2.2.1) g
def F31 (g:prodL L31) (K:Kn):Prop:=
 qt2.pre (g.1,())/\
 bif !decide ((zj g.1).2=0)then (
  K (.tu [.ag [.str (⟨#[]⟩:ByteArray),.str (⟨#[]⟩:ByteArray),.int .i64 0,.nil,.nil],.int .i64 12]) [])
 else (
  VS (((zj g.1).1).list,false,())/\
 VS ((qq z7 (((zj g.1).1).list,false)).2.1,(qq z7 (((zj g.1).1).list,false)).2.2,())/\
 VS ((qq z7 ((qq z7 (((zj g.1).1).list,false)).2)).2.1,(qq z7 ((qq z7 (((zj g.1).1).list,false)).2)).2.2,())/\
 qzM ((qq z7 ((qq z7 ((qq z7 (((zj g.1).1).list,false)).2)).2)).2.1,(qq z7 ((qq z7 ((qq z7 (((zj g.1).1).list,false)).2)).2)).2.2,())/\
 KM ((qq zq ((qq z7 ((qq z7 ((qq z7 (((zj g.1).1).list,false)).2)).2)).2)).2.1,(qq zq ((qq z7 ((qq z7 ((qq z7 (((zj g.1).1).list,false)).2)).2)).2)).2.2,())/\
 qyh K (g.1,(⟨#[]⟩:ByteArray),(⟨#[]⟩:ByteArray),0,(qq qN ((qq zq ((qq z7 ((qq z7 ((qq z7 (((zj g.1).1).list,false)).2)).2)).2)).2)).2.1,(qq qN ((qq zq ((qq z7 ((qq z7 ((qq z7 (((zj g.1).1).list,false)).2)).2)).2)).2)).2.2,(qq z7 ((qq z7 (((zj g.1).1).list,false)).2)).1,(qq z7 ((qq z7 ((qq z7 (((zj g.1).1).list,false)).2)).2)).1,(qq zq ((qq z7 ((qq z7 ((qq z7 (((zj g.1).1).list,false)).2)).2)).2)).1,(qq qN ((qq zq ((qq z7 ((qq z7 ((qq z7 (((zj g.1).1).list,false)).2)).2)).2)).2)).1,false,[],()))
theorem qnj (g:prodL L31) (K X:Kn) (h:F31 g K):FCalls Tryz.prog 31 (argsT S31 L31 g) [] K X:=
 FCalls.settle0 (qw Tryz.func31 Tryz.ntmps31 Tryz.results31 (qd WK (qd qxZ (qd Ju (qd qQ5 (qd qff qj))))) (qx qdQ (qx qhe qz)) H31 J31 (by kernel_rfl) (by kernel_rfl) h)
end
section
open Go.RowKit
set_option maxRecDepth 100000
abbrev KDr (K:Kn) (d:Dr):Prop:=K (.tu [.ag [.str d.a,.str d.m,.int .i64 d.t,.sl false .dig d.ds,.sl false .chg d.cs],.int .i64 d.e]) []
theorem wo {K:Kn} (h:KDr K drZ):zI K (.tu [.ag [.str (⟨#[]⟩:ByteArray),.str (⟨#[]⟩:ByteArray),.int .i64 0,.nil,.nil],.int .i64 12]) []:=
 ⟨_,zl.tu (qA.cons (zl.ag (qA.cons (zl.refl _) (qA.cons (zl.refl _) (qA.cons (zl.refl _) (qA.cons (zl.nil .dig) (qA.cons (zl.nil .chg) qA.nil)))))) (qA.cons (zl.refl _) qA.nil)),h⟩
theorem qKK {s:ByteArray} (h:s.size<=1048576):qV (zj s).1.list<=zV:=by
 have:=qYX s;rw [jA] at this;have e:zV=1073741824:=rfl;omega
theorem qyR {K:Kn} {s t1 t2 a m:ByteArray} {t3 t:Int} {b:Bool} {ds:List Dig} {cs:List Chg} (hp:b=false->xP a m t ds cs) (h:KDr K (vb s ⟨a,m,t,ds,cs,b⟩ (j7 a m t ds cs).2)):Q0 (zI K) s b t1 t2 t3 a m t ds cs:=by
 unfold Q0;unfold vb at h;cases b;rotate_left
 . exact wo h
 dsimp only at h;rw [Jaf] at h;refine ⟨hp rfl, ?_⟩;cases e:decide ((j7 a m t ds cs).2.2=0)
 . rw [e,Ja4,Jae] at h;exact wo h
 . rw [e,Jap,Jaf] at h;rw [Jap,Jaf];unfold qxe;cases e2:decide ((j7 a m t ds cs).2.1=s)
   . rw [e2] at h;exact wo h
   . rw [e2] at h;exact zI.same h
theorem ZM {K:Kn} {s t1 t2 a m:ByteArray} {t3 t:Int} {r1 d1 c1:List Sx} {r2 d2 c2:Bool} {ds:List Dig} {cs:List Chg} (hp:(r2||(d2||c2))=false->xP a m t ds cs) (h:KDr K (vb s ⟨a,m,t,ds,cs,r2||(d2||c2)⟩ (j7 a m t ds cs).2)):
  Wa (zI K) s t1 t2 t3 r1 r2 a m t d1 d2 c1 c2 ds cs:=by
 unfold Wa;exact qn6 (J:=fun b=>Q0 (zI K) s b t1 t2 t3 a m t ds cs) (qyR hp h)
theorem qkB {K:Kn} {s t1 t2 a m:ByteArray} {t3 t:Int} {r1 d1 q:List Sx} {r2 d2:Bool} {ds:List Dig} (hb:qV q<=zV) (hp:((r2||(d2||(qp JX q).2))=false->xP a m t ds (qp JX q).1))
  (h:KDr K (vb s ⟨a,m,t,ds,(qp JX q).1,r2||(d2||(qp JX q).2)⟩ (j7 a m t ds (qp JX q).1).2)):
  qjx (zI K) (s,t1,t2,t3,r1,r2,a,m,t,d1,d2,q,false,ds,[],()):=by
 have hlim:zV=1073741824:=rfl;unfold qjx;refine qy.readsB JX (fun q b out=>(s,t1,t2,t3,r1,r2,a,m,t,d1,d2,q,b,ds,out,())) (fun q out=>qV q<=zV/\out.length+q.length<=1073741824)
  (fun r=>((r2||(d2||r.2))=false->xP a m t ds r.1)/\KDr K (vb s ⟨a,m,t,ds,r.1,r2||(d2||r.2)⟩ (j7 a m t ds r.1).2)) q rfl
  ⟨hb,by have:=jF q;simp only [Ja1];omega⟩ (fun x q out hi=> ?_) (fun W x q out hi hW=> ?_) (fun W q out hq=> ?_) (fun W out hq=> ?_) ⟨hp,h⟩
 . obtain ⟨h1,h2⟩:=hi;simp only [qV,Jaj] at h1 h2;exact ⟨by omega,by simp only [Jak,Jal];omega⟩
 . obtain ⟨h1,h2⟩:=hi;show kJ (zI K) W s t1 t2 t3 r1 r2 a m t d1 d2 (x::q) false ds out
   unfold kJ;rw [Jaa (show (0:Int) < (((x::q).length:Nat):Int)by rw [Jaj];omega),Jae,Ja4,Jae]
   rw [Jaj] at h2;exact ⟨h1,by simp only [Jal];omega,hW⟩
 . show kJ (zI K) W s t1 t2 t3 r1 r2 a m t d1 d2 q true ds out
   unfold kJ;cases decide ((0:Int) < ((q.length:Nat):Int))
   . exact ZM (r1:=r1) (d1:=d1) (c1:=q) hq.1 hq.2
   . exact ZM (r1:=r1) (d1:=d1) (c1:=q) hq.1 hq.2
 . show kJ (zI K) W s t1 t2 t3 r1 r2 a m t d1 d2 [] false ds out
   unfold kJ;show bif decide ((0:Int) <0)then _ else _
   rw [Jab (by omega),Jaf]
   exact ZM hq.1 hq.2
theorem qXq {K:Kn} {s t1 t2 a m:ByteArray} {t3 t:Int} {r:yc} {q:List Sx} (hb:qV q<=zV) (hr:qV r.1<=zV) (hp:(((qq zJ r).2.2||((q.any fun x=>(Jh x).2)||(qp JX (qq zJ r).1).2))=false->xP a m t (q.map fun x=>(Jh x).1) (qp JX (qq zJ r).1).1)) (h:KDr K (vb s ⟨a,m,t,(q.map fun x=>(Jh x).1),(qp JX (qq zJ r).1).1,((qq zJ r).2.2||((q.any fun x=>(Jh x).2)||(qp JX (qq zJ r).1).2))⟩ (j7 a m t (q.map fun x=>(Jh x).1) (qp JX (qq zJ r).1).1).2)):
  qyt (zI K) (s,t1,t2,t3,r.1,r.2,a,m,t,q,false,[],()):=by
 have hlim:zV=1073741824:=rfl;unfold qyt;refine qy.reads Jh (fun q b out=>(s,t1,t2,t3,r.1,r.2,a,m,t,q,b,out,())) (fun q out=>qV q<=zV/\out.length+q.length<=1073741824) (fun y=>(((qq zJ r).2.2||(y.2||(qp JX (qq zJ r).1).2))=false->xP a m t y.1 (qp JX (qq zJ r).1).1)/\KDr K (vb s ⟨a,m,t,y.1,(qp JX (qq zJ r).1).1,((qq zJ r).2.2||(y.2||(qp JX (qq zJ r).1).2))⟩ (j7 a m t y.1 (qp JX (qq zJ r).1).1).2)) q rfl
  ⟨hb,by have:=jF q;simp only [Ja1];omega⟩ (fun x q out hi=> ?_) (fun W x q b out hi hW=> ?_) (fun W b out hq=> ?_) ⟨hp,h⟩
 . obtain ⟨h1,h2⟩:=hi;simp only [qV,Jaj] at h1 h2;exact ⟨by omega,by simp only [Jak,Jal];omega⟩
 . obtain ⟨h1,h2⟩:=hi;show KG (zI K) W s t1 t2 t3 r.1 r.2 a m t (x::q) b out
   unfold KG;rw [Jaa (show (0:Int) < (((x::q).length:Nat):Int)by rw [Jaj];omega),Jae]
   rw [Jaj] at h2;exact ⟨trivial,by simp only [Jal];omega,hW⟩
 . show KG (zI K) W s t1 t2 t3 r.1 r.2 a m t [] b out
   unfold KG;show bif decide ((0:Int) <0)then _ else _
   rw [Jab (by omega),Jaf]
   exact ⟨trivial,qkB (vD hr) hq.1 hq.2⟩
def qXm (s:ByteArray):Bool:=bif !decide ((zj s).2=0)then true else decide (65536< ((s.size:Nat):Int))
def vj (s:ByteArray):Dr:=bif qXm s then drZ else vb s (xM (zj s).1.list) (j7 (xM (zj s).1.list).a (xM (zj s).1.list).m (xM (zj s).1.list).t (xM (zj s).1.list).ds (xM (zj s).1.list).cs).2
def xR (p:Rp):Prop:=xP p.a p.m p.t p.ds p.cs
def qtV (s:ByteArray):Prop:=s.size<=1048576/\(qXm s=false->(xM (zj s).1.list).bad=false->xR (xM (zj s).1.list))
theorem qXJ {K:Kn} {s:ByteArray} (hs:s.size<=1048576) {b:Bool} (hp:b=false->(xM (zj s).1.list).bad=false->xR (xM (zj s).1.list))
  (h:KDr K (bif b then drZ else vb s (xM (zj s).1.list) (j7 (xM (zj s).1.list).a (xM (zj s).1.list).m (xM (zj s).1.list).t (xM (zj s).1.list).ds (xM (zj s).1.list).cs).2)):qqd (zI K) s b ⟨#[]⟩ ⟨#[]⟩ 0 (zj s).1.isList (zj s).1.atom (zj s).1.list:=by
 unfold qqd;cases b;rotate_left
 . exact wo h
 rw [Jaf] at h;have hp:=hp rfl;have hb:=qKK hs;generalize (zj s).1.list=l at hb h hp ⊢;have h3:qV (qq jK (qq jK (qq jK (l,false)).2).2).2.1<=zV:=zO (zO (zO hb));have h4:qV (qq zq (qq jK (qq jK (qq jK (l,false)).2).2).2).2.1<=zV:=zO h3;have h5:qV (qq zJ (qq zq (qq jK (qq jK (qq jK (l,false)).2).2).2).2).2.1<=zV:=zO h4;exact ⟨trivial,trivial,trivial,h3,trivial,qXq (r:=(qq zJ (qq zq (qq jK (qq jK (qq jK (l,false)).2).2).2).2).2) (vD h4) h5 hp h⟩
theorem qme {s:ByteArray} {K:Kn} (hp:qtV s) (h:KDr K (vj s)):F30 (s,()) (zI K):=by
 unfold F30;refine ⟨Jau hp.1 (by decide), ?_⟩
 exact vz (J:=fun b=>qqd (zI K) s b ⟨#[]⟩ ⟨#[]⟩ 0 (zj s).1.isList (zj s).1.atom (zj s).1.list) (f:=fun b=>b) (K:=fun b=>(b=false->(xM (zj s).1.list).bad=false->xR (xM (zj s).1.list))/\
  KDr K (bif b then drZ else vb s (xM (zj s).1.list) (j7 (xM (zj s).1.list).a (xM (zj s).1.list).m (xM (zj s).1.list).t (xM (zj s).1.list).ds (xM (zj s).1.list).cs).2)) (fun b hb=>qXJ hp.1 hb.1 hb.2) ⟨hp.2,h⟩
def qpD:Sp:=⟨S30,L30,fun g=>qtV g.1,fun g=> .tu [.ag [.str (vj g.1).a,.str (vj g.1).m,.int .i64 (vj g.1).t,.sl false .dig (vj g.1).ds,.sl false .chg (vj g.1).cs],.int .i64 (vj g.1).e],fun _=>none⟩
theorem qcA:qpD.Ok Tryz.prog 30 false:=
 .mk (fun g K X hp h=>FCalls.weak (qmf g (zI K) X (qme hp h)))
theorem Jk {K:Kn} {s t1 t2 a m:ByteArray} {t3 t:Int} {r1 d1 c1:List Sx} {r2 d2 c2:Bool} {ds:List Dig} {cs:List Chg} (hp:xP a m t ds cs) (h:KDr K (vb s ⟨a,m,t,ds,cs,r2||(d2||c2)⟩ (kw a m t ds cs))):
  WX (zI K) s t1 t2 t3 r1 r2 a m t d1 d2 c1 c2 ds cs:=by
 unfold WX;refine ⟨hp, ?_⟩;unfold vb at h;dsimp only at h;have hz: ∀{x},KDr K drZ->kr (zI K) true x x 0 a m t ds cs:=fun h=>wo h
 cases r2;rotate_left
 . exact wo h
 cases d2;rotate_left
 . exact wo h
 cases c2;rotate_left
 . exact wo h
 rw [show (false||(false||false))=false from rfl,Jaf] at h
 rw [Jaf,Jaf,Jaf];cases e:decide ((kw a m t ds cs).2=0)
 . rw [e,Ja4,Jae] at h;exact wo h
 . rw [e,Jap,Jaf] at h;rw [Jap,Jaf];unfold kr;cases e2:decide ((kw a m t ds cs).1=s)
   . rw [e2] at h;exact wo h
   . rw [e2] at h;exact zI.same h
theorem qZ1 {K:Kn} {s t1 t2 a m:ByteArray} {t3 t:Int} {r1 d1 q:List Sx} {r2 d2:Bool} {ds:List Dig} (hb:qV q<=zV) (hp:xP a m t ds (qp ZU q).1)
  (h:KDr K (vb s ⟨a,m,t,ds,(qp ZU q).1,r2||(d2||(qp ZU q).2)⟩ (kw a m t ds (qp ZU q).1))):
  qyp (zI K) (s,t1,t2,t3,r1,r2,a,m,t,d1,d2,q,false,ds,[],()):=by
 have hlim:zV=1073741824:=rfl;unfold qyp;refine qy.readsB ZU (fun q b out=>(s,t1,t2,t3,r1,r2,a,m,t,d1,d2,q,b,ds,out,())) (fun q out=>qV q<=zV/\out.length+q.length<=1073741824)
  (fun r=>xP a m t ds r.1/\KDr K (vb s ⟨a,m,t,ds,r.1,r2||(d2||r.2)⟩ (kw a m t ds r.1))) q rfl
  ⟨hb,by have:=jF q;simp only [Ja1];omega⟩ (fun x q out hi=> ?_) (fun W x q out hi hW=> ?_) (fun W q out hq=> ?_) (fun W out hq=> ?_) ⟨hp,h⟩
 . obtain ⟨h1,h2⟩:=hi;simp only [qV,Jaj] at h1 h2;exact ⟨by omega,by simp only [Jak,Jal];omega⟩
 . obtain ⟨h1,h2⟩:=hi;show ZA (zI K) W s t1 t2 t3 r1 r2 a m t d1 d2 (x::q) false ds out
   unfold ZA;rw [Jaa (show (0:Int) < (((x::q).length:Nat):Int)by rw [Jaj];omega),Jae,Ja4,Jae]
   rw [Jaj] at h2;exact ⟨h1,by simp only [Jal];omega,hW⟩
 . show ZA (zI K) W s t1 t2 t3 r1 r2 a m t d1 d2 q true ds out
   unfold ZA;cases decide ((0:Int) < ((q.length:Nat):Int))
   . exact Jk (r1:=r1) (d1:=d1) (c1:=q) hq.1 hq.2
   . exact Jk (r1:=r1) (d1:=d1) (c1:=q) hq.1 hq.2
 . show ZA (zI K) W s t1 t2 t3 r1 r2 a m t d1 d2 [] false ds out
   unfold ZA;show bif decide ((0:Int) <0)then _ else _
   rw [Jab (by omega),Jaf]
   exact Jk hq.1 hq.2
theorem qXl {K:Kn} {s t1 t2 a m:ByteArray} {t3 t:Int} {r:yc} {q:List Sx} (hb:qV q<=zV) (hr:qV r.1<=zV) (hp:xP a m t (qp Qo q).1 (qp ZU (qq qN r).1).1) (h:KDr K (vb s ⟨a,m,t,(qp Qo q).1,(qp ZU (qq qN r).1).1,((qq qN r).2.2||((qp Qo q).2||(qp ZU (qq qN r).1).2))⟩ (kw a m t (qp Qo q).1 (qp ZU (qq qN r).1).1))):
  qyh (zI K) (s,t1,t2,t3,r.1,r.2,a,m,t,q,false,[],()):=by
 have hlim:zV=1073741824:=rfl;unfold qyh;have hJ: ∀q b out,xP a m t out (qp ZU (qq qN r).1).1/\KDr K (vb s ⟨a,m,t,out,(qp ZU (qq qN r).1).1,((qq qN r).2.2||(b||(qp ZU (qq qN r).1).2))⟩ (kw a m t out (qp ZU (qq qN r).1).1))->WG (zI K) s t1 t2 t3 r.1 r.2 a m t q b out:=fun q b out hq=>by
  unfold WG;exact ⟨trivial,qZ1 (vD hr) hq.1 hq.2⟩
 refine qy.readsB Qo (fun q b out=>(s,t1,t2,t3,r.1,r.2,a,m,t,q,b,out,())) (fun q out=>qV q<=zV/\out.length+q.length<=1073741824) (fun y=>xP a m t y.1 (qp ZU (qq qN r).1).1/\KDr K (vb s ⟨a,m,t,y.1,(qp ZU (qq qN r).1).1,((qq qN r).2.2||(y.2||(qp ZU (qq qN r).1).2))⟩ (kw a m t y.1 (qp ZU (qq qN r).1).1))) q rfl
  ⟨hb,by have:=jF q;simp only [Ja1];omega⟩ (fun x q out hi=> ?_) (fun W x q out hi hW=> ?_) (fun W q out hq=> ?_) (fun W out hq=> ?_) ⟨hp,h⟩
 . obtain ⟨h1,h2⟩:=hi;simp only [qV,Jaj] at h1 h2;exact ⟨by omega,by simp only [Jak,Jal];omega⟩
 . obtain ⟨h1,h2⟩:=hi;show ZO (zI K) W s t1 t2 t3 r.1 r.2 a m t (x::q) false out
   unfold ZO;rw [Jaa (show (0:Int) < (((x::q).length:Nat):Int)by rw [Jaj];omega),Jae,Ja4,Jae]
   rw [Jaj] at h2;exact ⟨trivial,by simp only [Jal];omega,hW⟩
 . show ZO (zI K) W s t1 t2 t3 r.1 r.2 a m t q true out
   unfold ZO;cases decide ((0:Int) < ((q.length:Nat):Int))
   . exact hJ q true out hq
   . exact hJ q true out hq
 . show ZO (zI K) W s t1 t2 t3 r.1 r.2 a m t [] false out
   unfold ZO;show bif decide ((0:Int) <0)then _ else _
   rw [Jab (by omega),Jaf]
   exact hJ [] false out hq
def kA (s:ByteArray):Dr:=bif !decide ((zj s).2=0)then drZ else vb s (JV (zj s).1.list) (kw (JV (zj s).1.list).a (JV (zj s).1.list).m (JV (zj s).1.list).t (JV (zj s).1.list).ds (JV (zj s).1.list).cs)
def qp7 (s:ByteArray):Prop:=s.size<=1048576/\xR (JV (zj s).1.list)
theorem ql3 {s:ByteArray} {K:Kn} (hp:qp7 s) (h:KDr K (kA s)):F31 (s,()) (zI K):=by
 unfold F31;refine ⟨Jau hp.1 (by decide), ?_⟩
 unfold kA at h;cases e:decide ((zj s).2=0)
 . rw [e] at h;exact wo h
 rw [e,Jap,Jaf] at h;rw [Jap,Jaf];have hb:=qKK hp.1;have hx:=hp.2;generalize hl:(zj s).1.list=l at hb h hx ⊢;have h3:qV (qq z7 (qq z7 (qq z7 (l,false)).2).2).2.1<=zV:=zO (zO (zO hb));have h4:qV (qq zq (qq z7 (qq z7 (qq z7 (l,false)).2).2).2).2.1<=zV:=zO h3;have h5:qV (qq qN (qq zq (qq z7 (qq z7 (qq z7 (l,false)).2).2).2).2).2.1<=zV:=zO h4;exact ⟨trivial,trivial,trivial,h3,trivial,qXl (r:=(qq qN (qq zq (qq z7 (qq z7 (qq z7 (l,false)).2).2).2).2).2) (vD h4) h5 hx h⟩
def qtR:Sp:=⟨S31,L31,fun g=>qp7 g.1,fun g=> .tu [.ag [.str (kA g.1).a,.str (kA g.1).m,.int .i64 (kA g.1).t,.sl false .dig (kA g.1).ds,.sl false .chg (kA g.1).cs],.int .i64 (kA g.1).e],fun _=>none⟩
theorem qhi:qtR.Ok Tryz.prog 31 false:=
 .mk (fun g K X hp h=>FCalls.weak (qnj g (zI K) X (ql3 hp h)))
end
section
open Go.RowKit
attribute [local irreducible] zb qa
set_option maxRecDepth 100000
abbrev S63:List Sh:=[.leaf,.leaf]
abbrev L63:List Lf:=[.el .chg,.el .chg]
def F63 (g:prodL L63) (K:Kn):Prop:=
 bif decide (g.1.kind=g.2.1.kind)then (
  bif qr g.1.file g.2.1.file then (
   bif decide (g.1.typ=g.2.1.typ)then (
    bif qr g.1.parent g.2.1.parent then (
     bif decide (g.1.name=g.2.1.name)then (
      bif decide (g.1.mode=g.2.1.mode)then (
       bif decide (g.1.data=g.2.1.data)then (
        bif qr g.1.after g.2.1.after then (
         bif qr g.1.before g.2.1.before then (
          qhA.pre (g.1.lines,g.2.1.lines,())/\
          bif decide (g.1.lines=g.2.1.lines)then (
           qiR.pre (g.1.over,g.2.1.over,())/\
           K (.bool (decide (g.1.over=g.2.1.over))) [])
          else (
           K (.bool false) []))
         else (
          K (.bool false) []))
        else (
         K (.bool false) []))
       else (
        K (.bool false) []))
      else (
       K (.bool false) []))
     else (
      K (.bool false) []))
    else (
     K (.bool false) []))
   else (
    K (.bool false) []))
  else (
   K (.bool false) []))
 else (
  K (.bool false) [])
theorem qm0 (g:prodL L63) (K X:Kn) (h:F63 g K):FCalls Tryz.prog 63 (argsT S63 L63 g) [] K X:=
 FCalls.settle0 (qw Tryz.func63 Tryz.ntmps63 Tryz.results63 qj (qx qWs (qx qWF qz)) [] [] (by kernel_rfl) (by kernel_rfl) h)
end
section
open Go.RowKit
set_option maxRecDepth 100000
theorem qZ5 (x:Idn):qr x x=true:=by rw [v8];exact Jaa rfl
def qtt:Sp:=⟨S63,L63,fun g=>g.1=g.2.1/\V3 g.1.lines.length/\V3 g.1.over.length,fun _=> .bool true,fun _=>none⟩
theorem qgY:qtt.Ok Tryz.prog 63 true:=
 .mk (fun g K X hp h=>qm0 g K X (by
  obtain ⟨c,c',⟨⟩⟩:=g;obtain ⟨e,h1,h2⟩:=hp;have e:c=c':=e;subst e;unfold F63;simp only [qZ5,decide_true,Jae];exact ⟨h1,h2,h⟩))
end
section
open Go.RowKit
attribute [local irreducible] zb qa
set_option maxRecDepth 100000
def H32:List (Nat×Hint):=[(4,⟨[((2,[]),none),((3,[]),none)],[(2,.pt 0 0),(3,.pt 1 0),(5,.leaf)],[.cells [.leaf,.leaf,.leaf,.leaf,.leaf],.cells [.leaf,.leaf,.leaf,.leaf,.leaf]],[.int .i64,.str,.str,.int .i64,.sl .dig,.sl .chg,.str,.str,.int .i64,.sl .dig,.sl .chg]⟩)]
def J32:List (Nat×Hint):=[(2,⟨[((2,[]),none),((3,[]),none)],[(2,.pt 0 0),(3,.pt 1 0),(41,.leaf)],[.cells [.leaf,.leaf,.leaf,.leaf,.leaf],.cells [.leaf,.leaf,.leaf,.leaf,.leaf]],[.bool,.str,.str,.int .i64,.sl .dig,.sl .chg,.str,.str,.int .i64,.sl .dig,.sl .chg]⟩)]
abbrev S32:List Sh:=[.ag [.leaf,.leaf,.leaf,.leaf,.leaf],.ag [.leaf,.leaf,.leaf,.leaf,.leaf]]
abbrev L32:List Lf:=[.str,.str,.int .i64,.sl .dig,.sl .chg,.str,.str,.int .i64,.sl .dig,.sl .chg]
def qyb (K:Kn) (d:prodL [.int .i64,.str,.str,.int .i64,.sl .dig,.sl .chg,.str,.str,.int .i64,.sl .dig,.sl .chg]->Prop) (a:Int) (e f:ByteArray) (g:Int) (h:List Dig) (b:List Chg) (i j:ByteArray) (l:Int) (m:List Dig) (c:List Chg):Prop:=
 bif decide (a< (b.length:Int))then (
  At b a fun n=>
 At c a fun o=>
 qtt.pre (n,o,())/\
 d (IntKind.i64.wrap (a+1),e,f,g,h,b,i,j,l,m,c,()))
 else (
  K (.bool true) [])
def qKE (K:Kn) (g:prodL [.int .i64,.str,.str,.int .i64,.sl .dig,.sl .chg,.str,.str,.int .i64,.sl .dig,.sl .chg]):Prop:=
 qy (γ:=prodL [.int .i64,.str,.str,.int .i64,.sl .dig,.sl .chg,.str,.str,.int .i64,.sl .dig,.sl .chg]) (fun V y=>qyb K V y.1 y.2.1 y.2.2.1 y.2.2.2.1 y.2.2.2.2.1 y.2.2.2.2.2.1 y.2.2.2.2.2.2.1 y.2.2.2.2.2.2.2.1 y.2.2.2.2.2.2.2.2.1 y.2.2.2.2.2.2.2.2.2.1 y.2.2.2.2.2.2.2.2.2.2.1) g
def XS (K:Kn) (a:Bool) (b c:ByteArray) (d:Int) (e:List Dig) (f:List Chg) (g h:ByteArray) (i:Int) (j:List Dig) (l:List Chg):Prop:=
 bif a then (
  K (.bool false) [])
 else (
  qKE K (0,b,c,d,e,f,g,h,i,j,l,()))
def F32 (g:prodL L32) (K:Kn):Prop:=
 bif !decide (g.1=g.2.2.2.2.2.1)then (
  XS K true g.1 g.2.1 g.2.2.1 g.2.2.2.1 g.2.2.2.2.1 g.2.2.2.2.2.1 g.2.2.2.2.2.2.1 g.2.2.2.2.2.2.2.1 g.2.2.2.2.2.2.2.2.1 g.2.2.2.2.2.2.2.2.2.1)
 else (
  bif !decide (g.2.1=g.2.2.2.2.2.2.1)then (
   XS K true g.1 g.2.1 g.2.2.1 g.2.2.2.1 g.2.2.2.2.1 g.2.2.2.2.2.1 g.2.2.2.2.2.2.1 g.2.2.2.2.2.2.2.1 g.2.2.2.2.2.2.2.2.1 g.2.2.2.2.2.2.2.2.2.1)
  else (
   bif !decide (g.2.2.1=g.2.2.2.2.2.2.2.1)then (
    XS K true g.1 g.2.1 g.2.2.1 g.2.2.2.1 g.2.2.2.2.1 g.2.2.2.2.2.1 g.2.2.2.2.2.2.1 g.2.2.2.2.2.2.2.1 g.2.2.2.2.2.2.2.2.1 g.2.2.2.2.2.2.2.2.2.1)
   else (
    qrI.pre (g.2.2.2.1,g.2.2.2.2.2.2.2.2.1,())/\
    bif !(decide (g.2.2.2.1=g.2.2.2.2.2.2.2.2.1))then (
     XS K true g.1 g.2.1 g.2.2.1 g.2.2.2.1 g.2.2.2.2.1 g.2.2.2.2.2.1 g.2.2.2.2.2.2.1 g.2.2.2.2.2.2.2.1 g.2.2.2.2.2.2.2.2.1 g.2.2.2.2.2.2.2.2.2.1)
    else (
     XS K (!decide ((g.2.2.2.2.1.length:Int)=(g.2.2.2.2.2.2.2.2.2.1.length:Int))) g.1 g.2.1 g.2.2.1 g.2.2.2.1 g.2.2.2.2.1 g.2.2.2.2.2.1 g.2.2.2.2.2.2.1 g.2.2.2.2.2.2.2.1 g.2.2.2.2.2.2.2.2.1 g.2.2.2.2.2.2.2.2.2.1))))
theorem qlL (g:prodL L32) (K X:Kn) (h:F32 g K):FCalls Tryz.prog 32 (argsT S32 L32 g) [] K X:=
 FCalls.settle0 (qw Tryz.func32 Tryz.ntmps32 Tryz.results32 qj (qx qdh (qx qgY qz)) H32 J32 (by kernel_rfl) (by kernel_rfl) h)
end
section
open Go.RowKit
set_option maxRecDepth 100000
def qhg (a m:ByteArray) (t:Int) (ds:List Dig) (cs:List Chg):Prop:=V3 ds.length/\cs.length<=4294967296/\ ∀c∈cs,V3 c.lines.length/\V3 c.over.length
theorem qn4 {a m:ByteArray} {t:Int} {ds:List Dig} {cs:List Chg} {K:Kn} (hp:qhg a m t ds cs) (h:K (.bool true) []):F32 (a,m,t,ds,cs,a,m,t,ds,cs,()) K:=by
 obtain ⟨h1,h2,h3⟩:=hp;unfold F32;simp only [decide_true,Jap,Jaf];refine ⟨h1, ?_⟩;unfold XS;rw [Jaf];unfold qKE;refine qy.countTo cs.length (fun n=>((n:Int),a,m,t,ds,cs,a,m,t,ds,cs,())) (fun _=>True) rfl (fun n hn _ W hW=> ?_) trivial
 show qyb K W n a m t ds cs a m t ds cs
 unfold qyb;by_cases hlt:n<cs.length
 . rw [qu hlt,Jae];obtain ⟨k1,k2⟩:=h3 _ (Jba hlt);refine qD hlt (qD hlt ⟨⟨rfl,k1,k2⟩, ?_⟩);rw [zd hlt h2];exact hW hlt trivial
 . have:n=cs.length:=by omega
   subst this;rw [qm,Jaf];exact h
theorem qgn {a m a' m':ByteArray} {t t':Int} {ds ds':List Dig} {cs cs':List Chg} {K:Kn} (e1:a'=a) (e2:m'=m) (e3:t'=t) (e4:ds'=ds) (e5:cs'=cs) (hp:qhg a m t ds cs) (h:K (.bool true) []):F32 (a,m,t,ds,cs,a',m',t',ds',cs',()) K:=by
 subst e1 e2 e3 e4 e5;exact qn4 hp h
def qtd:Sp:=⟨S32,L32,fun g=>(g.2.2.2.2.2.1=g.1/\g.2.2.2.2.2.2.1=g.2.1/\g.2.2.2.2.2.2.2.1=g.2.2.1/\g.2.2.2.2.2.2.2.2.1=g.2.2.2.1/\g.2.2.2.2.2.2.2.2.2.1=g.2.2.2.2.1)/\qhg g.1 g.2.1 g.2.2.1 g.2.2.2.1 g.2.2.2.2.1,fun _=> .bool true,fun _=>none⟩
theorem qbI:qtd.Ok Tryz.prog 32 true:=
 .mk (fun g K X hp h=>qlL g K X (by
  obtain ⟨⟨e1,e2,e3,e4,e5⟩,hp⟩:=hp;exact qgn e1 e2 e3 e4 e5 hp h))
theorem qbo {a m:ByteArray} {t:Int} {ds:List Dig} {cs:List Chg} (h:xP a m t ds cs):qhg a m t ds cs:=by
 obtain ⟨-, -, -,h4,h5, -⟩:=h;have hl:=XL h5;refine ⟨by unfold V3;omega,by omega,fun c hc=> ?_⟩
 have hc:=Jv h5 hc;have:=zA hc;exact ⟨by unfold V3;omega,by unfold V3;omega⟩
theorem qQk (l:List UInt8): -1099511627776<=(Xe l).1/\(Xe l).1<=1099511627776:=by
 unfold Xe;dsimp only;generalize dv 0 (if l.head?=some 45 then l.tail else l)=m
 split
 . exact ⟨by decide,by decide⟩
 . split
   . exact ⟨by show _<= -(m:Int);omega,by show -(m:Int)<=_;omega⟩
   . exact ⟨by show _<=(m:Int);omega,by show (m:Int)<=_;omega⟩
theorem VT (x:Sx):ZW (nmG x).1:=by
 have z:ZW 0:=⟨by decide,by decide⟩
 have h3:=qQk (bl x.atom);unfold nmG nmB;generalize J8 x=e;split
 . split
   . exact z
   . split
     . exact h3
     . exact z
 . exact z
theorem Zo {n:Int} (h:ZW n):jg n:=⟨by have:=h.1;omega,by have:=h.2;omega⟩
theorem qlv (l:List Sx):jv (zz l)<=qV l+3:=by
 cases l with
 | nil=>show jv sx0<=_;rw [jA];exact Jam 3
 | cons x l=>simp only [qV];show jv x<=_;omega
theorem wM (l:List Sx):(zz l).atom.size<=qV l:=by have:=qlv l;rw [jA] at this;omega
theorem QS (l:List Sx):qV (zz l).list<=qV l:=by have:=qlv l;rw [jA] at this;omega
theorem vw (l:List Sx):qV l.tail<=qV l:=by
 cases l with
 | nil=>exact Jam _
 | cons x l=>simp only [qV];show qV l<=_;omega
theorem qi6:wf_dig dz:=by
 unfold wf_dig;simp only [dz];decide
theorem qWx (x:Sx):wf_dig (Qo x).1:=by
 unfold Qo;cases kX x.atom
 . exact qjl _
 . exact qi6
def okI (x:Idn):Prop:=jg x.n/\wf_dig x.patch
theorem qjm:okI iz:=⟨⟨by decide,by decide⟩,qi6⟩
theorem KD (x:Sx):okI (zC x).1:=⟨Zo (VT _),qjl _⟩
theorem YP (x:Sx):okI (zt x).1:=⟨Zo (VT _),qWx _⟩
theorem Zy {α:Type} {f:Sx->α×Bool} {P:α->Prop} (hf: ∀x,P (f x).1): ∀l, ∀y∈(qp f l).1,P y
 | [],y,hy=>by cases hy
 | x::l,y,hy=>by
  rw [qp] at hy;cases c:(f x).2
  . rw [c,Jaf] at hy;rcases Jbf.1 hy with rfl | hy
    . exact hf x
    . exact Zy hf l y hy
  . rw [c,Jae] at hy;rw [List.mem_singleton.1 hy];exact hf x
theorem xu {α:Type} {f:Sx->α×Bool} {b:α->Nat} {k:Nat} (hf: ∀x,b (f x).1<=k*jv x): ∀l,((qp f l).1.map b).sum<=k*qV l
 | []=>Jbt _
 | x::l=>by
  have h1:=hf x;have h2:=xu hf l;rw [qp];simp only [qV,Nat.mul_add];cases c:(f x).2
  . rw [Jaf,List.map_cons,Jcc];omega
  . rw [Jae];simp only [List.map_cons,List.map_nil,Jcc,List.sum_nil];omega
theorem qZa {α:Type} {f:Sx->α} {b:α->Nat} {k:Nat} (hf: ∀x,b (f x)<=k*jv x): ∀l:List Sx,((l.map f).map b).sum<=k*qV l
 | []=>Jbt _
 | x::l=>by
  have h1:=hf x;have h2:=qZa hf l;simp only [qV,Nat.mul_add,List.map_cons,Jcc];omega
theorem qQL (x:Sx):zU x.atom<=1*jv x:=by
 rw [jA,Nat.one_mul];unfold zU;omega
theorem qKH (x:Sx):3<=1*jv x:=by rw [jA];omega
theorem Vc {α:Type}: ∀l:List α,(l.map fun _=>3).sum=3*l.length
 | []=>rfl
 | _::l=>by simp only [List.map_cons,Jcc,Jaj,Vc l];omega
def szC (B:Nat) (c:Chg):Prop:=(jg c.typ/\jg c.mode)/\(okI c.file/\okI c.parent/\okI c.after/\okI c.before)/\(∀x∈c.over,okI x)/\c.name.size<=B/\c.data.size<=B/\(c.lines.map zU).sum<=B/\3*c.over.length<=B
theorem qw7 (B:Nat) (k:Int):szC B (qF k):=by
 have z:jg 0:=⟨by decide,by decide⟩
 exact ⟨⟨z,z⟩,⟨qjm,qjm,qjm,qjm⟩,fun x hx=>(by cases hx),Jbt _,Jbt _,Jbt _,Jbt _⟩
theorem qnh (x:Sx):(∀y∈(VL x).1,okI y)/\3*(VL x).1.length<=qV x.list:=by
 refine ⟨fun y hy=> ?_, ?_⟩
 . obtain ⟨z, -,rfl⟩:=Jch.1 hy;exact KD z
 . show 3*(x.list.map _).length<=_
   rw [Jbs];exact jF _
theorem qmy (x:Sx):(∀y∈(VA x).1,okI y)/\3*(VA x).1.length<=qV x.list:=by
 refine ⟨Zy YP _, ?_⟩;have:=xu (f:=zt) (b:=fun _=>3) qKH x.list
 rw [Vc,Nat.one_mul] at this;exact this
theorem qn3 (x:Sx):((lPx x).1.map zU).sum<=qV x.list:=by
 have:=qZa (f:=fun y:Sx=>y.atom) (b:=zU) qQL x.list
 rw [Nat.one_mul] at this;exact this
theorem qnU (x:Sx):((lRx x).1.map zU).sum<=qV x.list:=by
 have:=xu (f:=z7) (b:=zU) qQL x.list;rw [Nat.one_mul] at this;exact this
theorem VJ {B:Nat} {c:Chg} {r:yc} (hb:qV r.1<=B) (h:szC B c):szC B (cP3 c r).1:=by
 obtain ⟨h1,h2,h3,h4,h5,h6,h7⟩:=h;have hl:=QS r.1;unfold cP3;cases decide (c.kind=5)
 . rw [Jaf];cases decide (2<=c.kind)
   . exact ⟨h1,h2,h3,h4,h5,h6,h7⟩
   . obtain ⟨k1,k2⟩:=qnh (zz r.1);exact ⟨h1,h2,k1,h4,h5,h6,Jau k2 (Jau hl hb)⟩
 . exact ⟨h1,h2,h3,h4,h5,Jau (qn3 (zz r.1)) (Jau hl hb),h7⟩
theorem qKw {B:Nat} {c:Chg} {r:yc} (hb:qV r.1<=B) (h:szC B c):szC B (cP2 c r).1:=by
 obtain ⟨h1,h2,h3,h4,h5,h6,h7⟩:=h;have t1:qV r.1.tail<=B:=Jau (vw _) hb;have t2:qV r.1.tail.tail<=B:=Jau (vw _) t1;unfold cP2;cases decide (c.kind=1);rotate_left
 . exact VJ t1 ⟨⟨Zo (VT _),h1.2⟩,h2,h3,h4,h5,h6,h7⟩
 rw [Jaf];cases decide (c.kind=2);rotate_left
 . exact VJ t2 ⟨h1,⟨h2.1,KD _,h2.2.2⟩,h3,Jau (wM _) t1,h5,h6,h7⟩
 rw [Jaf];cases decide (c.kind=3);rotate_left
 . exact VJ t1 ⟨⟨h1.1,Zo (VT _)⟩,h2,h3,h4,h5,h6,h7⟩
 rw [Jaf];cases decide (c.kind=4);rotate_left
 . exact VJ t1 ⟨h1,h2,h3,h4,Jau (wM _) hb,h6,h7⟩
 rw [Jaf];cases (bif decide (c.kind=5)then true else decide (c.kind=6))
 . exact VJ hb ⟨h1,h2,h3,h4,h5,h6,h7⟩
 . exact VJ t2 ⟨h1,⟨h2.1,h2.2.1,KD _,KD _⟩,h3,h4,h5,h6,h7⟩
theorem qnf {B:Nat} {c:Chg} {r:yc} (hb:qV r.1<=B) (h:szC B c):szC B (cP1 c r).1:=by
 obtain ⟨h1,h2,h3,h4,h5,h6,h7⟩:=h;unfold cP1;cases (bif decide (2<=c.kind)then decide (c.kind<=6)else false)
 . exact qKw hb ⟨h1,h2,h3,h4,h5,h6,h7⟩
 . exact qKw (Jau (vw _) hb) ⟨h1,⟨KD _,h2.2⟩,h3,h4,h5,h6,h7⟩
theorem qyV (x:Sx):szC (jv x) (JX x).1:=by
 have hb:qV x.list<=jv x:=by rw [jA x];omega
 exact qnf (Jau (vw _) hb) (qw7 _ _)
theorem Vw {B:Nat} {c:Chg} {r:yc} (hb:qV r.1<=B) (h:szC B c):szC B (cR3 c r).1:=by
 obtain ⟨h1,h2,h3,h4,h5,h6,h7⟩:=h;have hl:=QS r.1;unfold cR3;cases decide (c.kind=5)
 . rw [Jaf];cases !decide (c.kind=1)
   . exact ⟨h1,h2,h3,h4,h5,h6,h7⟩
   . obtain ⟨k1,k2⟩:=qmy (zz r.1);exact ⟨h1,h2,k1,h4,h5,h6,Jau k2 (Jau hl hb)⟩
 . exact ⟨h1,h2,h3,h4,h5,Jau (qnU (zz r.1)) (Jau hl hb),h7⟩
theorem qKA {B:Nat} {c:Chg} {r:yc} (hb:qV r.1<=B) (h:szC B c):szC B (cR2 c r).1:=by
 obtain ⟨h1,h2,h3,h4,h5,h6,h7⟩:=h;have t1:qV r.1.tail<=B:=Jau (vw _) hb;have t2:qV r.1.tail.tail<=B:=Jau (vw _) t1;unfold cR2;cases decide (c.kind=1);rotate_left
 . exact Vw t1 ⟨⟨Zo (VT _),h1.2⟩,h2,h3,h4,h5,h6,h7⟩
 rw [Jaf];cases decide (c.kind=2);rotate_left
 . exact Vw t2 ⟨h1,⟨h2.1,YP _,h2.2.2⟩,h3,Jau (wM _) t1,h5,h6,h7⟩
 rw [Jaf];cases decide (c.kind=3);rotate_left
 . exact Vw t1 ⟨⟨h1.1,Zo (VT _)⟩,h2,h3,h4,h5,h6,h7⟩
 rw [Jaf];cases decide (c.kind=4);rotate_left
 . exact Vw t1 ⟨h1,h2,h3,h4,Jau (wM _) hb,h6,h7⟩
 rw [Jaf];cases (bif decide (c.kind=5)then true else decide (c.kind=6))
 . exact Vw hb ⟨h1,h2,h3,h4,h5,h6,h7⟩
 . exact Vw t2 ⟨h1,⟨h2.1,h2.2.1,YP _,YP _⟩,h3,h4,h5,h6,h7⟩
theorem qnw {B:Nat} {c:Chg} {r:yc} (hb:qV r.1<=B) (h:szC B c):szC B (Js c r).1:=by
 obtain ⟨h1,h2,h3,h4,h5,h6,h7⟩:=h;unfold Js;cases (bif decide (2<=c.kind)then decide (c.kind<=6)else false)
 . exact qKA hb ⟨h1,h2,h3,h4,h5,h6,h7⟩
 . exact qKA (Jau (vw _) hb) ⟨h1,⟨YP _,h2.2⟩,h3,h4,h5,h6,h7⟩
theorem qkq (x:Sx):szC (jv x) (ZU x).1:=by
 have hb:qV x.list<=jv x:=by rw [jA x];omega
 exact qnw (Jau (vw _) hb) (qw7 _ _)
theorem qfB (l:List Idn):(l.map yf).sum=33*l.length:=by
 induction l with
 | nil=>rfl
 | cons x l ih=>rw [List.map_cons,Jcc,ih,Jaj];show 33+_=_;omega
theorem qiT {x:Sx} {c:Chg} (h:szC (jv x) c):zQ c<=61*jv x:=by
 obtain ⟨-, -, -,h4,h5,h6,h7⟩:=h;have h0:=jA x;unfold zQ;rw [qfB];omega
theorem qiK {x:Sx} {c:Chg} (h:szC (jv x) c):2*c.lines.length+1<=3*jv x:=by
 obtain ⟨-, -, -, -, -,h6, -⟩:=h;have h0:=jA x;have:=kB zU 1 c.lines fun s _=>by unfold zU;omega
 omega
structure Fine (p:Rp):Prop where
 x:xP p.a p.m p.t p.ds p.cs
 d: ∀d∈p.ds,wf_dig d
 w: ∀c∈p.cs,wfG c
 o: ∀c∈p.cs, ∀x∈c.over,wf_idk x
 n:atN p.cs<=100000
theorem qJH {x:Idn} (h:okI x):wf_idk x:=by
 obtain ⟨h1,h2⟩:=h;have h1:IntKind.i64.min<=x.n/\x.n<=IntKind.i64.max:=h1;unfold wf_dig at h2;unfold wf_idk;simp only [h1,h2,and_self]
theorem qZE {p:Rp} {B:Nat} (hB:B<=20000) (ha:p.a.size<=B) (hm:p.m.size<=B) (ht:ZW p.t) (hd: ∀d∈p.ds,wf_dig d) (hdl:p.ds.length<=B) (hc: ∀c∈p.cs, ∃x,szC (jv x) c) (hs:(p.cs.map zQ).sum<=61*B) (hn:atN p.cs<=3*B):Fine p:=by
 refine ⟨⟨Zo ht,by omega,by omega,by omega,by omega,fun c h=> ?_⟩,hd,fun c h=> ?_,fun c h=> ?_,by omega⟩
 . obtain ⟨x,⟨h1,h2⟩,⟨h3,h4,h5,h6⟩,h7, -⟩:=hc c h;exact ⟨h1,h2,h3.1,h4.1,h5.1,h6.1,fun y hy=>(h7 y hy).1⟩
 . obtain ⟨x, -,⟨h3,h4,h5,h6⟩,h7, -⟩:=hc c h;exact ⟨h3.2,h4.2,h5.2,h6.2,fun y hy=>(h7 y hy).2⟩
 . obtain ⟨x, -, -,h7, -⟩:=hc c h;exact fun y hy=>qJH (h7 y hy)
theorem qwg {f:Sx->Chg×Bool} (hf: ∀x,szC (jv x) (f x).1) (l:List Sx): ∀c∈(qp f l).1, ∃x,szC (jv x) c:=Zy (P:=fun c=> ∃x,szC (jv x) c) (fun x=>⟨x,hf x⟩) l
theorem qpf {l:List Sx} (h:qV l<=20000):Fine (xM l):=by
 have t1:qV l.tail<=20000:=Jau (vw _) h;have t2:qV l.tail.tail<=20000:=Jau (vw _) t1;have t3:qV l.tail.tail.tail<=20000:=Jau (vw _) t2;have t4:qV l.tail.tail.tail.tail<=20000:=Jau (vw _) t3;have t5:qV l.tail.tail.tail.tail.tail<=20000:=Jau (vw _) t4;have u4:qV (zz l.tail.tail.tail.tail).list<=20000:=Jau (QS _) t4;have u5:qV (zz l.tail.tail.tail.tail.tail).list<=20000:=Jau (QS _) t5;refine qZE (Jam 20000) (Jau (wM _) t1) (Jau (wM _) t2) (VT _) ?_ ?_ (qwg qyV _) ?_ ?_
 . intro d hd;obtain ⟨z, -,rfl⟩:=Jch.1 hd;exact qjl _
 . show ((zz l.tail.tail.tail.tail).list.map _).length<=_
   have:=jF (zz l.tail.tail.tail.tail).list;rw [Jbs];omega
 . have:=xu (f:=JX) (b:=zQ) (fun x=>qiT (qyV x)) (zz l.tail.tail.tail.tail.tail).list
   exact Jau this (Nat.mul_le_mul_left _ u5)
 . have:=xu (f:=JX) (b:=fun c=>2*c.lines.length+1) (fun x=>qiK (qyV x)) (zz l.tail.tail.tail.tail.tail).list
   exact Jau this (Nat.mul_le_mul_left _ u5)
theorem qrN {l:List Sx} (h:qV l<=20000):Fine (JV l):=by
 have t1:qV l.tail<=20000:=Jau (vw _) h;have t2:qV l.tail.tail<=20000:=Jau (vw _) t1;have t3:qV l.tail.tail.tail<=20000:=Jau (vw _) t2;have t4:qV l.tail.tail.tail.tail<=20000:=Jau (vw _) t3;have t5:qV l.tail.tail.tail.tail.tail<=20000:=Jau (vw _) t4;have u4:qV (zz l.tail.tail.tail.tail).list<=20000:=Jau (QS _) t4;have u5:qV (zz l.tail.tail.tail.tail.tail).list<=20000:=Jau (QS _) t5;refine qZE (Jam 20000) (Jau (wM _) t1) (Jau (wM _) t2) (VT _) (Zy qWx _) ?_ (qwg qkq _) ?_ ?_
 . have:=xu (f:=Qo) (b:=fun _=>3) qKH (zz l.tail.tail.tail.tail).list
   rw [Vc,Nat.one_mul] at this;exact Jau (Jau (Nat.le_mul_of_pos_left _ (by decide)) this) u4
 . have:=xu (f:=ZU) (b:=zQ) (fun x=>qiT (qkq x)) (zz l.tail.tail.tail.tail.tail).list
   exact Jau this (Nat.mul_le_mul_left _ u5)
 . have:=xu (f:=ZU) (b:=fun c=>2*c.lines.length+1) (fun x=>qiK (qkq x)) (zz l.tail.tail.tail.tail.tail).list
   exact Jau this (Nat.mul_le_mul_left _ u5)
end
section
open Go.RowKit
attribute [local irreducible] zb qa
set_option maxRecDepth 100000
abbrev S8:List Sh:=[.leaf]
abbrev L8:List Lf:=[.str]
def F8 (g:prodL L8) (K:Kn):Prop:=
 bif decide (3000< (g.1.size:Int))then (
  qlT.pre (())/\
  K (.bool true) [])
 else (
  qpD.pre (g.1,())/\
 qtR.pre (g.1,())/\
 qtd.pre ((vj g.1).a,(vj g.1).m,(vj g.1).t,(vj g.1).ds,(vj g.1).cs,(kA g.1).a,(kA g.1).m,(kA g.1).t,(kA g.1).ds,(kA g.1).cs,())/\
 bif decide ((vj g.1).e=(kA g.1).e)then (
  qlT.pre (())/\
  K (.bool true) [])
 else (
  K (.bool false) []))
theorem qpp (g:prodL L8) (K X:Kn) (h:F8 g K):FCalls Tryz.prog 8 (argsT S8 L8 g) [] K X:=
 FCalls.settle0 (qw Tryz.func8 Tryz.ntmps8 Tryz.results8 qj (qx qfi (qx qcA (qx qhi (qx qbI qz)))) [] [] (by kernel_rfl) (by kernel_rfl) h)
end
section
open Go.RowKit
set_option maxRecDepth 100000
theorem Kr {s:ByteArray} {p:Rp} {x:ByteArray×Int} (h1:p.bad=false) (h2:x=(s,0)):vb s p x=⟨p.a,p.m,p.t,p.ds,p.cs,0⟩:=by
 unfold vb;rw [h1,h2];dsimp only;rw [Jaa rfl,Jaa rfl];rfl
theorem qqw (s:ByteArray) (p:Rp) (x:ByteArray×Int):(p.bad=false/\x=(s,0)/\vb s p x=⟨p.a,p.m,p.t,p.ds,p.cs,0⟩)∨vb s p x=drZ:=by
 cases h1:p.bad;rotate_left
 . right;unfold vb;rw [h1];rfl
 by_cases h2:x.2=0
 rotate_left
 . right;unfold vb;rw [h1,Jab h2];rfl
 by_cases h3:x.1=s
 rotate_left
 . right;unfold vb;rw [h1,Jaa h2,Jab h3];rfl
 have e:x=(s,0):=Prod.ext h3 h2;exact .inl ⟨rfl,e,Kr h1 e⟩
theorem qQd {s a m:ByteArray} {t:Int} {ds:List Dig} {cs:List Chg} (hd: ∀d∈ds,wf_dig d) (hw: ∀c∈cs,wfG c) (he:(j7 a m t ds cs).2=(s,0)):
  (zj s).2=0/\s.size<=65536/\xM (zj s).1.list=⟨a,m,t,ds,cs,false⟩/\JV (zj s).1.list=⟨a,m,t,ds,cs,false⟩:=by
 have h0:(j7 a m t ds cs).2.2=0:=by rw [he]
 have h1:(j7 a m t ds cs).2.1=s:=by rw [he]
 obtain ⟨-, -,h3,h4⟩:=qxf h0;rw [qWu h0] at h1;have h1:(vQ (zN a m t (za ds) cs)).1=s:=h1;by_cases hk:J8 (zN a m t (za ds) cs)=0
 rotate_left
 . rw [qtr hk] at h3;exact absurd h3 hk
 rw [h1] at h4;rw [qux hk] at h1;have h1:vZ (zN a m t (za ds) cs)=s:=h1;have hz:=qgw hk;rw [h1] at hz;obtain ⟨b1,b2⟩:=qkX hd hw h0;rw [hz];exact ⟨rfl,by omega,b1,b2⟩
theorem qda {s:ByteArray} (h1:(zj s).2=0) (h2:s.size<=65536):vj s=vb s (xM (zj s).1.list) (j7 (xM (zj s).1.list).a (xM (zj s).1.list).m (xM (zj s).1.list).t (xM (zj s).1.list).ds (xM (zj s).1.list).cs).2:=by
 unfold vj qXm;rw [Jaa h1,Jab (show¬65536< ((s.size:Nat):Int)by omega)];rfl
theorem Kx (s:ByteArray):(qXm s=false/\(xM (zj s).1.list).bad=false/\(j7 (xM (zj s).1.list).a (xM (zj s).1.list).m (xM (zj s).1.list).t (xM (zj s).1.list).ds (xM (zj s).1.list).cs).2=(s,0)/\
  vj s=⟨(xM (zj s).1.list).a,(xM (zj s).1.list).m,(xM (zj s).1.list).t,(xM (zj s).1.list).ds,(xM (zj s).1.list).cs,0⟩)∨vj s=drZ:=by
 cases hb:qXm s
 . rcases qqw s (xM (zj s).1.list) (j7 (xM (zj s).1.list).a (xM (zj s).1.list).m (xM (zj s).1.list).t (xM (zj s).1.list).ds (xM (zj s).1.list).cs).2 with ⟨h1,h2,h3⟩ | h3
   . left;refine ⟨rfl,h1,h2, ?_⟩;rw [<- h3];unfold vj;rw [hb];rfl
   . right;rw [<- h3];unfold vj;rw [hb];rfl
 . right;unfold vj;rw [hb];rfl
theorem qXc {s:ByteArray} (hP:Fine (xM (zj s).1.list)) (hR:Fine (JV (zj s).1.list)):vj s=kA s:=by
 by_cases z:(zj s).2=0
 rotate_left
 . have e1:vj s=drZ:=by unfold vj qXm;rw [Jab z];rfl
   have e2:kA s=drZ:=by unfold kA;rw [Jab z];rfl
   rw [e1,e2]
 have eR:kA s=vb s (JV (zj s).1.list) (kw (JV (zj s).1.list).a (JV (zj s).1.list).m (JV (zj s).1.list).t (JV (zj s).1.list).ds (JV (zj s).1.list).cs):=by
  unfold kA;rw [Jaa z];rfl
 rcases Kx s with ⟨-,h1,h2,h3⟩ | h3
 . obtain ⟨-, -, -,b2⟩:=qQd hP.d hP.w h2;rw [h3,eR,b2];rw [qub hP.d hP.n hP.o] at h2;exact (Kr (s:=s) (p:=(⟨(xM (zj s).1.list).a,(xM (zj s).1.list).m,(xM (zj s).1.list).t,(xM (zj s).1.list).ds,(xM (zj s).1.list).cs,false⟩:Rp)) rfl h2).symm
 . rw [h3];rcases qqw s (JV (zj s).1.list) (kw (JV (zj s).1.list).a (JV (zj s).1.list).m (JV (zj s).1.list).t (JV (zj s).1.list).ds (JV (zj s).1.list).cs)with ⟨k1,k2,k3⟩ | k3
   . rw [<- qub hR.d hR.n hR.o] at k2;obtain ⟨-,hs,b1, -⟩:=qQd hR.d hR.w k2;have e:=qda z hs;have f:=Kr (s:=s) (p:=(⟨(JV (zj s).1.list).a,(JV (zj s).1.list).m,(JV (zj s).1.list).t,(JV (zj s).1.list).ds,(JV (zj s).1.list).cs,false⟩:Rp)) rfl k2;rw [b1,f,h3] at e;have e:(12:Int)=0:=congrArg Dr.e e;exact absurd e (by decide)
   . rw [eR,k3]
theorem qbZ:xP ⟨#[]⟩ ⟨#[]⟩ 0 [] []:=⟨⟨by decide,by decide⟩,by decide,by decide,by decide,by decide,fun c hc=>by cases hc⟩
theorem qoi {s:ByteArray} (h:Fine (xM (zj s).1.list)):xP (vj s).a (vj s).m (vj s).t (vj s).ds (vj s).cs:=by
 rcases Kx s with ⟨-, -, -,e⟩ | e<;>rw [e]
 . exact h.x
 . exact qbZ
theorem qws {s:ByteArray} (h: ¬(3000:Int) < ((s.size:Nat):Int)):qV (zj s).1.list<=20000:=by
 have:=qYX s;rw [jA] at this;omega
theorem patchDecode.calls (g:prodL L8) (hw:wfL L8 g) (hb:y6 L8 g<=1048576):FCalls Tryz.prog 8 (argsT S8 L8 g) [] (fun r _=>r= .bool true) fun _ _=>False:=by
 obtain ⟨s,⟨⟩⟩:=g;have hb:s.size+1+0<=1048576:=hb;refine qpp (s,()) _ _ ?_;unfold F8;show bif decide ((3000:Int) < ((s.size:Nat):Int))then _ else _
 by_cases hs:(3000:Int) < ((s.size:Nat):Int)
 . rw [Jaa hs];exact ⟨trivial,rfl⟩
 rw [Jab hs,Jaf];have hP:=qpf (qws hs);have hR:=qrN (qws hs);refine ⟨⟨by show s.size<=_;omega,fun _ _=>hP.x⟩,⟨by show s.size<=_;omega,hR.x⟩, ?_⟩
 dsimp only;rw [<- qXc hP hR];refine ⟨⟨⟨rfl,rfl,rfl,rfl,rfl⟩,qbo (qoi hP)⟩, ?_⟩;rw [Jaa rfl,Jae];exact ⟨trivial,rfl⟩
end
section
open Go.RowKit Go.ChangeShapes
def qBR (e:El):Bool:=(lvs e).all fun l=>match l with | .fd=>false | _=>true
def DR:TD:=D.filter fun p=>match p.2.el with | some e=>qBR e | none=>true
theorem Yj {t:TypeId} {te:TI}: ∀(l:TD),zx l t=some te->(t,te)∈l
 | [],h=>by cases h
 | (j,x)::r,h=>by
  simp only [zx] at h;split at h
  . rename_i e;subst e;injection h with h;subst h;exact Jbc
  . exact Jbe _ (Yj r h)
theorem Vr {t:TypeId} {te:TI}: ∀(l:TD),(l.map (·.1)).Nodup->(t,te)∈l->zx l t=some te
 | [],_,h=>by cases h
 | (j,x)::r,hn,h=>by
  simp only [List.map_cons,List.nodup_cons] at hn;rcases Jbf.1 h with h | h
  . cases h;simp [zx]
  . have:j≠t:=by rintro rfl;exact hn.1 (Jch.2 ⟨_,h,rfl⟩)
    simp only [zx];rw [if_neg (Ne.symm this)];exact Vr r hn.2 h
theorem qpk:zY Tryz.prog DR:=fun t ti h=>
 V7 t ti (Vr D (Jac (by kernel_rfl:decide ((D.map (·.1)).Nodup)=true)) (List.mem_filter.1 (Yj DR h)).1)
theorem qWH:Wh DR:=by
 have key:DR.all (fun p=>match p.2.el with | some e=>decide (ym DR 8 p.1=some (lvs e)) | none=>true)=true:=by kernel_rfl
 intro t te e ht he;have:=Jbu.1 key _ (Yj DR ht);simp only [he] at this;exact ⟨8,Jac this⟩
theorem qV5:Kids Tryz.prog (· <Tryz.prog.types.size):=kids_rows (by kernel_rfl) (by kernel_rfl)
theorem qY1: ∀t e,t<Tryz.prog.types.size->Tryz.prog.underlying t=some (.slice e)->0<Tryz.prog.cellsOf e:=slices_full_of Tryz.prog (by kernel_rfl)
theorem qVn:ownKnob Tryz.prog.godebug=none:=by kernel_rfl
theorem qhv {H:Type} {l:List (DataW H)} (hk:Rows.uptoSmall H l=true):Rows.uptoBulkAll l<=1048576:=by
 simpa [Rows.uptoSmall] using hk
theorem qv3 {H:Type} {enc:TypeId×Value->H} {a:Assume} {C:Checked} {os:Os} {f:FuncId} {fn:Func} {s:OpenSpec} {F:Stop.Interp} {conds:List PathCond} {apart fresh handsOn again:Bool} {laid:List (String×DataW Unit)}
  (own:ownKnob C.prog.godebug=none) (started:os.Started) (noInit:C.prog.inits.idxOf? f=none) (hfn:C.prog.funcs[f]? =some fn)
  (witness: ∃(w:World) (tape:Tape) (i:Input),w.os=os/\(w.forCall tape i).Shaped C.prog/\i.vars=[]/\Input.okWide C.prog (w.forCall tape i) .any w.heap.size f i/\
   s.preRow enc C.prog fn conds apart laid (w.forCall tape i).memory i.args/\a.holds C.prog (lone (Frame.enter C.prog f i.args .normal) [] (w.forCall tape i)))
  (contract: ∀(W:World) (base:Nat) (args:Array Value) (ds gs:List (DataW H)) (before:List MemPlace),
   (∀(j:Nat) t v,fn.params[j]? =some t->args[j]? =some v->Value.okWide C.prog W .any base t v)->
   DataW.Whole enc C.prog fn.params.toList s.vars apart W args.toList ds gs before->
   (∀k,s.cond=some k->k H (ds++gs)=true)->laidMetH C.prog laid W->
   Calls C.prog f args W fun e W'=> ∃v,e= .returned v/\(s.at F).post enc C.prog fn apart fresh handsOn again W args v W'):
  ReturnsInHanded a C os f .any (s.preRow enc C.prog fn conds apart laid) ((s.at F).post enc C.prog fn apart fresh handsOn again):=by
 refine returnsInHanded_of_calls own started noInit witness ?_;intro w tape i _ _ _ hok hpre hholds;obtain ⟨_,_,_,fn',hfn',_,_,_,_,hval⟩:=hok;have e:fn'=fn:=Jb0 (hfn'.symm.trans hfn);subst e;obtain ⟨⟨hp,hl⟩,_⟩:=hpre;obtain ⟨ds,gs,before,hw,hc,hkk⟩:=OpenSpec.pre_parts hp;have hw':=DataW.Whole.of_heap (w':=w.forCall tape i) (by rfl) hw
 refine (contract (w.forCall tape i) w.heap.size i.args ds gs before hval hw' hkk (hl.of_heap (by rfl))).mono fun e W' ⟨v,he,hp⟩=> ?_
 subst he;exact ChangeSpec.post_blind hp
def qjN:List (String×DataW Unit):=Rows.patchDecodeUptoRow.laid
theorem qY0 (os:Os) (args:Array Value):laidMetH Tryz.prog qjN ((World.doorLaid Tryz.prog 400 os).forCall (fun _ _=>0) ⟨#[],args,[]⟩).memory:=
 laidMetH_of_parts3 (fuel:=8) (laidMet_of_run' 8 (by kernel_rfl) (by kernel_rfl)) (by kernel_rfl) (by kernel_rfl)
theorem qAd:Tryz.prog.globalNamed "internal/strconv.uint64pow10" =some 3:=by kernel_rfl
theorem qCK:Tryz.prog.globalNamed "strconv.ErrRange" =some 2:=by kernel_rfl
theorem qBf:(Tryz.prog.globals[3]?).map (·.type)=some 255:=by kernel_rfl
theorem qCk:(Tryz.prog.globals[2]?).map (·.type)=some 176:=by kernel_rfl
theorem qzy {P:Program} {w:World} {n:String} {g:Nat} {cs:Array Value} (hg:P.globalNamed n=some g) (h:w.var? P n=some cs): ∃E fr,w.heap[g]? =some (.cells cs E fr):=by
 simp only [World.var?,hg,Jaz] at h;split at h
 . rename_i c E fr e;simp only [Jah] at h;subst h;exact ⟨_,_,e⟩
 . cases h
theorem qhy {W:World} (h:laidMetH Tryz.prog qjN W):LaidG (RdB W):=by
 rw [MakeChecks.laidMetH_plain _ _ _ (by kernel_rfl)] at h
 obtain ⟨ps,⟨_,_,_,_,_,_,_,_,_,_,⟨_,_,_,_,_,_,_,_,_,_,⟨g2,t2,cs2,f2,p2,q2,hg2,ht2,hv2,hd2,⟨g3,t3,cs3,f3,p3,q3,hg3,ht3,hv3,hd3,_⟩,_⟩,_⟩,_⟩,_,_⟩:=h;obtain rfl:=Jb0 (qAd.symm.trans hg2);obtain rfl:=Jb0 (qCK.symm.trans hg3);obtain rfl:=Jb0 (qBf.symm.trans ht2);obtain rfl:=Jb0 (qCk.symm.trans ht3);obtain ⟨E2,fr2,b2⟩:=qzy hg2 hv2;obtain ⟨E3,fr3,b3⟩:=qzy hg3 hv3;refine ⟨?_, ?_⟩
 . obtain ⟨xs,m,rfl,hx1,hlen,hn,hel⟩:=DataW.trod_array Tryz.underlying255 hd2;have c1:Tryz.prog.cellsOf 137=1:=by kernel_rfl
   have c2:Tryz.prog.cellsOf 255=20:=by kernel_rfl
   rw [c2] at hlen;simp only [Jbg] at hx1;have hl:(.agg (xs.map (·.1)):DataW Unit)= .agg ((List.range 20).map fun i=> .lit (.int .u64 ((10^i:Nat):Int))):=hx1.1.symm.trans (by kernel_rfl)
   injection hl with hl;have hsz:cs2.size=20:=by simpa using hlen
   have key: ∀j,j<20->cs2[j]? =some (.int .u64 ((10^j:Nat):Int)):=fun j hj=>by
    have h1:=hel j hj;rw [c1,Nat.mul_one] at h1;obtain ⟨y,hy⟩: ∃y,xs[j]? =some y:=⟨xs[j],Jao (by omega)⟩
    rw [hy] at h1;obtain ⟨n,e1,e2,_⟩:=DataW.trod_int Tryz.underlying137 h1;have h2:=congrArg (·[j]?) hl;simp only [Jax,hy,Ja8,e2,List.getElem?_range hj] at h2;simp only [Jah,DataW.lit.injEq,Lit.int.injEq,true_and] at h2;subst h2;have h3:=congrArg (·[0]?) e1;simp only [List.getElem?_take,Jbo,Jcg,Jbh] at h3;simpa using h3
   exact ⟨.mk 3 Z9 cs2 E2 fr2 b2 (fun n h=>by have:=congrArg List.length h;simp [Z9] at this) (by simp [Z9,hsz]) (fun j u x hu hx _=>by
    have hj:j<20:=by have:=(Jai.1 hu).1;simpa [Z9] using this
    rw [key j hj] at hx;simp [Z9,hj] at hu hx;subst hu;subst hx;exact .int _ _),.ex 3 20 cs2 E2 fr2 b2 hsz (by decide)⟩
 . obtain ⟨_,u,v,e,_⟩:=iface_of_trod Tryz.underlying176 hd3;obtain ⟨l⟩:=cs3;simp only at e;subst e;exact ⟨u,v,.mk 2 _ _ E3 fr3 b3 (fun n h=>by simp at h) (by simp) (fun j t x hu hx _=>by
    match j,hu,hx with
    | 0,hu,hx=>simp at hu hx;subst hu;subst hx;exact .cst _ rfl
    | j+1,hu,hx=>simp at hu)⟩
theorem qw0 (os:Os) (args:Array Value):((World.doorLaid Tryz.prog 400 os).forCall (fun _ _=>0) ⟨#[],args,[]⟩).Shaped Tryz.prog:=
 World.shaped_of_RefB (by kernel_rfl) (by kernel_rfl)
theorem qvJ {H:Type} {enc:TypeId×Value->H} {os:Os} {f:FuncId} {fn:Func} {s:OpenSpec} {apart:Bool} (args:Array Value)
  (hok:Input.okWideB Tryz.prog ((World.doorLaid Tryz.prog 400 os).forCall (fun _ _=>0) ⟨#[],args,[]⟩) f ⟨#[],args,[]⟩=true)
  {x:List (DataW H)×List (DataW H)×List MemPlace} (hx:DataW.whole enc Tryz.prog ((World.doorLaid Tryz.prog 400 os).forCall (fun _ _=>0) ⟨#[],args,[]⟩).memory fn.params.toList s.vars apart args.toList 12=some x)
  (hkk: ∀k,s.cond=some k->k H (x.1++x.2.1)=true)
  (hsz:s.bare.sizedB enc Tryz.prog fn apart ((World.doorLaid Tryz.prog 400 os).forCall (fun _ _=>0) ⟨#[],args,[]⟩).memory args 12=true):
  ∃(w:World) (tape:Tape) (i:Input),w.os=os/\(w.forCall tape i).Shaped Tryz.prog/\i.vars=[]/\Input.okWide Tryz.prog (w.forCall tape i) .any w.heap.size f i/\
   s.preRow enc Tryz.prog fn [] apart qjN (w.forCall tape i).memory i.args/\({}:Assume).holds Tryz.prog (lone (Frame.enter Tryz.prog f i.args .normal) [] (w.forCall tape i)):=
 ⟨World.doorLaid Tryz.prog 400 os,fun _ _=>0,⟨#[],args,[]⟩,rfl,qw0 os args,(Input.okWide_of_okWideB (base:=0) hok).1,(Input.okWide_of_okWideB hok).2,OpenSpec.preRow_of_cond 12 hx rfl hkk hsz (qY0 os args),by
  simp only [Assume.holds];exact ⟨by simp,by simp,fun _=>Modest.zero,by simp,by simp⟩⟩
end
end Go.Proofs.YtbglndogddddoaaGreatDoor
