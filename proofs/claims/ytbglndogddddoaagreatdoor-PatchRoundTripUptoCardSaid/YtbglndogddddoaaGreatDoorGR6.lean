import Derived.Shelf.SlSortCmp.WholeK
import Derived.Shelf.RegionOpenPlain
import Derived.WalkKit
import Derived.Lib.Walk
import Derived.Lib.Bytealg
import Derived.Lib.BytesEntry
import Derived.BigCall
import Derived.BigGuard
import Derived.Deep.Draws
import Derived.Deep.QuietTactic
import Derived.BigQuiet
import Derived.Shelf.SlSortCmp.NoneTotal
import Derived.Test.YtbglndogddddoaaGreatDoorGR5
set_option linter.unusedVariables false
set_option linter.unusedSimpArgs false
set_option linter.unusedSectionVars false
namespace Go.Proofs.YtbglndogddddoaaGreatDoor
open Go.RowKit
set_option maxRecDepth 100000
theorem xh (x:Sx):(⟨x.isList,x.atom,x.list⟩:Sx)=x:=by cases x;rfl
def Xa (d:Dig):Sx:=qY (bif xb d dz then ⟨#[]⟩else vR d)
def qI (x:Idn):Sx:=ql [Xa x.patch,qC x.n]
def qK (l:List Idn):Sx:=ql (l.map qI)
def zY (l:List ByteArray):Sx:=ql (l.map qY)
def zr (k:Nat) (c:Chg):List Sx:=match k with
 | 1=>[qC c.typ]
 | 2=>[qI c.file,qI c.parent,qY c.name,qK c.over]
 | 3=>[qI c.file,qC c.mode,qK c.over]
 | 4=>[qI c.file,qY c.data,qK c.over]
 | 5=>[qI c.file,qI c.after,qI c.before,zY c.lines]
 | 6=>[qI c.file,qI c.after,qI c.before,qK c.over]
 | 7=>[qK c.over]
 | _=>[]
def QQ (c:Chg):Sx:=ql (qC c.kind::zr c.kind.toNat c)
def Q9:ByteArray:=⟨#[113,117,105,108,116,49]⟩
def zR (a m:ByteArray) (t:Int) (D:List Sx) (cs:List Chg):Sx:=ql [qY Q9,qY a,qY m,qC t,ql D,ql (cs.map QQ)]
def tblL:List (Int×ByteArray×Nat):=[(1,⟨#[]⟩,160),(2,⟨#[]⟩,161),(3,⟨#[]⟩,164),(4,⟨#[]⟩,165),(5,⟨#[]⟩,166),(6,⟨#[]⟩,168),(7,⟨#[]⟩,169)]
def chW (c:Chg):Prop:=xB c.typ/\xB c.mode/\xB c.file.n/\xB c.parent.n/\xB c.after.n/\xB c.before.n/\ ∀x∈c.over,xB x.n
def ovP (l:List Idn):Prop:=l.length<=4194304/\ ∀x∈l,xB x.n
theorem Ji {c:Chg} (hp:XI c) (hw:chW c):ovP c.over:=⟨(jf hp).2.2.2.2,hw.2.2.2.2.2.2⟩
theorem bk_digX (d:Dig):xx (Xa d)<=35:=by
 unfold Xa
 rw [kw]
 cases xb d dz
 . rw [cond_false,JV];omega
 . have:(⟨#[]⟩:ByteArray).size=0:=rfl
   rw [cond_true,this];omega
theorem VW {x:Idn} (h:xB x.n):xx (qI x)<=62:=by
 have h1:=bk_digX x.patch
 have h2:=Jx h
 unfold qI
 rw [wE]
 simp only [qu]
 omega
theorem VV {α:Type} (f:α->Sx) (m:Nat): ∀(l:List α),(∀x∈l,xx (f x)<=m)->qu (l.map f)<=m*l.length
 | [],_=>by simp [qu]
 | x::l,h=>by
  have h1:=h x (List.mem_cons_self ..)
  have h2:=VV f m l fun y hy=>h y (List.mem_cons_of_mem _ hy)
  simp only [List.map_cons,qu,List.length_cons,Nat.mul_succ]
  omega
theorem bk_overX {l:List Idn} (h:ovP l):xx (qK l)<=62*l.length+3:=by
 unfold qK
 rw [wE]
 have:=VV qI 62 l fun x hx=>VW (h.2 x hx)
 omega
theorem bk_linesX (l:List ByteArray):xx (zY l)<=3*(l.map jY).sum+3:=by
 unfold zY
 rw [wE]
 have:qu (l.map qY)<=3*(l.map jY).sum:=by
  induction l with
  | nil=>simp [qu]
  | cons s l ih=>
   simp only [List.map_cons,qu,List.sum_cons,kw,jY] at ih ⊢
   omega
 omega
theorem bk_chX {c:Chg} (hp:XI c) (hw:chW c) (hk:xB c.kind):xx (QQ c)<=5*qA c+300:=by
 have ho:=bk_overX (Ji hp hw)
 have hl:=bk_linesX c.lines
 obtain ⟨w1,w2,w3,w4,w5,w6,w7⟩:=hw
 have e:=yk yt 33 c.over fun x _=>Nat.le_refl _
 have h3:=VW w3
 have h4:=VW w4
 have h5:=VW w5
 have h6:=VW w6
 have h1:=Jx w1
 have h2:=Jx w2
 have hk:=Jx hk
 have hb:qA c=(c.name.size+1)+(c.data.size+1)+((c.lines.map jY).sum+1)+((c.over.map yt).sum+1)+135:=rfl
 unfold QQ
 rw [wE]
 unfold zr
 split<;>simp only [qu,kw]<;>omega
end Go.Proofs.YtbglndogddddoaaGreatDoor
namespace Go.Proofs.YtbglndogddddoaaGreatDoor
open Go.RowKit
attribute [local irreducible] qW qb
set_option maxRecDepth 100000
def H118n:List (Nat×Hint):=[]
def J118n:List (Nat×Hint):=[]
abbrev S118n:List Sh:=[.nil]
abbrev J6:List Lf:=[]
abbrev O118n:List ObSh:=[]
def F118n (g:prodL J6) (K:Kn):Prop:=
 K (.ag [.bool true, .str (⟨#[]⟩:ByteArray), .nil]) []
theorem F118n_eq (g:prodL J6) (K X:Kn):F118n g K=qW D (qJ [] []) (qv []) H118n J118n 5 [.cell 2 85] (qq Tryz.f118) (argsT S118n J6 g) (qZ S118n O118n J6 g) (settle0 K) X 0:=by kernel_rfl
theorem F118n_ok (g:prodL J6) (K X:Kn) (h:F118n g K):FCalls Tryz.prog 118 (argsT S118n J6 g) (qZ S118n O118n J6 g) K X 0:=
 FCalls.settle0 (qz (Γ:=qJ [] []) (mu:=qv []) (H:=H118n) (J:=J118n) qh (vN vC) qj rfl Tryz.func118 (c:=qq Tryz.f118) rfl Tryz.ntmps118 Tryz.results118 (by unfold qk;rw [Tryz.func118];kernel_rfl) (Nat.le_of_ble_eq_true (by kernel_rfl)) (c0:=0) (Eq.mp (F118n_eq g K X) h))
def jt:Raw:=⟨S118n,O118n,J6,0,fun g K _=>F118n g K⟩
theorem Jo:jt.Ok Tryz.prog 118:=fun g K X h=>F118n_ok g K X h
def H121:List (Nat×Hint):=[]
def J121:List (Nat×Hint):=[]
abbrev S121:List Sh:=[.leaf]
abbrev L121:List Lf:=[.int .i64]
def F121 (g:prodL L121) (K:Kn):Prop:=
 sp170.pre (g.1,())/\
 K (.ag [.bool (((ki g.1).1).isList), .str (((ki g.1).1).atom), .sl false .sexp (((ki g.1).1).list)]) []
theorem F121_eq (g:prodL L121) (K X:Kn):F121 g K=qW D (qJ [] [(170,false,sp170)]) (qv []) H121 J121 11 [.cell 2 85] (qq Tryz.f121) (argsT S121 L121 g) [] (settle0 K) X:=by kernel_rfl
theorem F121_ok (g:prodL L121) (K X:Kn) (h:F121 g K):FCalls Tryz.prog 121 (argsT S121 L121 g) [] K X:=
 FCalls.settle0 (qz (Γ:=qJ [] [(170,false,sp170)]) (mu:=qv []) (H:=H121) (J:=J121) qh (qV (rs:=[]) (l:=[(170,false,sp170)]) (fun p hp=>by cases hp) (by intro p hp;simp only [List.mem_cons,List.not_mem_nil,or_false] at hp;subst hp;exact sp170_ok)) qj rfl Tryz.func121 (c:=qq Tryz.f121) rfl Tryz.ntmps121 Tryz.results121 (by unfold qk;rw [Tryz.func121];kernel_rfl) (Nat.le_of_ble_eq_true (by kernel_rfl)) (c0:=0) (Eq.mp (F121_eq g K X) h))
def H120:List (Nat×Hint):=[]
def J120:List (Nat×Hint):=[]
abbrev S120:List Sh:=[]
abbrev qqX:List Lf:=[]
abbrev O120:List ObSh:=[]
def F120 (g:prodL qqX) (K:Kn):Prop:=
 K (.mp 0) [some (.cells [.fents false [(1,(⟨#[]⟩:ByteArray),160),(2,(⟨#[]⟩:ByteArray),161),(3,(⟨#[]⟩:ByteArray),164),(4,(⟨#[]⟩:ByteArray),165),(5,(⟨#[]⟩:ByteArray),166),(6,(⟨#[]⟩:ByteArray),168),(7,(⟨#[]⟩:ByteArray),169)]])]
theorem F120_eq (g:prodL qqX) (K X:Kn):F120 g K=qW D (qJ [] []) (qv []) H120 J120 3 [.tmp 0] (qq Tryz.f120) (argsT S120 qqX g) (qZ S120 O120 qqX g) (settleD (qZ S120 O120 qqX g).length 0 K) X 0:=by kernel_rfl
theorem F120_ok (g:prodL qqX) (K X:Kn) (h:F120 g K):FCalls Tryz.prog 120 (argsT S120 qqX g) (qZ S120 O120 qqX g) K X 0:=
 FCalls.settleD (qz (Γ:=qJ [] []) (mu:=qv []) (H:=H120) (J:=J120) qh (vN vC) qj rfl Tryz.func120 (c:=qq Tryz.f120) rfl Tryz.ntmps120 (rs:=[.tmp 0]) Tryz.results120 (by unfold qk;rw [Tryz.func120];kernel_rfl) (Nat.le_of_ble_eq_true (by kernel_rfl)) (X:=X) (c0:=0) (Eq.mp (F120_eq g K X) h))
def H167:List (Nat×Hint):=[(3,⟨[((2,[]),none),((3,[]),none),((3,[2]),some .sexp)],[(2, .pt 0 0),(3, .pt 1 0),(7, .leaf),(8, .leaf),(9, .leaf)],[.cells [.leaf, .leaf, .nil], .cells [.leaf, .leaf, .oa .sexp 2], .arr .sexp],[.sl .str, .int .i64, .int .i64, .bool, .str, .bool, .str, .sl .sexp]⟩)]
def J167:List (Nat×Hint):=[]
abbrev S167:List Sh:=[.leaf]
abbrev L167:List Lf:=[.sl .str]
def ZD (K:Kn) (W6:prodL [.sl .str, .int .i64, .int .i64, .bool, .str, .bool, .str, .sl .sexp]->Prop) (t_5:List ByteArray) (t2_5 t3_5:Int) (t1_5:Bool) (t22_5:ByteArray) (x1_5:Bool) (x2_5:ByteArray) (x_5:List Sx):Prop:=
 bif decide (t3_5<t2_5)then (
  At t_5 t3_5 fun u7=>
 True/\
 qP (x_5.length+[(⟨false,u7,[]⟩:Sx)].length) 48 (
 W6 (t_5,t2_5,IntKind.i64.wrap (t3_5+1),t1_5,t22_5,x1_5,x2_5,x_5++[(⟨false,u7,[]⟩:Sx)],())))
 else (
  K (.ag [.bool x1_5, .str x2_5, .sl false .sexp x_5]) [])
def F167_L6 (K:Kn) (g:prodL [.sl .str, .int .i64, .int .i64, .bool, .str, .bool, .str, .sl .sexp]):Prop:=
 qX (γ:=prodL [.sl .str, .int .i64, .int .i64, .bool, .str, .bool, .str, .sl .sexp]) (fun V y=>ZD K V y.1 y.2.1 y.2.2.1 y.2.2.2.1 y.2.2.2.2.1 y.2.2.2.2.2.1 y.2.2.2.2.2.2.1 y.2.2.2.2.2.2.2.1) g
def F167 (g:prodL L167) (K:Kn):Prop:=
 let g1:prodL []:=(());
 F167_L6 K (g.1,(g.1.length:Int),0,false,(⟨#[]⟩:ByteArray),true,(⟨#[]⟩:ByteArray),[],())
theorem F167_eq (g:prodL L167) (K X:Kn):F167 g K=qW D (qJ [(118,jt)] [(119,false,yH)]) (qv [(118,jt)]) H167 J167 22 [.cell 2 85] (qq Tryz.f167) (argsT S167 L167 g) [] (settle0 K) X:=by kernel_rfl
theorem F167_ok (g:prodL L167) (K X:Kn) (h:F167 g K):FCalls Tryz.prog 167 (argsT S167 L167 g) [] K X:=
 FCalls.settle0 (qz (Γ:=qJ [(118,jt)] [(119,false,yH)]) (mu:=qv [(118,jt)]) (H:=H167) (J:=J167) qh (qV (rs:=[(118,jt)]) (l:=[(119,false,yH)]) (by intro p hp;simp only [List.mem_cons,List.not_mem_nil,or_false] at hp;subst hp;exact Jo) (by intro p hp;simp only [List.mem_cons,List.not_mem_nil,or_false] at hp;subst hp;exact kd)) qj rfl Tryz.func167 (c:=qq Tryz.f167) rfl Tryz.ntmps167 Tryz.results167 (by unfold qk;rw [Tryz.func167];kernel_rfl) (Nat.le_of_ble_eq_true (by kernel_rfl)) (c0:=0) (Eq.mp (F167_eq g K X) h))
end Go.Proofs.YtbglndogddddoaaGreatDoor
namespace Go.Proofs.YtbglndogddddoaaGreatDoor
open Go.RowKit
set_option maxRecDepth 100000
theorem wkX {K:Kn} {b:Bool} {s:ByteArray} {f:Bool} {l:List Sx} {st:St} (h:K (.ag [.bool b, .str s, .sl false .sexp l]) st):xp K (.ag [.bool b, .str s, .sl f .sexp l]) st:=
 ⟨_,za.ag (qt.cons (za.refl _) (qt.cons (za.refl _) (qt.cons (za.sl f .sexp l) qt.nil))),h⟩
theorem wkX0 {K:Kn} {b:Bool} {s:ByteArray} {st:St} (h:K (.ag [.bool b, .str s, .sl false .sexp []]) st):xp K (.ag [.bool b, .str s, .nil]) st:=
 ⟨_,za.ag (qt.cons (za.refl _) (qt.cons (za.refl _) (qt.cons (za.nil .sexp) qt.nil))),h⟩
def xr:Sp:=⟨S121,L121,fun g=>xB g.1,fun g=> .ag (enc .sexp (qC g.1)),fun _=>none⟩
theorem Zl:xr.Ok Tryz.prog 121 false:=
 ⟨fun g K X hp h=>F121_ok g K X ⟨hp,h⟩,fun _ _ _=>rfl,fun _=>rfl,fun h=>(by cases h)⟩
def sp120:Sp:=⟨S120,qqX,fun _=>True,fun _=> .mp 0,fun _=>some (.cells [.fents false tblL])⟩
theorem sp120_ok:sp120.Ok Tryz.prog 120 false:=
 ⟨fun g K X _ h=>F120_ok g K X h,fun _ _ _=>rfl,fun _=>rfl,fun h=>(by cases h)⟩
theorem F167_is {l:List ByteArray} {K:Kn} (hl:l.length<=4194304) (h:K (.ag (enc .sexp (zY l))) []):F167 (l,()) K:=by
 unfold F167
 refine qX.map l qY (fun n out=>(l,(l.length:Int),n,false,⟨#[]⟩,true,⟨#[]⟩,out,())) (by omega) rfl (fun W n hn out ho hW=> ?_) fun W=> ?_
 . show ZD K W l l.length n false ⟨#[]⟩ true ⟨#[]⟩ out
   unfold ZD
   rw [zq hn,cond_true]
   exact zX hn ⟨trivial,by simp only [List.length_singleton,ho];omega,hW⟩
 . show ZD K W l l.length l.length false ⟨#[]⟩ true ⟨#[]⟩ (l.map qY)
   unfold ZD
   rw [qG,cond_false];exact h
def sp167:Sp:=⟨S167,L167,fun g=>g.1.length<=4194304,fun g=> .ag (enc .sexp (zY g.1)),fun _=>none⟩
theorem sp167_ok:sp167.Ok Tryz.prog 167 false:=
 ⟨fun g K X hp h=>F167_ok g K X (F167_is hp h),fun _ _ _=>rfl,fun _=>rfl,fun h=>(by cases h)⟩
end Go.Proofs.YtbglndogddddoaaGreatDoor
namespace Go.Proofs.YtbglndogddddoaaGreatDoor
open Go.RowKit
attribute [local irreducible] qW qb
set_option maxRecDepth 100000
def H162:List (Nat×Hint):=[]
def J162:List (Nat×Hint):=[]
abbrev S162:List Sh:=[.leaf]
abbrev L162:List Lf:=[.el .idk]
def F162 (g:prodL L162) (K:Kn):Prop:=
 True/\
 bif Qt g.1 then (
  True/\
  xr.pre (g.1.n,())/\
  let g1:prodL [.sl .sexp]:=([(⟨false,(⟨#[]⟩:ByteArray),[]⟩:Sx),(⟨(qC g.1.n).isList,(qC g.1.n).atom,(qC g.1.n).list⟩:Sx)],());
  K (.ag [.bool true, .str (⟨#[]⟩:ByteArray), .sl true .sexp g1.1]) [])
 else (
  True/\
 xr.pre (g.1.n,())/\
 let g2:prodL [.sl .sexp]:=([(⟨false,vR g.1.patch,[]⟩:Sx),(⟨(qC g.1.n).isList,(qC g.1.n).atom,(qC g.1.n).list⟩:Sx)],());
 K (.ag [.bool true, .str (⟨#[]⟩:ByteArray), .sl true .sexp g2.1]) [])
theorem F162_eq (g:prodL L162) (K X:Kn):F162 g K=qW D (qJ [(118,kJ)] [(47,true,sp47),(119,false,yH),(121,false,xr)]) (qv [(118,kJ)]) H162 J162 20 [.cell 2 85] (qq Tryz.f162) (argsT S162 L162 g) [] (settle0 K) X:=by kernel_rfl
theorem F162_ok (g:prodL L162) (K X:Kn) (h:F162 g K):FCalls Tryz.prog 162 (argsT S162 L162 g) [] K X:=
 FCalls.settle0 (qz (Γ:=qJ [(118,kJ)] [(47,true,sp47),(119,false,yH),(121,false,xr)]) (mu:=qv [(118,kJ)]) (H:=H162) (J:=J162) qh (qV (rs:=[(118,kJ)]) (l:=[(47,true,sp47),(119,false,yH),(121,false,xr)]) (by intro p hp;simp only [List.mem_cons,List.not_mem_nil,or_false] at hp;subst hp;exact rw118_ok) (by intro p hp;simp only [List.mem_cons,List.not_mem_nil,or_false] at hp;rcases hp with rfl | rfl | rfl<;>first | exact sp47_ok | exact kd | exact Zl)) qj rfl Tryz.func162 (c:=qq Tryz.f162) rfl Tryz.ntmps162 Tryz.results162 (by unfold qk;rw [Tryz.func162];kernel_rfl) (Nat.le_of_ble_eq_true (by kernel_rfl)) (c0:=0) (Eq.mp (F162_eq g K X) h))
end Go.Proofs.YtbglndogddddoaaGreatDoor
namespace Go.Proofs.YtbglndogddddoaaGreatDoor
open Go.RowKit
set_option maxRecDepth 100000
theorem F162_is {x:Idn} {K:Kn} (hp:xB x.n) (h:K (.ag (enc .sexp (qI x))) []):F162 (x,()) (xp K):=by
 unfold F162
 simp only [xh]
 refine ⟨trivial, ?_⟩
 unfold qI Xa at h
 unfold Qt
 cases c:xb x.patch dz
 . rw [c] at h;exact ⟨trivial,hp,wkX h⟩
 . rw [c] at h;exact ⟨trivial,hp,wkX h⟩
def j7:Sp:=⟨S162,L162,fun g=>xB g.1.n,fun g=> .ag (enc .sexp (qI g.1)),fun _=>none⟩
theorem ws:j7.Ok Tryz.prog 162 false:=
 ⟨fun g K X hp h=>FCalls.weak (F162_ok g (xp K) X (F162_is hp h)),fun _ _ _=>rfl,fun _=>rfl,fun h=>(by cases h)⟩
end Go.Proofs.YtbglndogddddoaaGreatDoor
namespace Go.Proofs.YtbglndogddddoaaGreatDoor
open Go.RowKit
attribute [local irreducible] qW qb
set_option maxRecDepth 100000
def H163:List (Nat×Hint):=[(3,⟨[((2,[]),none),((3,[]),none),((3,[2]),some .sexp)],[(2, .pt 0 0),(3, .pt 1 0),(7, .leaf),(8, .leaf),(9, .leaf)],[.cells [.leaf, .leaf, .nil], .cells [.leaf, .leaf, .oa .sexp 2], .arr .sexp],[.sl .idk, .int .i64, .int .i64, .bool, .str, .bool, .str, .sl .sexp]⟩)]
def J163:List (Nat×Hint):=[]
abbrev S163:List Sh:=[.leaf]
abbrev L163:List Lf:=[.sl .idk]
def Zu (K:Kn) (W6:prodL [.sl .idk, .int .i64, .int .i64, .bool, .str, .bool, .str, .sl .sexp]->Prop) (t_5:List Idn) (t2_5 t3_5:Int) (t1_5:Bool) (t22_5:ByteArray) (x1_5:Bool) (x2_5:ByteArray) (x_5:List Sx):Prop:=
 bif decide (t3_5<t2_5)then (
  At t_5 t3_5 fun u7=>
 j7.pre (u7,())/\
 qP (x_5.length+[(⟨(qI u7).isList,(qI u7).atom,(qI u7).list⟩:Sx)].length) 48 (
 W6 (t_5,t2_5,IntKind.i64.wrap (t3_5+1),t1_5,t22_5,x1_5,x2_5,x_5++[(⟨(qI u7).isList,(qI u7).atom,(qI u7).list⟩:Sx)],())))
 else (
  K (.ag [.bool x1_5, .str x2_5, .sl false .sexp x_5]) [])
def F163_L6 (K:Kn) (g:prodL [.sl .idk, .int .i64, .int .i64, .bool, .str, .bool, .str, .sl .sexp]):Prop:=
 qX (γ:=prodL [.sl .idk, .int .i64, .int .i64, .bool, .str, .bool, .str, .sl .sexp]) (fun V y=>Zu K V y.1 y.2.1 y.2.2.1 y.2.2.2.1 y.2.2.2.2.1 y.2.2.2.2.2.1 y.2.2.2.2.2.2.1 y.2.2.2.2.2.2.2.1) g
def F163 (g:prodL L163) (K:Kn):Prop:=
 let g1:prodL []:=(());
 F163_L6 K (g.1,(g.1.length:Int),0,false,(⟨#[]⟩:ByteArray),true,(⟨#[]⟩:ByteArray),[],())
theorem F163_eq (g:prodL L163) (K X:Kn):F163 g K=qW D (qJ [(118,jt)] [(162,false,j7)]) (qv [(118,jt)]) H163 J163 22 [.cell 2 85] (qq Tryz.f163) (argsT S163 L163 g) [] (settle0 K) X:=by kernel_rfl
theorem F163_ok (g:prodL L163) (K X:Kn) (h:F163 g K):FCalls Tryz.prog 163 (argsT S163 L163 g) [] K X:=
 FCalls.settle0 (qz (Γ:=qJ [(118,jt)] [(162,false,j7)]) (mu:=qv [(118,jt)]) (H:=H163) (J:=J163) qh (qV (rs:=[(118,jt)]) (l:=[(162,false,j7)]) (by intro p hp;simp only [List.mem_cons,List.not_mem_nil,or_false] at hp;subst hp;exact Jo) (by intro p hp;simp only [List.mem_cons,List.not_mem_nil,or_false] at hp;subst hp;exact ws)) qj rfl Tryz.func163 (c:=qq Tryz.f163) rfl Tryz.ntmps163 Tryz.results163 (by unfold qk;rw [Tryz.func163];kernel_rfl) (Nat.le_of_ble_eq_true (by kernel_rfl)) (c0:=0) (Eq.mp (F163_eq g K X) h))
end Go.Proofs.YtbglndogddddoaaGreatDoor
namespace Go.Proofs.YtbglndogddddoaaGreatDoor
open Go.RowKit
set_option maxRecDepth 100000
theorem F163_is {l:List Idn} {K:Kn} (hp:ovP l) (h:K (.ag (enc .sexp (qK l))) []):F163 (l,()) K:=by
 obtain ⟨hl,hi⟩:=hp
 unfold F163
 refine qX.map l qI (fun n out=>(l,(l.length:Int),n,false,⟨#[]⟩,true,⟨#[]⟩,out,())) (by omega) rfl (fun W n hn out ho hW=> ?_) fun W=> ?_
 . show Zu K W l l.length n false ⟨#[]⟩ true ⟨#[]⟩ out
   unfold Zu
   rw [zq hn,cond_true]
   simp only [xh]
   exact zX hn ⟨hi _ (List.getElem_mem _),by simp only [List.length_singleton,ho];omega,hW⟩
 . show Zu K W l l.length l.length false ⟨#[]⟩ true ⟨#[]⟩ (l.map qI)
   unfold Zu
   rw [qG,cond_false];exact h
def w8:Sp:=⟨S163,L163,fun g=>ovP g.1,fun g=> .ag (enc .sexp (qK g.1)),fun _=>none⟩
theorem kW:w8.Ok Tryz.prog 163 false:=
 ⟨fun g K X hp h=>F163_ok g K X (F163_is hp h),fun _ _ _=>rfl,fun _=>rfl,fun h=>(by cases h)⟩
end Go.Proofs.YtbglndogddddoaaGreatDoor
namespace Go.Proofs.YtbglndogddddoaaGreatDoor
open Go.RowKit
attribute [local irreducible] qW qb
set_option maxRecDepth 100000
def H160:List (Nat×Hint):=[]
def J160:List (Nat×Hint):=[]
abbrev S160:List Sh:=[.leaf]
abbrev L160:List Lf:=[.el .chg]
def F160 (g:prodL L160) (K:Kn):Prop:=
 xr.pre (g.1.typ,())/\
 K (.sl true .sexp [(⟨(qC g.1.typ).isList,(qC g.1.typ).atom,(qC g.1.typ).list⟩:Sx)]) []
theorem F160_eq (g:prodL L160) (K X:Kn):F160 g K=qW D (qJ [] [(121,false,xr)]) (qv []) H160 J160 7 [.tmp 2] (qq Tryz.f160) (argsT S160 L160 g) [] (settle0 K) X:=by kernel_rfl
theorem F160_ok (g:prodL L160) (K X:Kn) (h:F160 g K):FCalls Tryz.prog 160 (argsT S160 L160 g) [] K X:=
 FCalls.settle0 (qz (Γ:=qJ [] [(121,false,xr)]) (mu:=qv []) (H:=H160) (J:=J160) qh (qV (rs:=[]) (l:=[(121,false,xr)]) (fun p hp=>by cases hp) (by intro p hp;simp only [List.mem_cons,List.not_mem_nil,or_false] at hp;subst hp;exact Zl)) qj rfl Tryz.func160 (c:=qq Tryz.f160) rfl Tryz.ntmps160 Tryz.results160 (by unfold qk;rw [Tryz.func160];kernel_rfl) (Nat.le_of_ble_eq_true (by kernel_rfl)) (c0:=0) (Eq.mp (F160_eq g K X) h))
def H161:List (Nat×Hint):=[]
def J161:List (Nat×Hint):=[]
abbrev S161:List Sh:=[.leaf]
abbrev L161:List Lf:=[.el .chg]
def F161 (g:prodL L161) (K:Kn):Prop:=
 j7.pre (g.1.file,())/\
 j7.pre (g.1.parent,())/\
 True/\
 w8.pre (g.1.over,())/\
 K (.sl true .sexp [(⟨(qI g.1.file).isList,(qI g.1.file).atom,(qI g.1.file).list⟩:Sx),(⟨(qI g.1.parent).isList,(qI g.1.parent).atom,(qI g.1.parent).list⟩:Sx),(⟨false,g.1.name,[]⟩:Sx),(⟨(qK g.1.over).isList,(qK g.1.over).atom,(qK g.1.over).list⟩:Sx)]) []
theorem F161_eq (g:prodL L161) (K X:Kn):F161 g K=qW D (qJ [] [(119,false,yH),(162,false,j7),(163,false,w8)]) (qv []) H161 J161 16 [.tmp 2] (qq Tryz.f161) (argsT S161 L161 g) [] (settle0 K) X:=by kernel_rfl
theorem F161_ok (g:prodL L161) (K X:Kn) (h:F161 g K):FCalls Tryz.prog 161 (argsT S161 L161 g) [] K X:=
 FCalls.settle0 (qz qh (vN (vV kd (vV ws (vV kW vC)))) qj rfl Tryz.func161 (c:=qq Tryz.f161) rfl Tryz.ntmps161 Tryz.results161 (by unfold qk;rw [Tryz.func161];kernel_rfl) (Nat.le_of_ble_eq_true (by kernel_rfl)) (c0:=0) (Eq.mp (F161_eq g K X) h))
def H164:List (Nat×Hint):=[]
def J164:List (Nat×Hint):=[]
abbrev S164:List Sh:=[.leaf]
abbrev L164:List Lf:=[.el .chg]
def F164 (g:prodL L164) (K:Kn):Prop:=
 j7.pre (g.1.file,())/\
 xr.pre (g.1.mode,())/\
 w8.pre (g.1.over,())/\
 K (.sl true .sexp [(⟨(qI g.1.file).isList,(qI g.1.file).atom,(qI g.1.file).list⟩:Sx),(⟨(qC g.1.mode).isList,(qC g.1.mode).atom,(qC g.1.mode).list⟩:Sx),(⟨(qK g.1.over).isList,(qK g.1.over).atom,(qK g.1.over).list⟩:Sx)]) []
theorem F164_eq (g:prodL L164) (K X:Kn):F164 g K=qW D (qJ [] [(121,false,xr),(162,false,j7),(163,false,w8)]) (qv []) H164 J164 13 [.tmp 2] (qq Tryz.f164) (argsT S164 L164 g) [] (settle0 K) X:=by kernel_rfl
theorem F164_ok (g:prodL L164) (K X:Kn) (h:F164 g K):FCalls Tryz.prog 164 (argsT S164 L164 g) [] K X:=
 FCalls.settle0 (qz qh (vN (vV Zl (vV ws (vV kW vC)))) qj rfl Tryz.func164 (c:=qq Tryz.f164) rfl Tryz.ntmps164 Tryz.results164 (by unfold qk;rw [Tryz.func164];kernel_rfl) (Nat.le_of_ble_eq_true (by kernel_rfl)) (c0:=0) (Eq.mp (F164_eq g K X) h))
def H165:List (Nat×Hint):=[]
def J165:List (Nat×Hint):=[]
abbrev S165:List Sh:=[.leaf]
abbrev L165:List Lf:=[.el .chg]
def F165 (g:prodL L165) (K:Kn):Prop:=
 j7.pre (g.1.file,())/\
 True/\
 w8.pre (g.1.over,())/\
 K (.sl true .sexp [(⟨(qI g.1.file).isList,(qI g.1.file).atom,(qI g.1.file).list⟩:Sx),(⟨false,g.1.data,[]⟩:Sx),(⟨(qK g.1.over).isList,(qK g.1.over).atom,(qK g.1.over).list⟩:Sx)]) []
theorem F165_eq (g:prodL L165) (K X:Kn):F165 g K=qW D (qJ [] [(119,false,yH),(162,false,j7),(163,false,w8)]) (qv []) H165 J165 13 [.tmp 2] (qq Tryz.f165) (argsT S165 L165 g) [] (settle0 K) X:=by kernel_rfl
theorem F165_ok (g:prodL L165) (K X:Kn) (h:F165 g K):FCalls Tryz.prog 165 (argsT S165 L165 g) [] K X:=
 FCalls.settle0 (qz qh (vN (vV kd (vV ws (vV kW vC)))) qj rfl Tryz.func165 (c:=qq Tryz.f165) rfl Tryz.ntmps165 Tryz.results165 (by unfold qk;rw [Tryz.func165];kernel_rfl) (Nat.le_of_ble_eq_true (by kernel_rfl)) (c0:=0) (Eq.mp (F165_eq g K X) h))
def H166:List (Nat×Hint):=[]
def J166:List (Nat×Hint):=[]
abbrev S166:List Sh:=[.leaf]
abbrev L166:List Lf:=[.el .chg]
def F166 (g:prodL L166) (K:Kn):Prop:=
 j7.pre (g.1.file,())/\
 j7.pre (g.1.after,())/\
 j7.pre (g.1.before,())/\
 sp167.pre (g.1.lines,())/\
 K (.sl true .sexp [(⟨(qI g.1.file).isList,(qI g.1.file).atom,(qI g.1.file).list⟩:Sx),(⟨(qI g.1.after).isList,(qI g.1.after).atom,(qI g.1.after).list⟩:Sx),(⟨(qI g.1.before).isList,(qI g.1.before).atom,(qI g.1.before).list⟩:Sx),(⟨(zY g.1.lines).isList,(zY g.1.lines).atom,(zY g.1.lines).list⟩:Sx)]) []
theorem F166_eq (g:prodL L166) (K X:Kn):F166 g K=qW D (qJ [] [(162,false,j7),(167,false,sp167)]) (qv []) H166 J166 16 [.tmp 2] (qq Tryz.f166) (argsT S166 L166 g) [] (settle0 K) X:=by kernel_rfl
theorem F166_ok (g:prodL L166) (K X:Kn) (h:F166 g K):FCalls Tryz.prog 166 (argsT S166 L166 g) [] K X:=
 FCalls.settle0 (qz qh (vN (vV ws (vV sp167_ok vC))) qj rfl Tryz.func166 (c:=qq Tryz.f166) rfl Tryz.ntmps166 Tryz.results166 (by unfold qk;rw [Tryz.func166];kernel_rfl) (Nat.le_of_ble_eq_true (by kernel_rfl)) (c0:=0) (Eq.mp (F166_eq g K X) h))
def H168:List (Nat×Hint):=[]
def J168:List (Nat×Hint):=[]
abbrev S168:List Sh:=[.leaf]
abbrev L168:List Lf:=[.el .chg]
def F168 (g:prodL L168) (K:Kn):Prop:=
 j7.pre (g.1.file,())/\
 j7.pre (g.1.after,())/\
 j7.pre (g.1.before,())/\
 w8.pre (g.1.over,())/\
 K (.sl true .sexp [(⟨(qI g.1.file).isList,(qI g.1.file).atom,(qI g.1.file).list⟩:Sx),(⟨(qI g.1.after).isList,(qI g.1.after).atom,(qI g.1.after).list⟩:Sx),(⟨(qI g.1.before).isList,(qI g.1.before).atom,(qI g.1.before).list⟩:Sx),(⟨(qK g.1.over).isList,(qK g.1.over).atom,(qK g.1.over).list⟩:Sx)]) []
theorem F168_eq (g:prodL L168) (K X:Kn):F168 g K=qW D (qJ [] [(162,false,j7),(163,false,w8)]) (qv []) H168 J168 16 [.tmp 2] (qq Tryz.f168) (argsT S168 L168 g) [] (settle0 K) X:=by kernel_rfl
theorem F168_ok (g:prodL L168) (K X:Kn) (h:F168 g K):FCalls Tryz.prog 168 (argsT S168 L168 g) [] K X:=
 FCalls.settle0 (qz qh (vN (vV ws (vV kW vC))) qj rfl Tryz.func168 (c:=qq Tryz.f168) rfl Tryz.ntmps168 Tryz.results168 (by unfold qk;rw [Tryz.func168];kernel_rfl) (Nat.le_of_ble_eq_true (by kernel_rfl)) (c0:=0) (Eq.mp (F168_eq g K X) h))
def H169:List (Nat×Hint):=[]
def J169:List (Nat×Hint):=[]
abbrev S169:List Sh:=[.leaf]
abbrev L169:List Lf:=[.el .chg]
def F169 (g:prodL L169) (K:Kn):Prop:=
 w8.pre (g.1.over,())/\
 K (.sl true .sexp [(⟨(qK g.1.over).isList,(qK g.1.over).atom,(qK g.1.over).list⟩:Sx)]) []
theorem F169_eq (g:prodL L169) (K X:Kn):F169 g K=qW D (qJ [] [(163,false,w8)]) (qv []) H169 J169 7 [.tmp 2] (qq Tryz.f169) (argsT S169 L169 g) [] (settle0 K) X:=by kernel_rfl
theorem F169_ok (g:prodL L169) (K X:Kn) (h:F169 g K):FCalls Tryz.prog 169 (argsT S169 L169 g) [] K X:=
 FCalls.settle0 (qz (Γ:=qJ [] [(163,false,w8)]) (mu:=qv []) (H:=H169) (J:=J169) qh (qV (rs:=[]) (l:=[(163,false,w8)]) (fun p hp=>by cases hp) (by intro p hp;simp only [List.mem_cons,List.not_mem_nil,or_false] at hp;subst hp;exact kW)) qj rfl Tryz.func169 (c:=qq Tryz.f169) rfl Tryz.ntmps169 Tryz.results169 (by unfold qk;rw [Tryz.func169];kernel_rfl) (Nat.le_of_ble_eq_true (by kernel_rfl)) (c0:=0) (Eq.mp (F169_eq g K X) h))
end Go.Proofs.YtbglndogddddoaaGreatDoor
namespace Go.Proofs.YtbglndogddddoaaGreatDoor
open Go.RowKit
set_option maxRecDepth 100000
def sp160:Sp:=⟨S160,L160,fun g=>XI g.1/\chW g.1,fun g=> .sl false .sexp (zr 1 g.1),fun _=>none⟩
theorem sp160_ok:sp160.Ok Tryz.prog 160 false:=
 ⟨fun g K X hp h=>FCalls.weak (F160_ok g (xp K) X (by obtain ⟨hp,w1,w2,w3,w4,w5,w6,w7⟩:=hp;unfold F160;simp only [xh];exact ⟨w1,xp.sl h⟩)),fun _ _ _=>rfl,fun _=>rfl,fun h=>(by cases h)⟩
def KS:Sp:=⟨S161,L161,fun g=>XI g.1/\chW g.1,fun g=> .sl false .sexp (zr 2 g.1),fun _=>none⟩
theorem sp161_ok:KS.Ok Tryz.prog 161 false:=
 ⟨fun g K X hp h=>FCalls.weak (F161_ok g (xp K) X (by have ho:=Ji hp.1 hp.2;obtain ⟨hp,w1,w2,w3,w4,w5,w6,w7⟩:=hp;unfold F161;simp only [xh];exact ⟨w3,w4,trivial,ho,xp.sl h⟩)),fun _ _ _=>rfl,fun _=>rfl,fun h=>(by cases h)⟩
def Kp:Sp:=⟨S164,L164,fun g=>XI g.1/\chW g.1,fun g=> .sl false .sexp (zr 3 g.1),fun _=>none⟩
theorem sp164_ok:Kp.Ok Tryz.prog 164 false:=
 ⟨fun g K X hp h=>FCalls.weak (F164_ok g (xp K) X (by have ho:=Ji hp.1 hp.2;obtain ⟨hp,w1,w2,w3,w4,w5,w6,w7⟩:=hp;unfold F164;simp only [xh];exact ⟨w3,w2,ho,xp.sl h⟩)),fun _ _ _=>rfl,fun _=>rfl,fun h=>(by cases h)⟩
def Y1:Sp:=⟨S165,L165,fun g=>XI g.1/\chW g.1,fun g=> .sl false .sexp (zr 4 g.1),fun _=>none⟩
theorem sp165_ok:Y1.Ok Tryz.prog 165 false:=
 ⟨fun g K X hp h=>FCalls.weak (F165_ok g (xp K) X (by have ho:=Ji hp.1 hp.2;obtain ⟨hp,w1,w2,w3,w4,w5,w6,w7⟩:=hp;unfold F165;simp only [xh];exact ⟨w3,trivial,ho,xp.sl h⟩)),fun _ _ _=>rfl,fun _=>rfl,fun h=>(by cases h)⟩
def Kd:Sp:=⟨S166,L166,fun g=>XI g.1/\chW g.1,fun g=> .sl false .sexp (zr 5 g.1),fun _=>none⟩
theorem sp166_ok:Kd.Ok Tryz.prog 166 false:=
 ⟨fun g K X hp h=>FCalls.weak (F166_ok g (xp K) X (by have hl:=(jf hp.1).2.2.1;obtain ⟨hp,w1,w2,w3,w4,w5,w6,w7⟩:=hp;unfold F166;simp only [xh];exact ⟨w3,w5,w6,hl,xp.sl h⟩)),fun _ _ _=>rfl,fun _=>rfl,fun h=>(by cases h)⟩
def KH:Sp:=⟨S168,L168,fun g=>XI g.1/\chW g.1,fun g=> .sl false .sexp (zr 6 g.1),fun _=>none⟩
theorem sp168_ok:KH.Ok Tryz.prog 168 false:=
 ⟨fun g K X hp h=>FCalls.weak (F168_ok g (xp K) X (by have ho:=Ji hp.1 hp.2;obtain ⟨hp,w1,w2,w3,w4,w5,w6,w7⟩:=hp;unfold F168;simp only [xh];exact ⟨w3,w5,w6,ho,xp.sl h⟩)),fun _ _ _=>rfl,fun _=>rfl,fun h=>(by cases h)⟩
def Y2:Sp:=⟨S169,L169,fun g=>XI g.1/\chW g.1,fun g=> .sl false .sexp (zr 7 g.1),fun _=>none⟩
theorem sp169_ok:Y2.Ok Tryz.prog 169 false:=
 ⟨fun g K X hp h=>FCalls.weak (F169_ok g (xp K) X (by have ho:=Ji hp.1 hp.2;unfold F169;simp only [xh];exact ⟨ho,xp.sl h⟩)),fun _ _ _=>rfl,fun _=>rfl,fun h=>(by cases h)⟩
end Go.Proofs.YtbglndogddddoaaGreatDoor
namespace Go.Proofs.YtbglndogddddoaaGreatDoor
open Go.RowKit
attribute [local irreducible] qW qb
set_option maxRecDepth 100000
def H70:List (Nat×Hint):=[(3,⟨[((1,[]),none),((4,[]),none),((5,[]),none),((4,[2]),some .sexp)],[(1, .pt 0 0),(4, .pt 1 0),(5, .pt 2 0),(15, .leaf),(16, .leaf),(17, .leaf)],[.cells [.leaf, .leaf, .leaf, .leaf, .leaf], .cells [.leaf, .leaf, .oa .sexp 3], .cells [.leaf, .leaf, .nil], .arr .sexp],[.sl .dig, .int .i64, .int .i64, .str, .str, .int .i64, .sl .dig, .sl .chg, .bool, .str, .bool, .str, .sl .sexp]⟩),(9,⟨[((1,[]),none),((4,[]),none),((5,[]),none),((8,[]),none),((4,[2]),none),((5,[2]),some .sexp)],[(1, .pt 0 0),(4, .pt 1 0),(5, .pt 2 0),(8, .mp 3),(32, .leaf),(33, .leaf),(34, .leaf)],[.cells [.leaf, .leaf, .leaf, .leaf, .leaf], .cells [.leaf, .leaf, .oa .sexp 4], .cells [.leaf, .leaf, .oa .sexp 5], .cells [.fe [(1,160),(2,161),(3,164),(4,165),(5,166),(6,168),(7,169)]], .arr .sexp, .arr .sexp],[.sl .chg, .int .i64, .int .i64, .str, .str, .int .i64, .sl .dig, .sl .chg, .bool, .str, .bool, .str, .sl .sexp, .sl .sexp]⟩)]
def J70:List (Nat×Hint):=[(13,⟨[((1,[]),none),((4,[]),none),((5,[]),none),((8,[]),none),((11,[]),none),((4,[2]),none),((5,[2]),none)],[(1, .pt 0 0),(4, .pt 1 0),(5, .pt 2 0),(8, .mp 3),(11, .pt 4 0),(32, .leaf),(33, .leaf),(34, .leaf)],[.cells [.leaf, .leaf, .leaf, .leaf, .leaf], .cells [.leaf, .leaf, .oa .sexp 5], .cells [.leaf, .leaf, .oa .sexp 6], .cells [.fe [(1,160),(2,161),(3,164),(4,165),(5,166),(6,168),(7,169)]], .cells [.leaf, .leaf, .leaf], .arr .sexp, .arr .sexp],[.sl .chg, .int .i64, .int .i64, .str, .str, .int .i64, .sl .dig, .sl .chg, .bool, .str, .bool, .str, .bool, .str, .sl .sexp, .sl .sexp, .sl .sexp]⟩),(15,⟨[((1,[]),none),((4,[]),none),((5,[]),none)],[(1, .pt 0 0),(4, .pt 1 0),(5, .pt 2 0)],[.cells [.leaf, .leaf, .leaf, .leaf, .leaf], .cells [.leaf, .leaf, .leaf], .cells [.leaf, .leaf, .leaf]],[.str, .str, .int .i64, .sl .dig, .sl .chg, .bool, .str, .sl .sexp, .bool, .str, .sl .sexp]⟩)]
abbrev S70:List Sh:=[.ag [.leaf, .leaf, .leaf, .leaf, .leaf]]
abbrev L70:List Lf:=[.str, .str, .int .i64, .sl .dig, .sl .chg]
def F70_J23 (K:Kn) (p1_21 p2_21:ByteArray) (p3_21:Int) (p4_21:List Dig) (p5_21:List Chg) (deps1_21:Bool) (deps2_21:ByteArray) (deps3_21:List Sx) (changes1_21:Bool) (changes2_21:ByteArray) (changes3_21:List Sx):Prop:=
 True/\
 True/\
 True/\
 xr.pre (p3_21,())/\
 let g22:prodL [.sl .sexp]:=([(⟨false,(⟨#[113,117,105,108,116,49]⟩:ByteArray),[]⟩:Sx),(⟨false,p1_21,[]⟩:Sx),(⟨false,p2_21,[]⟩:Sx),(⟨(qC p3_21).isList,(qC p3_21).atom,(qC p3_21).list⟩:Sx),(⟨deps1_21,deps2_21,deps3_21⟩:Sx),(⟨changes1_21,changes2_21,changes3_21⟩:Sx)],());
 sp122.pre (true,(⟨#[]⟩:ByteArray),g22.1,())/\
 K (.tu [.str ((wB ⟨true,(⟨#[]⟩:ByteArray),g22.1⟩).1), .int .i64 ((wB ⟨true,(⟨#[]⟩:ByteArray),g22.1⟩).2)]) []
def zy (K:Kn) (W16:prodL [.sl .chg, .int .i64, .int .i64, .str, .str, .int .i64, .sl .dig, .sl .chg, .bool, .str, .bool, .str, .sl .sexp, .sl .sexp]->Prop) (t_19:List Chg) (t2_19 t3_19:Int) (p1_19 p2_19:ByteArray) (p3_19:Int) (p4_19:List Dig) (p5_19:List Chg) (deps1_19:Bool) (deps2_19:ByteArray) (changes1_19:Bool) (changes2_19:ByteArray) (x1_19:Bool) (x2_19:ByteArray) (x3_19:List Sx) (deps_19:List Sx) (changes_19:List Sx):Prop:=
 qP (changes_19.length+[(⟨x1_19,x2_19,x3_19⟩:Sx)].length) 48 (
 W16 (t_19,t2_19,IntKind.i64.wrap (t3_19+1),p1_19,p2_19,p3_19,p4_19,p5_19,deps1_19,deps2_19,changes1_19,changes2_19,deps_19,changes_19++[(⟨x1_19,x2_19,x3_19⟩:Sx)],()))
def Ze (K:Kn) (W16:prodL [.sl .chg, .int .i64, .int .i64, .str, .str, .int .i64, .sl .dig, .sl .chg, .bool, .str, .bool, .str, .sl .sexp, .sl .sexp]->Prop) (t_15:List Chg) (t2_15 t3_15:Int) (p1_15 p2_15:ByteArray) (p3_15:Int) (p4_15:List Dig) (p5_15:List Chg) (deps1_15:Bool) (deps2_15:ByteArray) (changes1_15:Bool) (changes2_15:ByteArray) (deps_15:List Sx) (changes_15:List Sx):Prop:=
 bif decide (t3_15<t2_15)then (
  At t_15 t3_15 fun u17=>
 xr.pre (u17.kind,())/\
 let g18:prodL [.sl .sexp]:=([(⟨(qC u17.kind).isList,(qC u17.kind).atom,(qC u17.kind).list⟩:Sx)],());
 bif decide (u17.kind=1)then (
  sp160.pre (u17,())/\
  bif decide ((zr 1 u17).length=0)then (
   zy K W16 t_15 t2_15 t3_15 p1_15 p2_15 p3_15 p4_15 p5_15 deps1_15 deps2_15 changes1_15 changes2_15 true (⟨#[]⟩:ByteArray) g18.1 deps_15 changes_15)
  else (
   vE (0< (zr 1 u17).length) (qP (g18.1.length+(zr 1 u17).length) 48 (
   zy K W16 t_15 t2_15 t3_15 p1_15 p2_15 p3_15 p4_15 p5_15 deps1_15 deps2_15 changes1_15 changes2_15 true (⟨#[]⟩:ByteArray) (g18.1++(zr 1 u17)) deps_15 changes_15))))
 else (
  bif decide (u17.kind=2)then (
   KS.pre (u17,())/\
   bif decide ((zr 2 u17).length=0)then (
    zy K W16 t_15 t2_15 t3_15 p1_15 p2_15 p3_15 p4_15 p5_15 deps1_15 deps2_15 changes1_15 changes2_15 true (⟨#[]⟩:ByteArray) g18.1 deps_15 changes_15)
   else (
    vE (0< (zr 2 u17).length) (qP (g18.1.length+(zr 2 u17).length) 48 (
    zy K W16 t_15 t2_15 t3_15 p1_15 p2_15 p3_15 p4_15 p5_15 deps1_15 deps2_15 changes1_15 changes2_15 true (⟨#[]⟩:ByteArray) (g18.1++(zr 2 u17)) deps_15 changes_15))))
  else (
   bif decide (u17.kind=3)then (
    Kp.pre (u17,())/\
    bif decide ((zr 3 u17).length=0)then (
     zy K W16 t_15 t2_15 t3_15 p1_15 p2_15 p3_15 p4_15 p5_15 deps1_15 deps2_15 changes1_15 changes2_15 true (⟨#[]⟩:ByteArray) g18.1 deps_15 changes_15)
    else (
     vE (0< (zr 3 u17).length) (qP (g18.1.length+(zr 3 u17).length) 48 (
     zy K W16 t_15 t2_15 t3_15 p1_15 p2_15 p3_15 p4_15 p5_15 deps1_15 deps2_15 changes1_15 changes2_15 true (⟨#[]⟩:ByteArray) (g18.1++(zr 3 u17)) deps_15 changes_15))))
   else (
    bif decide (u17.kind=4)then (
     Y1.pre (u17,())/\
     bif decide ((zr 4 u17).length=0)then (
      zy K W16 t_15 t2_15 t3_15 p1_15 p2_15 p3_15 p4_15 p5_15 deps1_15 deps2_15 changes1_15 changes2_15 true (⟨#[]⟩:ByteArray) g18.1 deps_15 changes_15)
     else (
      vE (0< (zr 4 u17).length) (qP (g18.1.length+(zr 4 u17).length) 48 (
      zy K W16 t_15 t2_15 t3_15 p1_15 p2_15 p3_15 p4_15 p5_15 deps1_15 deps2_15 changes1_15 changes2_15 true (⟨#[]⟩:ByteArray) (g18.1++(zr 4 u17)) deps_15 changes_15))))
    else (
     bif decide (u17.kind=5)then (
      Kd.pre (u17,())/\
      bif decide ((zr 5 u17).length=0)then (
       zy K W16 t_15 t2_15 t3_15 p1_15 p2_15 p3_15 p4_15 p5_15 deps1_15 deps2_15 changes1_15 changes2_15 true (⟨#[]⟩:ByteArray) g18.1 deps_15 changes_15)
      else (
       vE (0< (zr 5 u17).length) (qP (g18.1.length+(zr 5 u17).length) 48 (
       zy K W16 t_15 t2_15 t3_15 p1_15 p2_15 p3_15 p4_15 p5_15 deps1_15 deps2_15 changes1_15 changes2_15 true (⟨#[]⟩:ByteArray) (g18.1++(zr 5 u17)) deps_15 changes_15))))
     else (
      bif decide (u17.kind=6)then (
       KH.pre (u17,())/\
       bif decide ((zr 6 u17).length=0)then (
        zy K W16 t_15 t2_15 t3_15 p1_15 p2_15 p3_15 p4_15 p5_15 deps1_15 deps2_15 changes1_15 changes2_15 true (⟨#[]⟩:ByteArray) g18.1 deps_15 changes_15)
       else (
        vE (0< (zr 6 u17).length) (qP (g18.1.length+(zr 6 u17).length) 48 (
        zy K W16 t_15 t2_15 t3_15 p1_15 p2_15 p3_15 p4_15 p5_15 deps1_15 deps2_15 changes1_15 changes2_15 true (⟨#[]⟩:ByteArray) (g18.1++(zr 6 u17)) deps_15 changes_15))))
      else (
       bif decide (u17.kind=7)then (
        Y2.pre (u17,())/\
        bif decide ((zr 7 u17).length=0)then (
         zy K W16 t_15 t2_15 t3_15 p1_15 p2_15 p3_15 p4_15 p5_15 deps1_15 deps2_15 changes1_15 changes2_15 true (⟨#[]⟩:ByteArray) g18.1 deps_15 changes_15)
        else (
         vE (0< (zr 7 u17).length) (qP (g18.1.length+(zr 7 u17).length) 48 (
         zy K W16 t_15 t2_15 t3_15 p1_15 p2_15 p3_15 p4_15 p5_15 deps1_15 deps2_15 changes1_15 changes2_15 true (⟨#[]⟩:ByteArray) (g18.1++(zr 7 u17)) deps_15 changes_15))))
       else (
        False))))))))
 else (
  F70_J23 K p1_15 p2_15 p3_15 p4_15 p5_15 deps1_15 deps2_15 deps_15 changes1_15 changes2_15 changes_15)
def F70_L16 (K:Kn) (g:prodL [.sl .chg, .int .i64, .int .i64, .str, .str, .int .i64, .sl .dig, .sl .chg, .bool, .str, .bool, .str, .sl .sexp, .sl .sexp]):Prop:=
 qX (γ:=prodL [.sl .chg, .int .i64, .int .i64, .str, .str, .int .i64, .sl .dig, .sl .chg, .bool, .str, .bool, .str, .sl .sexp, .sl .sexp]) (fun V y=>Ze K V y.1 y.2.1 y.2.2.1 y.2.2.2.1 y.2.2.2.2.1 y.2.2.2.2.2.1 y.2.2.2.2.2.2.1 y.2.2.2.2.2.2.2.1 y.2.2.2.2.2.2.2.2.1 y.2.2.2.2.2.2.2.2.2.1 y.2.2.2.2.2.2.2.2.2.2.1 y.2.2.2.2.2.2.2.2.2.2.2.1 y.2.2.2.2.2.2.2.2.2.2.2.2.1 y.2.2.2.2.2.2.2.2.2.2.2.2.2.1) g
def Wt (K:Kn) (W7:prodL [.sl .dig, .int .i64, .int .i64, .str, .str, .int .i64, .sl .dig, .sl .chg, .bool, .str, .bool, .str, .sl .sexp]->Prop) (t_6:List Dig) (t2_6 t3_6:Int) (p1_6 p2_6:ByteArray) (p3_6:Int) (p4_6:List Dig) (p5_6:List Chg) (deps1_6:Bool) (deps2_6:ByteArray) (changes1_6:Bool) (changes2_6:ByteArray) (deps_6:List Sx):Prop:=
 bif decide (t3_6<t2_6)then (
  At t_6 t3_6 fun u8=>
 True/\
 qP (deps_6.length+[(⟨false,vR u8,[]⟩:Sx)].length) 48 (
 W7 (t_6,t2_6,IntKind.i64.wrap (t3_6+1),p1_6,p2_6,p3_6,p4_6,p5_6,deps1_6,deps2_6,changes1_6,changes2_6,deps_6++[(⟨false,vR u8,[]⟩:Sx)],())))
 else (
  True/\
 F70_L16 K (p5_6,(p5_6.length:Int),0,p1_6,p2_6,p3_6,p4_6,p5_6,deps1_6,deps2_6,changes1_6,changes2_6,deps_6,[],()))
def F70_L7 (K:Kn) (g:prodL [.sl .dig, .int .i64, .int .i64, .str, .str, .int .i64, .sl .dig, .sl .chg, .bool, .str, .bool, .str, .sl .sexp]):Prop:=
 qX (γ:=prodL [.sl .dig, .int .i64, .int .i64, .str, .str, .int .i64, .sl .dig, .sl .chg, .bool, .str, .bool, .str, .sl .sexp]) (fun V y=>Wt K V y.1 y.2.1 y.2.2.1 y.2.2.2.1 y.2.2.2.2.1 y.2.2.2.2.2.1 y.2.2.2.2.2.2.1 y.2.2.2.2.2.2.2.1 y.2.2.2.2.2.2.2.2.1 y.2.2.2.2.2.2.2.2.2.1 y.2.2.2.2.2.2.2.2.2.2.1 y.2.2.2.2.2.2.2.2.2.2.2.1 y.2.2.2.2.2.2.2.2.2.2.2.2.1) g
def F70 (g:prodL L70) (K:Kn):Prop:=
 let g1:prodL []:=(());
 let g2:prodL []:=(());
 F70_L7 K (g.2.2.2.1,(g.2.2.2.1.length:Int),0,g.1,g.2.1,g.2.2.1,g.2.2.2.1,g.2.2.2.2.1,true,(⟨#[]⟩:ByteArray),true,(⟨#[]⟩:ByteArray),[],())
theorem F70_eq (g:prodL L70) (K X:Kn):F70 g K=qW D (qJ [(118,kJ),(118,jt)] [(119,false,yH),(120,false,sp120),(121,false,xr),(122,true,sp122),(160,false,sp160),(161,false,KS),(164,false,Kp),(165,false,Y1),(166,false,Kd),(168,false,KH),(169,false,Y2)]) (qv [(118,kJ),(118,jt)]) H70 J70 77 [.tmp 2, .tmp 3] (qq Tryz.f70) (argsT S70 L70 g) [] (settle0 K) X:=by kernel_rfl
theorem F70_ok (g:prodL L70) (K X:Kn) (h:F70 g K):FCalls Tryz.prog 70 (argsT S70 L70 g) [] K X:=
 FCalls.settle0 (qz (Γ:=qJ [(118,kJ),(118,jt)] [(119,false,yH),(120,false,sp120),(121,false,xr),(122,true,sp122),(160,false,sp160),(161,false,KS),(164,false,Kp),(165,false,Y1),(166,false,Kd),(168,false,KH),(169,false,Y2)]) (mu:=qv [(118,kJ),(118,jt)]) (H:=H70) (J:=J70) qh (qV (rs:=[(118,kJ),(118,jt)]) (l:=[(119,false,yH),(120,false,sp120),(121,false,xr),(122,true,sp122),(160,false,sp160),(161,false,KS),(164,false,Kp),(165,false,Y1),(166,false,Kd),(168,false,KH),(169,false,Y2)]) (by intro p hp;simp only [List.mem_cons,List.not_mem_nil,or_false] at hp;rcases hp with rfl | rfl<;>first | exact rw118_ok | exact Jo) (by intro p hp;simp only [List.mem_cons,List.not_mem_nil,or_false] at hp;rcases hp with rfl | rfl | rfl | rfl | rfl | rfl | rfl | rfl | rfl | rfl | rfl<;>first | exact kd | exact sp120_ok | exact Zl | exact sp122_ok | exact sp160_ok | exact sp161_ok | exact sp164_ok | exact sp165_ok | exact sp166_ok | exact sp168_ok | exact sp169_ok)) qj rfl Tryz.func70 (c:=qq Tryz.f70) rfl Tryz.ntmps70 Tryz.results70 (by unfold qk;rw [Tryz.func70];kernel_rfl) (Nat.le_of_ble_eq_true (by kernel_rfl)) (c0:=0) (Eq.mp (F70_eq g K X) h))
end Go.Proofs.YtbglndogddddoaaGreatDoor
namespace Go.Proofs.YtbglndogddddoaaGreatDoor
open Go.RowKit
set_option maxRecDepth 100000
def paP (a m:ByteArray) (t:Int) (ds:List Dig) (cs:List Chg):Prop:=
 xB t/\a.size<=4194304/\m.size<=4194304/\ds.length<=4194304/\(cs.map qA).sum<=4194304/\ ∀c∈cs,chW c/\j8 c
theorem VC {cs:List Chg} (h:(cs.map qA).sum<=4194304) {c:Chg} (hc:c∈cs):XI c:=Nat.le_trans (ZN qA hc) h
theorem Vp {cs:List Chg} (h:(cs.map qA).sum<=4194304):cs.length<=40000:=by
 have:=yk qA 135 cs fun c _=>by unfold qA;omega
 omega
theorem kind_int {c:Chg} (h:j8 c):xB c.kind:=⟨by have:=h.1;omega,by have:=h.2;omega⟩
theorem bk_chs: ∀{cs:List Chg},(∀c∈cs,XI c/\chW c/\j8 c)->qu (cs.map QQ)<=5*(cs.map qA).sum+300*cs.length
 | [],_=>by simp [qu]
 | c::cs,h=>by
  obtain ⟨h1,h2,h3⟩:=h c (List.mem_cons_self ..)
  have:=bk_chX h1 h2 (kind_int h3)
  have:=bk_chs fun c hc=>h c (List.mem_cons_of_mem _ hc)
  simp only [List.map_cons,qu,List.sum_cons,List.length_cons]
  omega
theorem bk_patX {a m:ByteArray} {t:Int} {ds:List Dig} {cs:List Chg} (hp:paP a m t ds cs) (f:Dig->Sx) (hf: ∀d,xx (f d)<=35):xx (zR a m t (ds.map f) cs)<=j6:=by
 obtain ⟨h1,h2,h3,h4,h5,h6⟩:=hp
 have e1:=bk_chs fun c hc=>⟨VC h5 hc,h6 c hc⟩
 have e2:=Vp h5
 have e3:=VV f 35 ds fun d _=>hf d
 have e4:=Jx h1
 have e5:Q9.size=6:=rfl
 have e6:j6=1073741824:=rfl
 unfold zR
 rw [wE]
 simp only [qu,kw,wE,e5]
 omega
theorem Qu {w:Sx} {l:List Sx} (J:List Sx->Prop) (hl:l.length<=4294967295) (h:J (w::l)):bif decide (l.length=0)then J [w] else vE (0<l.length) (qP ([w].length+l.length) 48 (J ([w]++l))):=by
 by_cases e:l.length=0
 . rw [decide_eq_true e,cond_true]
   rwa [List.length_eq_zero_iff.1 e] at h
 . rw [decide_eq_false e,cond_false]
   exact ⟨by omega,by simp only [List.length_singleton];omega,h⟩
theorem F70_L16_is {a m:ByteArray} {t:Int} {ds:List Dig} {cs:List Chg} {K:Kn} {D:List Sx} (hp:paP a m t ds cs)
  (h:F70_J23 K a m t ds cs true ⟨#[]⟩ D true ⟨#[]⟩ (cs.map QQ)):F70_L16 K (cs,(cs.length:Int),0,a,m,t,ds,cs,true,⟨#[]⟩,true,⟨#[]⟩,D,[],()):=by
 obtain ⟨h1,h2,h3,h4,h5,h6⟩:=hp
 have hl:=Vp h5
 unfold F70_L16
 refine qX.map cs QQ (fun n out=>(cs,(cs.length:Int),n,a,m,t,ds,cs,true,⟨#[]⟩,true,⟨#[]⟩,D,out,())) (by omega) rfl (fun W n hn out ho hW=> ?_) fun W=> ?_
 . show Ze K W cs cs.length n a m t ds cs true ⟨#[]⟩ true ⟨#[]⟩ D out
   unfold Ze
   rw [zq hn,cond_true]
   have hm:=List.getElem_mem hn
   have hc:=VC h5 hm
   obtain ⟨hw,hk⟩:=h6 _ hm
   refine zX hn ⟨kind_int hk, ?_⟩
   simp only [xh]
   have hfl: ∀k,(zr k cs[n]).length<=4294967295:=fun k=>by unfold zr;split<;>simp
   have hJ: ∀l,qC cs[n].kind::zr cs[n].kind.toNat cs[n]=l->zy K W cs cs.length n a m t ds cs true ⟨#[]⟩ true ⟨#[]⟩ true ⟨#[]⟩ l D out:=by
    rintro l rfl
    unfold zy
    exact ⟨by simp only [List.length_singleton,ho];omega,hW⟩
   generalize cs[n]=u at hm hc hw hk hW hfl hJ ⊢
   obtain ⟨kind,file,typ,parent,name,mode,data,after,before,lines,over⟩:=u
   have hk1:(1:Int)<=kind/\kind<=7:=hk
   have:kind=1∨kind=2∨kind=3∨kind=4∨kind=5∨kind=6∨kind=7:=by omega
   rcases this with rfl | rfl | rfl | rfl | rfl | rfl | rfl
   . exact ⟨⟨hc,hw⟩,Qu (fun l=>zy K W cs cs.length n a m t ds cs true ⟨#[]⟩ true ⟨#[]⟩ true ⟨#[]⟩ l D out) (hfl 1) (hJ _ rfl)⟩
   . show KS.pre _/\_
     exact ⟨⟨hc,hw⟩,Qu (fun l=>zy K W cs cs.length n a m t ds cs true ⟨#[]⟩ true ⟨#[]⟩ true ⟨#[]⟩ l D out) (hfl 2) (hJ _ rfl)⟩
   . show Kp.pre _/\_
     exact ⟨⟨hc,hw⟩,Qu (fun l=>zy K W cs cs.length n a m t ds cs true ⟨#[]⟩ true ⟨#[]⟩ true ⟨#[]⟩ l D out) (hfl 3) (hJ _ rfl)⟩
   . show Y1.pre _/\_
     exact ⟨⟨hc,hw⟩,Qu (fun l=>zy K W cs cs.length n a m t ds cs true ⟨#[]⟩ true ⟨#[]⟩ true ⟨#[]⟩ l D out) (hfl 4) (hJ _ rfl)⟩
   . show Kd.pre _/\_
     exact ⟨⟨hc,hw⟩,Qu (fun l=>zy K W cs cs.length n a m t ds cs true ⟨#[]⟩ true ⟨#[]⟩ true ⟨#[]⟩ l D out) (hfl 5) (hJ _ rfl)⟩
   . show KH.pre _/\_
     exact ⟨⟨hc,hw⟩,Qu (fun l=>zy K W cs cs.length n a m t ds cs true ⟨#[]⟩ true ⟨#[]⟩ true ⟨#[]⟩ l D out) (hfl 6) (hJ _ rfl)⟩
   . show Y2.pre _/\_
     exact ⟨⟨hc,hw⟩,Qu (fun l=>zy K W cs cs.length n a m t ds cs true ⟨#[]⟩ true ⟨#[]⟩ true ⟨#[]⟩ l D out) (hfl 7) (hJ _ rfl)⟩
 . show Ze K W cs cs.length cs.length a m t ds cs true ⟨#[]⟩ true ⟨#[]⟩ D (cs.map QQ)
   unfold Ze
   rw [qG,cond_false];exact h
def zk (ds:List Dig):List Sx:=ds.map fun d=>qY (vR d)
theorem F70_is {a m:ByteArray} {t:Int} {ds:List Dig} {cs:List Chg} {K:Kn} (hp:paP a m t ds cs) (h:K (.tu [.str (wB (zR a m t (zk ds) cs)).1, .int .i64 (wB (zR a m t (zk ds) cs)).2]) []):F70 (a,m,t,ds,cs,()) K:=by
 have hl:=hp.2.2.2.1
 unfold F70
 show F70_L7 K _
 unfold F70_L7
 refine qX.map ds (fun d=>qY (vR d)) (fun n out=>(ds,(ds.length:Int),n,a,m,t,ds,cs,true,⟨#[]⟩,true,⟨#[]⟩,out,())) (by omega) rfl (fun W n hn out ho hW=> ?_) fun W=> ?_
 . show Wt K W ds ds.length n a m t ds cs true ⟨#[]⟩ true ⟨#[]⟩ out
   unfold Wt
   rw [zq hn,cond_true]
   exact zX hn ⟨trivial,by simp only [List.length_singleton,ho];omega,hW⟩
 . show Wt K W ds ds.length ds.length a m t ds cs true ⟨#[]⟩ true ⟨#[]⟩ (ds.map fun d=>qY (vR d))
   unfold Wt
   rw [qG,cond_false]
   refine ⟨trivial,F70_L16_is hp ?_⟩
   unfold F70_J23
   simp only [xh]
   exact ⟨trivial,trivial,trivial,hp.1,⟨bk_patX hp (fun d=>qY (vR d)) fun d=>by rw [kw,JV];omega,encode_ok⟩,h⟩
def sp70:Sp:=⟨S70,L70,fun g=>paP g.1 g.2.1 g.2.2.1 g.2.2.2.1 g.2.2.2.2.1,fun g=> .tu [.str (wB (zR g.1 g.2.1 g.2.2.1 (zk g.2.2.2.1) g.2.2.2.2.1)).1, .int .i64 (wB (zR g.1 g.2.1 g.2.2.1 (zk g.2.2.2.1) g.2.2.2.2.1)).2],fun _=>none⟩
theorem sp70_ok:sp70.Ok Tryz.prog 70 true:=
 ⟨fun g K X hp h=>F70_ok g K X (F70_is hp h),fun _ _ _=>rfl,fun _=>rfl,fun _ _=>⟨rfl,rfl⟩⟩
set_option maxRecDepth 100000
def overK (k:Int):Int:=match v7 .ment (.int .i64 k) (yM .ment (.int .i64 6) ((⟨6,6⟩:Ment):Ment) (yM .ment (.int .i64 4) ((⟨4,4⟩:Ment):Ment) (yM .ment (.int .i64 3) ((⟨3,3⟩:Ment):Ment) (yM .ment (.int .i64 2) ((⟨2,2⟩:Ment):Ment) ([]:List Ment)))))with | some x=>x.val | none=>0
def fitDa (x:Atm):Bool:=bif decide (x.kind=1)then (bif decide (x.typ=2)then true else decide (x.typ=3))else false
def fitTx (x:Atm):Bool:=bif decide (x.kind=1)then decide (x.typ=1)else false
def fitDi (x:Atm):Bool:=bif decide (x.kind=1)then decide (x.typ=4)else false
def fitEn (x:Atm) (c:Chg):Bool:=bif zw x.id c.file then true else bif decide (x.kind=5)then zw x.file c.file else false
def fitSu (x:Atm) (c:Chg):Bool:=bif decide (c.kind=7)then true else bif decide (x.kind=overK c.kind)then zw x.file c.file else false
def fitFd:Fd->Atm->Bool
 | .file,x=>decide (x.kind=1)
 | .data,x=>fitDa x
 | .txt,x=>fitTx x
 | .dir,x=>fitDi x
 | .fin c,x=>fitEn x c
 | .sup c,x=>fitSu x c
def ZJ (c:Chg):List Rfn:=c.over.map fun x=>⟨x,Fd.sup c⟩
def rL17 (c:Chg) (t:Bool) (out:List Rfn):List Rfn:=bif t then (out++[⟨c.after,Fd.fin c⟩])++[⟨c.before,Fd.fin c⟩]++ZJ c else out++ZJ c
def rL24 (c:Chg) (out:List Rfn):List Rfn:=rL17 c (bif decide (c.kind=5)then true else decide (c.kind=6)) out
def rL12 (c:Chg) (t:Bool) (out:List Rfn):List Rfn:=bif t then rL24 c (out++[⟨c.parent,Fd.dir⟩])else rL24 c out
def rL25 (c:Chg) (out:List Rfn):List Rfn:=rL12 c (bif decide (c.kind=2)then !(zw c.parent ⟨dz, -1⟩)else false) out
def rL7 (c:Chg) (t:Bool):List Rfn:=bif t then rL25 c [⟨c.file,Fd.txt⟩] else rL25 c []
def rL8 (c:Chg) (k:Int) (t:Bool):List Rfn:=bif t then rL25 c [⟨c.file,Fd.file⟩] else bif decide (k=4)then rL25 c [⟨c.file,Fd.data⟩] else rL7 c (bif decide (k=5)then true else decide (k=6))
def z7 (c:Chg):List Rfn:=rL8 c c.kind (bif decide (c.kind=2)then true else decide (c.kind=3))
def YW (own:List Atm) (r:Rfn):Int:=
 bif (bif decide (r.id.n<0)then true else bif (bif Qt r.id then decide ((own.length:Int)<=r.id.n)else false)then true else decide (100000<=r.id.n))then 7 else
 bif (bif Qt r.id then !(fitFd r.fits (own.getD r.id.n.toNat az))else false)then 8 else 0
def XP (t:Bool) (c:Chg):Int:=bif (bif t then true else bif decide (c.kind=5)then (bif zw c.after c.before then !(zw c.after c.file)else false)else false)then 1 else 0
def Xp (t:Bool) (c:Chg):Int:=bif t then 20 else XP (bif decide (c.kind=6)then zw c.after c.before else false) c
def lastP (c:Chg):Int:=Xp (bif decide (c.kind=2)then zw c.parent c.file else false) c
def y7 (c:Chg) (own:List Atm):Int:=bif !decide (errs ((z7 c).map (YW own))=0)then errs ((z7 c).map (YW own))else lastP c
def Jk (n:Int):Idn:=⟨dz,n⟩
def lnA (c:Chg) (n:Int) (s:ByteArray):Atm:=⟨Jk n,5,c.file,0,iz,⟨#[]⟩,0,⟨#[]⟩,s,iz,iz,[]⟩
def egA (c:Chg) (n:Int) (f t:Idn):Atm:=⟨Jk n,6,c.file,0,iz,⟨#[]⟩,0,⟨#[]⟩,⟨#[]⟩,f,t,[]⟩
def lnI (c:Chg) (n:Int) (i:Nat):Atm:=lnA c (n+i) (c.lines.getD i ⟨#[]⟩)
def tilI (c:Chg) (n:Int) (i:Nat):Idn:=bif decide (i<c.lines.length)then Jk (n+i)else c.before
def frmI (c:Chg) (n:Int):Nat->Idn
 | 0=>c.after
 | i+1=>Jk (n+i)
def egI (c:Chg) (n:Int) (i:Nat):Atm:=egA c (n+c.lines.length+i) (frmI c n i) (tilI c n i)
def lnsL (c:Chg) (n:Int):List Atm:=(List.range c.lines.length).map (lnI c n)
def egsL (c:Chg) (n:Int):List Atm:=(List.range (c.lines.length+1)).map (egI c n)
def madK (k:Nat) (c:Chg) (n:Int):List Atm:=match k with
 | 1=>[⟨Jk n,1,Jk n,c.typ,iz,⟨#[]⟩,0,⟨#[]⟩,⟨#[]⟩,iz,iz,[]⟩]
 | 2=>[⟨Jk n,2,c.file,0,c.parent,c.name,0,⟨#[]⟩,⟨#[]⟩,iz,iz,c.over⟩]
 | 3=>[⟨Jk n,3,c.file,0,iz,⟨#[]⟩,c.mode,⟨#[]⟩,⟨#[]⟩,iz,iz,c.over⟩]
 | 4=>[⟨Jk n,4,c.file,0,iz,⟨#[]⟩,0,c.data,⟨#[]⟩,iz,iz,c.over⟩]
 | 5=>lnsL c n++egsL c n
 | 6=>[⟨Jk n,6,c.file,0,iz,⟨#[]⟩,0,⟨#[]⟩,⟨#[]⟩,c.after,c.before,c.over⟩]
 | 7=>[⟨Jk n,7,iz,0,iz,⟨#[]⟩,0,⟨#[]⟩,⟨#[]⟩,iz,iz,c.over⟩]
 | _=>[]
def yE (c:Chg) (n:Int):List Atm:=madK c.kind.toNat c n
theorem madeL_len {c:Chg} {n:Int} (hk:j8 c):(yE c n).length=if c.kind=5 then 2*c.lines.length+1 else 1:=by
 obtain ⟨kind,file,typ,parent,name,mode,data,after,before,lines,over⟩:=c
 have hk1:(1:Int)<=kind/\kind<=7:=hk
 have:kind=1∨kind=2∨kind=3∨kind=4∨kind=5∨kind=6∨kind=7:=by omega
 rcases this with rfl | rfl | rfl | rfl | rfl | rfl | rfl<;>try rfl
 show (lnsL _ n++egsL _ n).length=_
 simp [lnsL,egsL]
 omega
theorem madeL_le {c:Chg} {n:Int} (hk:j8 c):(yE c n).length<=2*qA c:=by
 rw [madeL_len hk]
 have:=yk jY 1 c.lines fun x _=>by unfold jY;omega
 unfold qA
 split<;>omega
def preM (c:Chg) (n:Int):Prop:=j8 c/\c.lines.length<=4194304/\0<=n/\n<=1099511627776
def pre84 (g:prodL [.pr .i64, .pr .chg, .sl .atm]):Prop:=preM g.2.1 g.1/\g.2.2.1.length<=16777216
def wq (f:Chg->Int) (r:Chg->List Atm->Int):List Chg->List Atm->List Atm×Int
 | [],own=>(own,0)
 | c::l,own=>bif !decide (f c=0)then ([],f c)else bif !decide (r c own=0)then ([],r c own)else wq f r l (own++yE c own.length)
def QJ (cs:List Chg):List Atm×Int:=wq zM y7 cs []
def exP5 (l:List Atm) (s:ByteArray) (t:Bool):List Atm×ByteArray×Int:=bif t then ([],⟨#[]⟩,4)else (l,s,0)
def Zt (r:List Atm×Int) (x:ByteArray×Int):List Atm×ByteArray×Int:=
 bif !decide (r.2=0)then ([],⟨#[]⟩,r.2)else exP5 r.1 x.1 (bif !decide (x.2=0)then true else decide (65536< (x.1.size:Int)))
def zH (a m:ByteArray) (t:Int) (ds:List Dig) (cs:List Chg):List Atm×ByteArray×Int:=
 bif !decide (xF jq a m t ds cs=0)then ([],⟨#[]⟩,xF jq a m t ds cs)else Zt (QJ cs) (wB (zR a m t (zk ds) cs))
def xP (a m:ByteArray) (t:Int) (ds:List Dig) (cs:List Chg):Prop:=
 xB t/\a.size<=4194304/\m.size<=4194304/\ds.length<=4194304/\(cs.map qA).sum<=4194304/\ ∀c∈cs,chW c
theorem jv {c:Chg} (h:zM c=0):j8 c:=by
 unfold zM fP10 at h
 by_cases h1:c.kind<1
 . rw [decide_eq_true h1,cond_true,cond_true] at h;cases h
 . rw [decide_eq_false h1,cond_false] at h
   by_cases h2:7<c.kind
   . rw [decide_eq_true h2,cond_true] at h;cases h
   . exact ⟨by omega,by omega⟩
theorem qX.mapN {β γ:Type} {body:(γ->Prop)->γ->Prop} {g:γ} (N:Nat) (f:Nat->β) (S:Nat->List β->γ) (hg:g=S 0 [])
  (step: ∀(W:γ->Prop) (n:Nat),n<N-> ∀out:List β,out.length=n->W (S (n+1) (out++[f n]))->body W (S n out))
  (last: ∀W:γ->Prop,body W (S N ((List.range N).map f))):qX body g:=by
 refine qX.countTo N (fun n=>S n ((List.range n).map f)) (fun _=>True) hg (fun n hn _ W hW=> ?_) trivial
 by_cases hlt:n<N
 . refine step W n hlt _ (by simp) ?_
   have:=hW hlt trivial
   rwa [List.range_succ,List.map_append] at this
 . have:n=N:=by omega
   subst this
   exact last W
end Go.Proofs.YtbglndogddddoaaGreatDoor
namespace Go.Proofs.YtbglndogddddoaaGreatDoor
open Go.RowKit
attribute [local irreducible] qW qb
set_option maxRecDepth 100000
def H95:List (Nat×Hint):=[]
def J95:List (Nat×Hint):=[]
abbrev S95:List Sh:=[.leaf]
abbrev L95:List Lf:=[.int .i64]
def F95 (g:prodL L95) (K:Kn):Prop:=
 K (.int .i64 (match v7 .ment (.int .i64 g.1) (yM .ment (.int .i64 6) ((⟨6,6⟩:Ment):Ment) (yM .ment (.int .i64 4) ((⟨4,4⟩:Ment):Ment) (yM .ment (.int .i64 3) ((⟨3,3⟩:Ment):Ment) (yM .ment (.int .i64 2) ((⟨2,2⟩:Ment):Ment) ([]:List Ment)))))with | some x=>x.val | none=>0)) []
theorem F95_eq (g:prodL L95) (K X:Kn):F95 g K=qW D (qJ [] []) (qv []) H95 J95 7 [.tmp 2] (qq Tryz.f95) (argsT S95 L95 g) [] (settle0 K) X:=by kernel_rfl
theorem F95_ok (g:prodL L95) (K X:Kn) (h:F95 g K):FCalls Tryz.prog 95 (argsT S95 L95 g) [] K X:=
 FCalls.settle0 (qz qh (vN vC) qj rfl Tryz.func95 (c:=qq Tryz.f95) rfl Tryz.ntmps95 Tryz.results95 (by unfold qk;rw [Tryz.func95];kernel_rfl) (Nat.le_of_ble_eq_true (by kernel_rfl)) (c0:=0) (Eq.mp (F95_eq g K X) h))
def sp95:Sp:=⟨S95,L95,fun _=>True,fun g=> .int .i64 (overK g.1),fun _=>none⟩
theorem sp95_ok:sp95.Ok Tryz.prog 95 true:=
 ⟨fun g K X hp h=>F95_ok g K X h,fun _ _ _=>rfl,fun _=>rfl,by first | exact fun _ _=>⟨rfl,rfl⟩ | (intro h;cases h)⟩
def H89:List (Nat×Hint):=[]
def J89:List (Nat×Hint):=[]
abbrev S89:List Sh:=[.leaf]
abbrev L89:List Lf:=[.el .atm]
def F89 (g:prodL L89) (K:Kn):Prop:=
 K (.bool (decide (g.1.kind=1))) []
theorem F89_eq (g:prodL L89) (K X:Kn):F89 g K=qW D (qJ [] []) (qv []) H89 J89 6 [.tmp 2] (qq Tryz.f89) (argsT S89 L89 g) [] (settle0 K) X:=by kernel_rfl
theorem F89_ok (g:prodL L89) (K X:Kn) (h:F89 g K):FCalls Tryz.prog 89 (argsT S89 L89 g) [] K X:=
 FCalls.settle0 (qz qh (vN vC) qj rfl Tryz.func89 (c:=qq Tryz.f89) rfl Tryz.ntmps89 Tryz.results89 (by unfold qk;rw [Tryz.func89];kernel_rfl) (Nat.le_of_ble_eq_true (by kernel_rfl)) (c0:=0) (Eq.mp (F89_eq g K X) h))
def sp89:Sp:=⟨S89,L89,fun _=>True,fun g=> .bool (decide (g.1.kind=1)),fun _=>none⟩
theorem sp89_ok:sp89.Ok Tryz.prog 89 false:=
 ⟨fun g K X hp h=>F89_ok g K X h,fun _ _ _=>rfl,fun _=>rfl,by first | exact fun _ _=>⟨rfl,rfl⟩ | (intro h;cases h)⟩
def H90:List (Nat×Hint):=[]
def J90:List (Nat×Hint):=[]
abbrev S90:List Sh:=[.leaf]
abbrev L90:List Lf:=[.el .atm]
def F90 (g:prodL L90) (K:Kn):Prop:=
 bif decide (g.1.kind=1)then (
  bif decide (g.1.typ=2)then (
   K (.bool true) [])
  else (
   K (.bool (decide (g.1.typ=3))) []))
 else (
  K (.bool false) [])
theorem F90_eq (g:prodL L90) (K X:Kn):F90 g K=qW D (qJ [] []) (qv []) H90 J90 16 [.tmp 2] (qq Tryz.f90) (argsT S90 L90 g) [] (settle0 K) X:=by kernel_rfl
theorem F90_ok (g:prodL L90) (K X:Kn) (h:F90 g K):FCalls Tryz.prog 90 (argsT S90 L90 g) [] K X:=
 FCalls.settle0 (qz qh (vN vC) qj rfl Tryz.func90 (c:=qq Tryz.f90) rfl Tryz.ntmps90 Tryz.results90 (by unfold qk;rw [Tryz.func90];kernel_rfl) (Nat.le_of_ble_eq_true (by kernel_rfl)) (c0:=0) (Eq.mp (F90_eq g K X) h))
def sp90:Sp:=⟨S90,L90,fun _=>True,fun g=> .bool (fitDa g.1),fun _=>none⟩
theorem sp90_ok:sp90.Ok Tryz.prog 90 true:=
 ⟨fun g K X hp h=>F90_ok g K X (by
  have h:K (.bool (fitDa g.1)) []:=h
  revert h;unfold F90 fitDa;show (fun v=>K (.bool v) []) _->_
  repeat' (first | exact id | refine xj (K:=fun v=>K (.bool v) []) ?_ ?_ | (intro h;refine ⟨trivial, ?_⟩;revert h))),fun _ _ _=>rfl,fun _=>rfl,by first | exact fun _ _=>⟨rfl,rfl⟩ | (intro h;cases h)⟩
def H91:List (Nat×Hint):=[]
def J91:List (Nat×Hint):=[]
abbrev S91:List Sh:=[.leaf]
abbrev L91:List Lf:=[.el .atm]
def F91 (g:prodL L91) (K:Kn):Prop:=
 bif decide (g.1.kind=1)then (
  K (.bool (decide (g.1.typ=1))) [])
 else (
  K (.bool false) [])
theorem F91_eq (g:prodL L91) (K X:Kn):F91 g K=qW D (qJ [] []) (qv []) H91 J91 11 [.tmp 2] (qq Tryz.f91) (argsT S91 L91 g) [] (settle0 K) X:=by kernel_rfl
theorem F91_ok (g:prodL L91) (K X:Kn) (h:F91 g K):FCalls Tryz.prog 91 (argsT S91 L91 g) [] K X:=
 FCalls.settle0 (qz qh (vN vC) qj rfl Tryz.func91 (c:=qq Tryz.f91) rfl Tryz.ntmps91 Tryz.results91 (by unfold qk;rw [Tryz.func91];kernel_rfl) (Nat.le_of_ble_eq_true (by kernel_rfl)) (c0:=0) (Eq.mp (F91_eq g K X) h))
def sp91:Sp:=⟨S91,L91,fun _=>True,fun g=> .bool (fitTx g.1),fun _=>none⟩
theorem sp91_ok:sp91.Ok Tryz.prog 91 true:=
 ⟨fun g K X hp h=>F91_ok g K X (by
  have h:K (.bool (fitTx g.1)) []:=h
  revert h;unfold F91 fitTx;show (fun v=>K (.bool v) []) _->_
  repeat' (first | exact id | refine xj (K:=fun v=>K (.bool v) []) ?_ ?_ | (intro h;refine ⟨trivial, ?_⟩;revert h))),fun _ _ _=>rfl,fun _=>rfl,by first | exact fun _ _=>⟨rfl,rfl⟩ | (intro h;cases h)⟩
def H92:List (Nat×Hint):=[]
def J92:List (Nat×Hint):=[]
abbrev S92:List Sh:=[.leaf]
abbrev L92:List Lf:=[.el .atm]
def F92 (g:prodL L92) (K:Kn):Prop:=
 bif decide (g.1.kind=1)then (
  K (.bool (decide (g.1.typ=4))) [])
 else (
  K (.bool false) [])
theorem F92_eq (g:prodL L92) (K X:Kn):F92 g K=qW D (qJ [] []) (qv []) H92 J92 11 [.tmp 2] (qq Tryz.f92) (argsT S92 L92 g) [] (settle0 K) X:=by kernel_rfl
theorem F92_ok (g:prodL L92) (K X:Kn) (h:F92 g K):FCalls Tryz.prog 92 (argsT S92 L92 g) [] K X:=
 FCalls.settle0 (qz qh (vN vC) qj rfl Tryz.func92 (c:=qq Tryz.f92) rfl Tryz.ntmps92 Tryz.results92 (by unfold qk;rw [Tryz.func92];kernel_rfl) (Nat.le_of_ble_eq_true (by kernel_rfl)) (c0:=0) (Eq.mp (F92_eq g K X) h))
def sp92:Sp:=⟨S92,L92,fun _=>True,fun g=> .bool (fitDi g.1),fun _=>none⟩
theorem sp92_ok:sp92.Ok Tryz.prog 92 true:=
 ⟨fun g K X hp h=>F92_ok g K X (by
  have h:K (.bool (fitDi g.1)) []:=h
  revert h;unfold F92 fitDi;show (fun v=>K (.bool v) []) _->_
  repeat' (first | exact id | refine xj (K:=fun v=>K (.bool v) []) ?_ ?_ | (intro h;refine ⟨trivial, ?_⟩;revert h))),fun _ _ _=>rfl,fun _=>rfl,by first | exact fun _ _=>⟨rfl,rfl⟩ | (intro h;cases h)⟩
def H93:List (Nat×Hint):=[]
def J93:List (Nat×Hint):=[]
abbrev S93:List Sh:=[.leaf, .leaf]
abbrev L93:List Lf:=[.el .atm, .pr .chg]
def F93 (g:prodL L93) (K:Kn):Prop:=
 bif zw g.1.id g.2.1.file then (
  K (.bool true) [])
 else (
  bif decide (g.1.kind=5)then (
   K (.bool (zw g.1.file g.2.1.file)) [])
  else (
   K (.bool false) []))
theorem F93_eq (g:prodL L93) (K X:Kn):F93 g K=qW D (qJ [] []) (qv []) H93 J93 21 [.tmp 3] (qq Tryz.f93) (argsT S93 L93 g) [] (settle0 K) X:=by kernel_rfl
theorem F93_ok (g:prodL L93) (K X:Kn) (h:F93 g K):FCalls Tryz.prog 93 (argsT S93 L93 g) [] K X:=
 FCalls.settle0 (qz qh (vN vC) qj rfl Tryz.func93 (c:=qq Tryz.f93) rfl Tryz.ntmps93 Tryz.results93 (by unfold qk;rw [Tryz.func93];kernel_rfl) (Nat.le_of_ble_eq_true (by kernel_rfl)) (c0:=0) (Eq.mp (F93_eq g K X) h))
def sp93:Sp:=⟨S93,L93,fun _=>True,fun g=> .bool (fitEn g.1 g.2.1),fun _=>none⟩
theorem sp93_ok:sp93.Ok Tryz.prog 93 true:=
 ⟨fun g K X hp h=>F93_ok g K X (by
  have h:K (.bool (fitEn g.1 g.2.1)) []:=h
  revert h;unfold F93 fitEn;show (fun v=>K (.bool v) []) _->_
  repeat' (first | exact id | refine xj (K:=fun v=>K (.bool v) []) ?_ ?_ | (intro h;refine ⟨trivial, ?_⟩;revert h))),fun _ _ _=>rfl,fun _=>rfl,by first | exact fun _ _=>⟨rfl,rfl⟩ | (intro h;cases h)⟩
def H94:List (Nat×Hint):=[]
def J94:List (Nat×Hint):=[]
abbrev S94:List Sh:=[.leaf, .leaf]
abbrev L94:List Lf:=[.el .atm, .pr .chg]
def F94 (g:prodL L94) (K:Kn):Prop:=
 bif decide (g.2.1.kind=7)then (
  K (.bool true) [])
 else (
  True/\
  bif decide (g.1.kind=overK g.2.1.kind)then (
   K (.bool (zw g.1.file g.2.1.file)) [])
  else (
   K (.bool false) []))
theorem F94_eq (g:prodL L94) (K X:Kn):F94 g K=qW D (qJ [] [(95,true,sp95)]) (qv []) H94 J94 22 [.tmp 3] (qq Tryz.f94) (argsT S94 L94 g) [] (settle0 K) X:=by kernel_rfl
theorem F94_ok (g:prodL L94) (K X:Kn) (h:F94 g K):FCalls Tryz.prog 94 (argsT S94 L94 g) [] K X:=
 FCalls.settle0 (qz (Γ:=qJ [] [(95,true,sp95)]) (mu:=qv []) (H:=H94) (J:=J94) qh (qV (rs:=[]) (l:=[(95,true,sp95)]) (fun p hp=>by cases hp) (by intro p hp;simp only [List.mem_cons,List.not_mem_nil,or_false] at hp;subst hp;exact sp95_ok)) qj rfl Tryz.func94 (c:=qq Tryz.f94) rfl Tryz.ntmps94 Tryz.results94 (by unfold qk;rw [Tryz.func94];kernel_rfl) (Nat.le_of_ble_eq_true (by kernel_rfl)) (c0:=0) (Eq.mp (F94_eq g K X) h))
def sp94:Sp:=⟨S94,L94,fun _=>True,fun g=> .bool (fitSu g.1 g.2.1),fun _=>none⟩
theorem sp94_ok:sp94.Ok Tryz.prog 94 true:=
 ⟨fun g K X hp h=>F94_ok g K X (by
  have h:K (.bool (fitSu g.1 g.2.1)) []:=h
  revert h;unfold F94 fitSu;show (fun v=>K (.bool v) []) _->_
  repeat' (first | exact id | refine xj (K:=fun v=>K (.bool v) []) ?_ ?_ | (intro h;refine ⟨trivial, ?_⟩;revert h))),fun _ _ _=>rfl,fun _=>rfl,by first | exact fun _ _=>⟨rfl,rfl⟩ | (intro h;cases h)⟩
def H88:List (Nat×Hint):=[]
def J88:List (Nat×Hint):=[]
abbrev S88:List Sh:=[.leaf, .leaf, .pt 0 0]
abbrev L88:List Lf:=[.el .idk, .fd, .sl .ref]
abbrev O88:List ObSh:=[.cells [.oa .ref 1], .arr .ref]
def F88 (g:prodL L88) (K:Kn):Prop:=
 qP (g.2.2.1.length+[(⟨g.1,g.2.1⟩:Rfn)].length) 48 (
 K (.tu []) [some (.cells [.oa .ref 1 0]),some (.arr 0 .ref (g.2.2.1++[(⟨g.1,g.2.1⟩:Rfn)]))])
theorem F88_eq (g:prodL L88) (K X:Kn):F88 g K=qW D (qJ [] []) (qv []) H88 J88 11 [] (qq Tryz.f88) (argsT S88 L88 g) (qZ S88 O88 L88 g) (settleD (qZ S88 O88 L88 g).length 0 K) X 0:=by kernel_rfl
theorem F88_ok (g:prodL L88) (K X:Kn) (h:F88 g K):FCalls Tryz.prog 88 (argsT S88 L88 g) (qZ S88 O88 L88 g) K X 0:=
 FCalls.settleD (qz (Γ:=qJ [] []) (mu:=qv []) (H:=H88) (J:=J88) qh (vN vC) qj rfl Tryz.func88 (c:=qq Tryz.f88) rfl Tryz.ntmps88 (rs:=[]) Tryz.results88 (by unfold qk;rw [Tryz.func88];kernel_rfl) (Nat.le_of_ble_eq_true (by kernel_rfl)) (X:=X) (c0:=0) (Eq.mp (F88_eq g K X) h))
def rw88:Raw:=⟨S88,O88,L88,0,fun g K _=>F88 g K⟩
theorem rw88_ok:rw88.Ok Tryz.prog 88:=fun g K X h=>F88_ok g K X h
def H88n:List (Nat×Hint):=[]
def J88n:List (Nat×Hint):=[]
abbrev S88n:List Sh:=[.leaf, .leaf, .pt 0 0]
abbrev L88n:List Lf:=[.el .idk, .fd]
abbrev O88n:List ObSh:=[.cells [.nil]]
def F88n (g:prodL L88n) (K:Kn):Prop:=
 qP ([(⟨g.1,g.2.1⟩:Rfn)].length) 48 (
 K (.tu []) [some (.cells [.oa .ref 1 0]),some (.arr 0 .ref [(⟨g.1,g.2.1⟩:Rfn)])])
theorem F88n_eq (g:prodL L88n) (K X:Kn):F88n g K=qW D (qJ [] []) (qv []) H88n J88n 11 [] (qq Tryz.f88) (argsT S88n L88n g) (qZ S88n O88n L88n g) (settleD (qZ S88n O88n L88n g).length 0 K) X 0:=by kernel_rfl
theorem F88n_ok (g:prodL L88n) (K X:Kn) (h:F88n g K):FCalls Tryz.prog 88 (argsT S88n L88n g) (qZ S88n O88n L88n g) K X 0:=
 FCalls.settleD (qz (Γ:=qJ [] []) (mu:=qv []) (H:=H88n) (J:=J88n) qh (vN vC) qj rfl Tryz.func88 (c:=qq Tryz.f88) rfl Tryz.ntmps88 (rs:=[]) Tryz.results88 (by unfold qk;rw [Tryz.func88];kernel_rfl) (Nat.le_of_ble_eq_true (by kernel_rfl)) (X:=X) (c0:=0) (Eq.mp (F88n_eq g K X) h))
def Kr:Raw:=⟨S88n,O88n,L88n,0,fun g K _=>F88n g K⟩
theorem rw88n_ok:Kr.Ok Tryz.prog 88:=fun g K X h=>F88n_ok g K X h
def H43:List (Nat×Hint):=[]
def J43:List (Nat×Hint):=[]
abbrev S43:List Sh:=[.leaf, .leaf]
abbrev L43:List Lf:=[.el .chg, .int .i64]
def F43 (g:prodL L43) (K:Kn):Prop:=
 K (.fn 84 [] [.pr .i64 g.2.1 0, .pr .chg g.1 0]) []
theorem F43_eq (g:prodL L43) (K X:Kn):F43 g K=qW D (qJ [] []) (qv []) H43 J43 6 [.tmp 4] (qq Tryz.f43) (argsT S43 L43 g) [] (settle0 K) X:=by kernel_rfl
theorem F43_ok (g:prodL L43) (K X:Kn) (h:F43 g K):FCalls Tryz.prog 43 (argsT S43 L43 g) [] K X:=
 FCalls.settle0 (qz qh (vN vC) qj rfl Tryz.func43 (c:=qq Tryz.f43) rfl Tryz.ntmps43 Tryz.results43 (by unfold qk;rw [Tryz.func43];kernel_rfl) (Nat.le_of_ble_eq_true (by kernel_rfl)) (c0:=0) (Eq.mp (F43_eq g K X) h))
def sp43:Sp:=⟨S43,L43,fun _=>True,fun g=> .fn 84 [] [.pr .i64 g.2.1 0, .pr .chg g.1 0],fun _=>none⟩
theorem sp43_ok:sp43.Ok Tryz.prog 43 false:=
 ⟨fun g K X hp h=>F43_ok g K X (by
  have h:K (.fn 84 [] [.pr .i64 g.2.1 0, .pr .chg g.1 0]) []:=h
  exact h),fun _ _ _=>rfl,fun _=>rfl,by first | exact fun _ _=>⟨rfl,rfl⟩ | (intro h;cases h)⟩
def H85:List (Nat×Hint):=[]
def J85:List (Nat×Hint):=[]
abbrev S85:List Sh:=[.leaf, .leaf]
abbrev L85:List Lf:=[.int .i64, .pr .i64]
def F85 (g:prodL L85) (K:Kn):Prop:=
 K (.ag (enc .idk (⟨dz,IntKind.i64.wrap (g.2.1+g.1)⟩:Idn))) []
theorem F85_eq (g:prodL L85) (K X:Kn):F85 g K=qW D (qJ [] []) (qv []) H85 J85 8 [.cell 3 36] (qq Tryz.f85) (argsT S85 L85 g) [] (settle0 K) X:=by kernel_rfl
theorem F85_ok (g:prodL L85) (K X:Kn) (h:F85 g K):FCalls Tryz.prog 85 (argsT S85 L85 g) [] K X:=
 FCalls.settle0 (qz qh (vN vC) qj rfl Tryz.func85 (c:=qq Tryz.f85) rfl Tryz.ntmps85 Tryz.results85 (by unfold qk;rw [Tryz.func85];kernel_rfl) (Nat.le_of_ble_eq_true (by kernel_rfl)) (c0:=0) (Eq.mp (F85_eq g K X) h))
def sp85:Sp:=⟨S85,L85,fun _=>True,fun g=> .ag (enc .idk (⟨dz,IntKind.i64.wrap (g.2.1+g.1)⟩:Idn)),fun _=>none⟩
theorem sp85_ok:sp85.Ok Tryz.prog 85 false:=
 ⟨fun g K X hp h=>F85_ok g K X (by
  have h:K (.ag (enc .idk (⟨dz,IntKind.i64.wrap (g.2.1+g.1)⟩:Idn))) []:=h
  exact h),fun _ _ _=>rfl,fun _=>rfl,by first | exact fun _ _=>⟨rfl,rfl⟩ | (intro h;cases h)⟩
def H1036016:List (Nat×Hint):=[]
def J1036016:List (Nat×Hint):=[]
abbrev wu:List Sh:=[.leaf, .pt 0 0]
abbrev xw:List Lf:=[.el .atm, .sl .atm]
abbrev ZS:List ObSh:=[.cells [.oa .atm 1], .arr .atm]
def Ve (g:prodL xw) (K:Kn):Prop:=
 qP (g.2.1.length+[g.1].length) 296 (
 K (.bool true) [some (.cells [.oa .atm 1 0]),some (.arr 0 .atm (g.2.1++[g.1]))])
theorem F1036016_eq (g:prodL xw) (K:Kn):Ve g K=qb D (qJ [] []) (qv []) H1036016 J1036016 (QE Tryz.prog 1036016) [6] (argsT wu xw g) (qZ wu ZS xw g) (settleD (qZ wu ZS xw g).length 0 K) 0:=by kernel_rfl
theorem F1036016_ok (g:prodL xw) (K X:Kn) (h:Ve g K):FCalls Tryz.prog 1036016 (argsT wu xw g) (qZ wu ZS xw g) K X 0:=
 FCalls.settleD (Kl (Γ:=qJ [] []) (mu:=qv []) (H:=H1036016) (J:=J1036016) qh (vN vC) qj rfl (yi:=⟨36,16,[6]⟩) rfl (by kernel_rfl) (by kernel_rfl) (by kernel_rfl) (by rw [F1036016_eq g K] at h;exact h))
def vb:Raw:=⟨wu,ZS,xw,0,fun g K _=>Ve g K⟩
theorem rw1036016_ok:vb.Ok Tryz.prog 1036016:=fun g K X h=>F1036016_ok g K X h
set_option maxRecDepth 100000
def H46:List (Nat×Hint):=[(19,⟨[((3,[]),none),((3,[0]),none)],[(1, .leaf),(3, .pt 0 0),(4, .fn 88 [] [.pt 0 0]),(64, .leaf),(65, .leaf),(66, .leaf)],[.cells [.oa .ref 1], .arr .ref],[.pr .chg, .sl .idk, .int .i64, .int .i64, .sl .ref]⟩)]
def J46:List (Nat×Hint):=[(1,⟨[],[(1, .leaf)],[],[.pr .chg]⟩),(6,⟨[((3,[]),none)],[(1, .leaf),(3, .pt 0 0),(4, .fn 88 [] [.pt 0 0]),(10, .leaf),(11, .leaf)],[.cells [.nil]],[.pr .chg, .int .i64, .bool]⟩),(11,⟨[((3,[]),none)],[(1, .leaf),(3, .pt 0 0),(4, .fn 88 [] [.pt 0 0]),(24, .leaf)],[.cells [.nil]],[.pr .chg, .bool]⟩),(12,⟨[((3,[]),none),((3,[0]),some .ref)],[(1, .leaf),(3, .pt 0 0),(4, .fn 88 [] [.pt 0 0])],[.cells [.oa .ref 1], .arr .ref],[.pr .chg, .sl .ref]⟩),(13,⟨[((3,[]),none),((3,[0]),none)],[(1, .leaf),(3, .pt 0 0),(4, .fn 88 [] [.pt 0 0]),(39, .leaf)],[.cells [.oa .ref 1], .arr .ref],[.pr .chg, .bool, .sl .ref]⟩),(14,⟨[((3,[]),none),((3,[0]),none)],[(1, .leaf),(3, .pt 0 0),(4, .fn 88 [] [.pt 0 0])],[.cells [.oa .ref 1], .arr .ref],[.pr .chg, .sl .ref]⟩),(15,⟨[((3,[]),none),((3,[0]),none)],[(1, .leaf),(3, .pt 0 0),(4, .fn 88 [] [.pt 0 0]),(51, .leaf)],[.cells [.oa .ref 1], .arr .ref],[.pr .chg, .bool, .sl .ref]⟩),(18,⟨[((3,[]),none),((3,[0]),none)],[(1, .leaf),(3, .pt 0 0),(4, .fn 88 [] [.pt 0 0])],[.cells [.oa .ref 1], .arr .ref],[.pr .chg, .sl .ref]⟩)]
abbrev S46:List Sh:=[.leaf]
abbrev L46:List Lf:=[.el .chg]
def Z8 (K:Kn) (W20:prodL [.pr .chg, .sl .idk, .int .i64, .int .i64, .sl .ref]->Prop) (c_19:Chg) (t_19:List Idn) (t2_19 t3_19:Int) (out_19:List Rfn):Prop:=
 bif decide (t3_19<t2_19)then (
  At t_19 t3_19 fun u21=>
 let g22:prodL [.el .idk, .fd, .sl .ref]:=(u21,Fd.sup c_19,out_19,());
 qP (g22.2.2.1.length+[(⟨g22.1,g22.2.1⟩:Rfn)].length) 48 (
 W20 (c_19,t_19,t2_19,IntKind.i64.wrap (t3_19+1),g22.2.2.1++[(⟨g22.1,g22.2.1⟩:Rfn)],())))
 else (
  K (.sl false .ref out_19) [])
def F46_L20 (K:Kn) (g:prodL [.pr .chg, .sl .idk, .int .i64, .int .i64, .sl .ref]):Prop:=
 qX (γ:=prodL [.pr .chg, .sl .idk, .int .i64, .int .i64, .sl .ref]) (fun V y=>Z8 K V y.1 y.2.1 y.2.2.1 y.2.2.2.1 y.2.2.2.2.1) g
def XR (K:Kn) (c_18:Chg) (out_18:List Rfn):Prop:=
 F46_L20 K (c_18,c_18.over,(c_18.over.length:Int),0,out_18,())
def Zs (K:Kn) (c_14:Chg) (t_14:Bool) (out_14:List Rfn):Prop:=
 bif t_14 then (
  let g15:prodL [.el .idk, .fd, .sl .ref]:=(c_14.after,Fd.fin c_14,out_14,());
  qP (g15.2.2.1.length+[(⟨g15.1,g15.2.1⟩:Rfn)].length) 48 (
  let g16:prodL [.el .idk, .fd, .sl .ref]:=(c_14.before,Fd.fin c_14,g15.2.2.1++[(⟨g15.1,g15.2.1⟩:Rfn)],());
  qP (g16.2.2.1.length+[(⟨g16.1,g16.2.1⟩:Rfn)].length) 48 (
  XR K c_14 (g16.2.2.1++[(⟨g16.1,g16.2.1⟩:Rfn)]))))
 else (
  XR K c_14 out_14)
def F46_J24 (K:Kn) (c_13:Chg) (out_13:List Rfn):Prop:=
 bif decide (c_13.kind=5)then (
  Zs K c_13 true out_13)
 else (
  Zs K c_13 (decide (c_13.kind=6)) out_13)
def XB (K:Kn) (c_10:Chg) (t_10:Bool) (out_10:List Rfn):Prop:=
 bif t_10 then (
  let g11:prodL [.el .idk, .fd, .sl .ref]:=(c_10.parent,Fd.dir,out_10,());
  qP (g11.2.2.1.length+[(⟨g11.1,g11.2.1⟩:Rfn)].length) 48 (
  F46_J24 K c_10 (g11.2.2.1++[(⟨g11.1,g11.2.1⟩:Rfn)])))
 else (
  F46_J24 K c_10 out_10)
def kI (K:Kn) (c_9:Chg) (out_9:List Rfn):Prop:=
 bif decide (c_9.kind=2)then (
  True/\
  XB K c_9 (!(zw c_9.parent (⟨dz, -1⟩:Idn))) out_9)
 else (
  XB K c_9 false out_9)
def V2 (K:Kn) (c_5:Chg) (t_5:Bool):Prop:=
 bif t_5 then (
    let g6:prodL [.el .idk, .fd]:=(c_5.file,Fd.txt,());
    qP ([(⟨g6.1,g6.2.1⟩:Rfn)].length) 48 (
    kI K c_5 [(⟨g6.1,g6.2.1⟩:Rfn)]))
   else (
    kI K c_5 [])
def Vn (K:Kn) (c_2:Chg) (t_2:Int) (t2_2:Bool):Prop:=
 bif t2_2 then (
  let g3:prodL [.el .idk, .fd]:=(c_2.file,Fd.file,());
  qP ([(⟨g3.1,g3.2.1⟩:Rfn)].length) 48 (
  kI K c_2 [(⟨g3.1,g3.2.1⟩:Rfn)]))
 else (
  bif decide (t_2=4)then (
   let g4:prodL [.el .idk, .fd]:=(c_2.file,Fd.data,());
   qP ([(⟨g4.1,g4.2.1⟩:Rfn)].length) 48 (
   kI K c_2 [(⟨g4.1,g4.2.1⟩:Rfn)]))
  else (
   bif decide (t_2=5)then (
    V2 K c_2 true)
   else (
    V2 K c_2 (decide (t_2=6)))))
def F46_J26 (K:Kn) (c_1:Chg):Prop:=
 bif decide (c_1.kind=2)then (
  Vn K c_1 c_1.kind true)
 else (
  Vn K c_1 c_1.kind (decide (c_1.kind=3)))
def F46 (g:prodL L46) (K:Kn):Prop:=
 F46_J26 K g.1
theorem F46_eq (g:prodL L46) (K X:Kn):F46 g K=qW D (qJ [(88,rw88),(88,Kr)] [(28,false,sp28)]) (qv [(88,rw88),(88,Kr)]) H46 J46 76 [.tmp 2] (qq Tryz.f46) (argsT S46 L46 g) [] (settle0 K) X:=by kernel_rfl
theorem F46_ok (g:prodL L46) (K X:Kn) (h:F46 g K):FCalls Tryz.prog 46 (argsT S46 L46 g) [] K X:=
 FCalls.settle0 (qz (Γ:=qJ [(88,rw88),(88,Kr)] [(28,false,sp28)]) (mu:=qv [(88,rw88),(88,Kr)]) (H:=H46) (J:=J46) qh (qV (rs:=[(88,rw88),(88,Kr)]) (l:=[(28,false,sp28)]) (by intro p hp;simp only [List.mem_cons,List.not_mem_nil,or_false] at hp;rcases hp with rfl | rfl<;>first | exact rw88_ok | exact rw88n_ok) (by intro p hp;simp only [List.mem_cons,List.not_mem_nil,or_false] at hp;subst hp;exact sp28_ok)) qj rfl Tryz.func46 (c:=qq Tryz.f46) rfl Tryz.ntmps46 Tryz.results46 (by unfold qk;rw [Tryz.func46];kernel_rfl) (Nat.le_of_ble_eq_true (by kernel_rfl)) (c0:=0) (Eq.mp (F46_eq g K X) h))
def H84:List (Nat×Hint):=[(16,⟨[],[(0, .fn 1036016 [] [.pt 0 0]),(2, .leaf),(4, .fn 85 [] [.leaf]),(93, .leaf),(94, .leaf),(95, .leaf)],[.cells [.oa .atm 1], .arr .atm],[.pr .chg, .pr .i64, .sl .str, .int .i64, .int .i64, .sl .atm]⟩),(23,⟨[((8,[]),none)],[(0, .fn 1036016 [] [.pt 0 0]),(2, .leaf),(4, .fn 85 [] [.leaf]),(7, .leaf),(8, .pt 2 0),(117, .leaf),(118, .leaf)],[.cells [.oa .atm 1], .arr .atm, .el],[.pr .chg, .pr .i64, .int .i64, .int .i64, .int .i64, .sl .atm, .el .idk]⟩)]
def J84:List (Nat×Hint):=[(28,⟨[((8,[]),none),((10,[]),none)],[(0, .fn 1036016 [] [.pt 0 0]),(2, .leaf),(4, .fn 85 [] [.leaf]),(7, .leaf),(8, .pt 2 0),(9, .leaf),(10, .pt 3 0),(117, .leaf),(118, .leaf)],[.cells [.oa .atm 1], .arr .atm, .el, .el],[.pr .chg, .pr .i64, .int .i64, .int .i64, .int .i64, .int .i64, .sl .atm, .el .idk, .el .idk]⟩)]
abbrev S84:List Sh:=[.fn 1036016 [] [.pt 0 0], .leaf, .leaf]
abbrev L84:List Lf:=[.pr .i64, .pr .chg, .sl .atm]
abbrev O84:List ObSh:=[.cells [.oa .atm 1], .arr .atm]
def XA (K:Kn) (W12:prodL [.pr .chg, .pr .i64, .int .i64, .int .i64, .int .i64, .sl .atm, .el .idk]->Prop) (t_13:Chg) (id_13 k_13 i_13 t2_13 t3_13:Int) (o1_13:List Atm) (from_13 to_13:Idn):Prop:=
 True/\
        let g14:prodL [.el .atm, .sl .atm]:=((⟨(⟨dz,IntKind.i64.wrap (id_13+(IntKind.i64.wrap (k_13+i_13)))⟩:Idn),6,t_13.file,0,iz,(⟨#[]⟩:ByteArray),0,(⟨#[]⟩:ByteArray),(⟨#[]⟩:ByteArray),from_13,to_13,[]⟩:Atm),o1_13,());
        qP (g14.2.1.length+[g14.1].length) 296 (
        W12 (t_13,id_13,k_13,t2_13,IntKind.i64.wrap (t3_13+1),g14.2.1++[g14.1],to_13,()))
def Zc (K:Kn) (W12:prodL [.pr .chg, .pr .i64, .int .i64, .int .i64, .int .i64, .sl .atm, .el .idk]->Prop) (t_11:Chg) (id_11 k_11 t2_11 t3_11:Int) (o1_11:List Atm) (from_11:Idn):Prop:=
 bif decide (t3_11<t2_11)then (
         bif decide (t3_11<k_11)then (
         True/\
         XA K W12 t_11 id_11 k_11 t3_11 t2_11 t3_11 o1_11 from_11 (⟨dz,IntKind.i64.wrap (id_11+t3_11)⟩:Idn))
        else (
         XA K W12 t_11 id_11 k_11 t3_11 t2_11 t3_11 o1_11 from_11 t_11.before))
        else (
         K (.tu []) [some (.cells [.oa .atm 1 0]),some (.arr 0 .atm o1_11)])
def F84_L12 (K:Kn) (g:prodL [.pr .chg, .pr .i64, .int .i64, .int .i64, .int .i64, .sl .atm, .el .idk]):Prop:=
 qX (γ:=prodL [.pr .chg, .pr .i64, .int .i64, .int .i64, .int .i64, .sl .atm, .el .idk]) (fun V y=>Zc K V y.1 y.2.1 y.2.2.1 y.2.2.2.1 y.2.2.2.2.1 y.2.2.2.2.2.1 y.2.2.2.2.2.2.1) g
def Wb (K:Kn) (W8:prodL [.pr .chg, .pr .i64, .sl .str, .int .i64, .int .i64, .sl .atm]->Prop) (t_7:Chg) (id_7:Int) (t2_7:List ByteArray) (t3_7 t4_7:Int) (o1_7:List Atm):Prop:=
 bif decide (t4_7<t3_7)then (
         At t2_7 t4_7 fun u9=>
        True/\
        let g10:prodL [.el .atm, .sl .atm]:=((⟨(⟨dz,IntKind.i64.wrap (id_7+t4_7)⟩:Idn),5,t_7.file,0,iz,(⟨#[]⟩:ByteArray),0,(⟨#[]⟩:ByteArray),u9,iz,iz,[]⟩:Atm),o1_7,());
        qP (g10.2.1.length+[g10.1].length) 296 (
        W8 (t_7,id_7,t2_7,t3_7,IntKind.i64.wrap (t4_7+1),g10.2.1++[g10.1],())))
        else (
         F84_L12 K (t_7,id_7,(t_7.lines.length:Int),IntKind.i64.wrap ((t_7.lines.length:Int)+1),0,o1_7,t_7.after,()))
def F84_L8 (K:Kn) (g:prodL [.pr .chg, .pr .i64, .sl .str, .int .i64, .int .i64, .sl .atm]):Prop:=
 qX (γ:=prodL [.pr .chg, .pr .i64, .sl .str, .int .i64, .int .i64, .sl .atm]) (fun V y=>Wb K V y.1 y.2.1 y.2.2.1 y.2.2.2.1 y.2.2.2.2.1 y.2.2.2.2.2.1) g
def F84 (g:prodL L84) (K:Kn):Prop:=
 bif decide (g.2.1.kind=1)then (
  True/\
  True/\
  let g1:prodL [.el .atm, .sl .atm]:=((⟨(⟨dz,IntKind.i64.wrap (g.1+0)⟩:Idn),1,(⟨dz,IntKind.i64.wrap (g.1+0)⟩:Idn),g.2.1.typ,iz,(⟨#[]⟩:ByteArray),0,(⟨#[]⟩:ByteArray),(⟨#[]⟩:ByteArray),iz,iz,[]⟩:Atm),g.2.2.1,());
  qP (g1.2.1.length+[g1.1].length) 296 (
  K (.tu []) [some (.cells [.oa .atm 1 0]),some (.arr 0 .atm (g1.2.1++[g1.1]))]))
 else (
  bif decide (g.2.1.kind=2)then (
   True/\
   let g2:prodL [.el .atm, .sl .atm]:=((⟨(⟨dz,IntKind.i64.wrap (g.1+0)⟩:Idn),2,g.2.1.file,0,g.2.1.parent,g.2.1.name,0,(⟨#[]⟩:ByteArray),(⟨#[]⟩:ByteArray),iz,iz,g.2.1.over⟩:Atm),g.2.2.1,());
   qP (g2.2.1.length+[g2.1].length) 296 (
   K (.tu []) [some (.cells [.oa .atm 1 0]),some (.arr 0 .atm (g2.2.1++[g2.1]))]))
  else (
   bif decide (g.2.1.kind=3)then (
    True/\
    let g3:prodL [.el .atm, .sl .atm]:=((⟨(⟨dz,IntKind.i64.wrap (g.1+0)⟩:Idn),3,g.2.1.file,0,iz,(⟨#[]⟩:ByteArray),g.2.1.mode,(⟨#[]⟩:ByteArray),(⟨#[]⟩:ByteArray),iz,iz,g.2.1.over⟩:Atm),g.2.2.1,());
    qP (g3.2.1.length+[g3.1].length) 296 (
    K (.tu []) [some (.cells [.oa .atm 1 0]),some (.arr 0 .atm (g3.2.1++[g3.1]))]))
   else (
    bif decide (g.2.1.kind=4)then (
     True/\
     let g4:prodL [.el .atm, .sl .atm]:=((⟨(⟨dz,IntKind.i64.wrap (g.1+0)⟩:Idn),4,g.2.1.file,0,iz,(⟨#[]⟩:ByteArray),0,g.2.1.data,(⟨#[]⟩:ByteArray),iz,iz,g.2.1.over⟩:Atm),g.2.2.1,());
     qP (g4.2.1.length+[g4.1].length) 296 (
     K (.tu []) [some (.cells [.oa .atm 1 0]),some (.arr 0 .atm (g4.2.1++[g4.1]))]))
    else (
     bif decide (g.2.1.kind=6)then (
      True/\
      let g5:prodL [.el .atm, .sl .atm]:=((⟨(⟨dz,IntKind.i64.wrap (g.1+0)⟩:Idn),6,g.2.1.file,0,iz,(⟨#[]⟩:ByteArray),0,(⟨#[]⟩:ByteArray),(⟨#[]⟩:ByteArray),g.2.1.after,g.2.1.before,g.2.1.over⟩:Atm),g.2.2.1,());
      qP (g5.2.1.length+[g5.1].length) 296 (
      K (.tu []) [some (.cells [.oa .atm 1 0]),some (.arr 0 .atm (g5.2.1++[g5.1]))]))
     else (
      bif decide (g.2.1.kind=7)then (
       True/\
       let g6:prodL [.el .atm, .sl .atm]:=((⟨(⟨dz,IntKind.i64.wrap (g.1+0)⟩:Idn),7,iz,0,iz,(⟨#[]⟩:ByteArray),0,(⟨#[]⟩:ByteArray),(⟨#[]⟩:ByteArray),iz,iz,g.2.1.over⟩:Atm),g.2.2.1,());
       qP (g6.2.1.length+[g6.1].length) 296 (
       K (.tu []) [some (.cells [.oa .atm 1 0]),some (.arr 0 .atm (g6.2.1++[g6.1]))]))
      else (
       bif decide (g.2.1.kind=5)then (
        F84_L8 K (g.2.1,g.1,g.2.1.lines,(g.2.1.lines.length:Int),0,g.2.2.1,()))
       else (
        K (.tu []) [some (.cells [.oa .atm 1 0]),some (.arr 0 .atm g.2.2.1)])))))))
theorem F84_eq (g:prodL L84) (K X:Kn):F84 g K=qW D (qJ [(1036016,vb)] [(85,false,sp85)]) (qv [(1036016,vb)]) H84 J84 144 [] (qq Tryz.f84) (argsT S84 L84 g) (qZ S84 O84 L84 g) (settleD (qZ S84 O84 L84 g).length 0 K) X 0:=by kernel_rfl
theorem F84_ok (g:prodL L84) (K X:Kn) (h:F84 g K):FCalls Tryz.prog 84 (argsT S84 L84 g) (qZ S84 O84 L84 g) K X 0:=
 FCalls.settleD (qz (Γ:=qJ [(1036016,vb)] [(85,false,sp85)]) (mu:=qv [(1036016,vb)]) (H:=H84) (J:=J84) qh (qV (rs:=[(1036016,vb)]) (l:=[(85,false,sp85)]) (by intro p hp;simp only [List.mem_cons,List.not_mem_nil,or_false] at hp;subst hp;exact rw1036016_ok) (by intro p hp;simp only [List.mem_cons,List.not_mem_nil,or_false] at hp;subst hp;exact sp85_ok)) qj rfl Tryz.func84 (c:=qq Tryz.f84) rfl Tryz.ntmps84 (rs:=[]) Tryz.results84 (by unfold qk;rw [Tryz.func84];kernel_rfl) (Nat.le_of_ble_eq_true (by kernel_rfl)) (X:=X) (c0:=0) (Eq.mp (F84_eq g K X) h))
end Go.Proofs.YtbglndogddddoaaGreatDoor
namespace Go.Proofs.YtbglndogddddoaaGreatDoor
open Go.RowKit
set_option maxRecDepth 100000
theorem w40 {n:Int} (h:0<=n/\n<=4398046511104):IntKind.i64.wrap n=n:=jW (by omega) (by omega)
abbrev KR (K:Kn):List Rfn->Prop:=fun l=>K (.sl false .ref l) []
theorem W0 {c:Chg} {out:List Rfn} {K:Kn} (hl:c.over.length<=4194304) (ho:out.length<=16) (h:KR K (out++ZJ c)):XR K c out:=by
 unfold XR F46_L20
 refine qX.map c.over (fun x=>(⟨x,Fd.sup c⟩:Rfn)) (fun n o=>(c,c.over,(c.over.length:Int),n,out++o,())) (by omega) (by rw [List.append_nil]) (fun W n hn o hlen hW=> ?_) fun W=> ?_
 . show Z8 K W c c.over c.over.length n (out++o)
   unfold Z8
   rw [zq hn,cond_true]
   refine zX hn ?_
   rw [<- List.append_assoc] at hW
   exact ⟨by simp only [List.length_singleton,List.length_append,hlen];omega,hW⟩
 . show Z8 K W c c.over c.over.length c.over.length (out++c.over.map fun x=>(⟨x,Fd.sup c⟩:Rfn))
   unfold Z8
   rw [qG,cond_false];exact h
theorem F46_J17_is {c:Chg} {t:Bool} {out:List Rfn} {K:Kn} (hl:c.over.length<=4194304) (ho:out.length<=8) (h:KR K (rL17 c t out)):Zs K c t out:=by
 unfold Zs
 unfold rL17 at h
 cases t
 . exact W0 hl (by omega) h
 . refine ⟨by simp only [List.length_singleton];omega,by simp only [List.length_singleton,List.length_append];omega,W0 hl (by simp only [List.length_singleton,List.length_append];omega) h⟩
theorem Yj {c:Chg} {out:List Rfn} {K:Kn} (hl:c.over.length<=4194304) (ho:out.length<=8) (h:KR K (rL24 c out)):F46_J24 K c out:=
 QM (J:=fun b=>Zs K c b out) (f:=fun b=>rL17 c b out) (K:=KR K) (fun _ h=>F46_J17_is hl ho h) h
theorem VA {c:Chg} {t:Bool} {out:List Rfn} {K:Kn} (hl:c.over.length<=4194304) (ho:out.length<=4) (h:KR K (rL12 c t out)):XB K c t out:=by
 unfold XB
 unfold rL12 at h
 cases t
 . exact Yj hl (by omega) h
 . exact ⟨by simp only [List.length_singleton];omega,Yj hl (by simp only [List.length_singleton,List.length_append];omega) h⟩
theorem yY {c:Chg} {out:List Rfn} {K:Kn} (hl:c.over.length<=4194304) (ho:out.length<=4) (h:KR K (rL25 c out)):kI K c out:=by
 unfold kI
 unfold rL25 at h
 cases e:decide (c.kind=2)
 . rw [e] at h;exact VA hl ho h
 . rw [e] at h;exact ⟨trivial,VA hl ho h⟩
theorem F46_J7_is {c:Chg} {t:Bool} {K:Kn} (hl:c.over.length<=4194304) (h:KR K (rL7 c t)):V2 K c t:=by
 unfold V2
 unfold rL7 at h
 cases t
 . exact yY hl (Nat.le_of_ble_eq_true rfl) h
 . exact ⟨Nat.le_of_ble_eq_true rfl,yY hl (Nat.le_of_ble_eq_true rfl) h⟩
theorem F46_J8_is {c:Chg} {k:Int} {t:Bool} {K:Kn} (hl:c.over.length<=4194304) (h:KR K (rL8 c k t)):Vn K c k t:=by
 unfold Vn
 unfold rL8 at h
 cases t
 . rw [cond_false] at h ⊢
   cases e:decide (k=4)
   . rw [e] at h
     exact QM (J:=fun b=>V2 K c b) (f:=fun b=>rL7 c b) (K:=KR K) (fun _ h=>F46_J7_is hl h) h
   . rw [e] at h
     exact ⟨Nat.le_of_ble_eq_true rfl,yY hl (Nat.le_of_ble_eq_true rfl) h⟩
 . exact ⟨Nat.le_of_ble_eq_true rfl,yY hl (Nat.le_of_ble_eq_true rfl) h⟩
theorem F46_is {c:Chg} {K:Kn} (hl:c.over.length<=4194304) (h:KR K (z7 c)):F46 (c,()) K:=
 QM (J:=fun b=>Vn K c c.kind b) (f:=fun b=>rL8 c c.kind b) (K:=KR K) (fun _ h=>F46_J8_is hl h) h
def sp46:Sp:=⟨S46,L46,fun g=>g.1.over.length<=4194304,fun g=> .sl false .ref (z7 g.1),fun _=>none⟩
theorem sp46_ok:sp46.Ok Tryz.prog 46 false:=
 ⟨fun g K X hp h=>F46_ok g K X (F46_is hp h),fun _ _ _=>rfl,fun _=>rfl,fun h=>(by cases h)⟩
abbrev KA (K:Kn):List Atm->Prop:=fun l=>K (.tu []) [some (.cells [.oa .atm 1 0]),some (.arr 0 .atm l)]
def frS (c:Chg) (n:Int):Nat->Idn
 | 0=>c.after
 | i+1=>tilI c n i
theorem frS_frm {c:Chg} {n:Int} {i:Nat} (h:i<=c.lines.length):frS c n i=frmI c n i:=by
 cases i with
 | zero=>rfl
 | succ i=>
  show tilI c n i=Jk (n+i)
  unfold tilI
  rw [decide_eq_true (by omega),cond_true]
theorem lnI_at {c:Chg} {n:Int} {i:Nat} (h:i<c.lines.length):lnI c n i=lnA c (n+i) c.lines[i]:=by
 unfold lnI
 rw [List.getD_eq_getElem?_getD,jS h];rfl
theorem leI {n m:Nat}:decide ((n:Int) < (m:Int))=decide (n<m):=by rw [decide_eq_decide];omega
theorem F84_L8_is {c:Chg} {n:Int} {own:List Atm} {K:Kn} (hp:preM c n) (hl:own.length<=16777216) (h:KA K (own++(lnsL c n++egsL c n))):F84_L8 K (c,n,c.lines,(c.lines.length:Int),0,own,()):=by
 obtain ⟨hk,h1,h2,h3⟩:=hp
 unfold F84_L8
 refine qX.mapN c.lines.length (lnI c n) (fun i out=>(c,n,c.lines,(c.lines.length:Int),(i:Int),own++out,())) (by rw [List.append_nil];rfl) (fun W i hi out ho hW=> ?_) fun W=> ?_
 . show Wb K W c n c.lines c.lines.length i (own++out)
   unfold Wb
   rw [zq hi,cond_true]
   refine zX hi ⟨trivial,by simp only [List.length_singleton,List.length_append,ho];omega, ?_⟩
   rw [<- List.append_assoc,lnI_at hi] at hW
   rw [jw hi (by omega),w40 (by omega)]
   exact hW
 . show Wb K W c n c.lines c.lines.length c.lines.length (own++lnsL c n)
   unfold Wb
   rw [qG,cond_false]
   unfold F84_L12
   have hlen:(own++lnsL c n).length<=33554432:=by simp only [List.length_append,lnsL,List.length_map,List.length_range];omega
   rw [<- List.append_assoc] at h
   generalize own++lnsL c n=l at hlen h
   refine qX.mapN (c.lines.length+1) (egI c n) (fun i out=>(c,n,(c.lines.length:Int),((c.lines.length+1:Nat):Int),(i:Int),l++out,frS c n i,())) (by rw [List.append_nil,w64 (by omega)];rfl) (fun W i hi out ho hW=> ?_) fun W=> ?_
   . show Zc K W c n c.lines.length ((c.lines.length+1:Nat):Int) i (l++out) (frS c n i)
     unfold Zc
     rw [zq hi,cond_true,leI]
     have hJ:XA K W c n c.lines.length i ((c.lines.length+1:Nat):Int) i (l++out) (frS c n i) (tilI c n i):=by
      unfold XA
      refine ⟨trivial,by simp only [List.length_singleton,List.length_append,ho];omega, ?_⟩
      rw [<- List.append_assoc] at hW
      rw [jw hi (by omega),w40 (n:=(c.lines.length:Int)+(i:Int)) (by omega),w40 (by omega)]
      have e:egI c n i=⟨⟨dz,n+((c.lines.length:Int)+(i:Int))⟩,6,c.file,0,iz,⟨#[]⟩,0,⟨#[]⟩,⟨#[]⟩,frS c n i,tilI c n i,[]⟩:=by
       rw [frS_frm (by omega), <- Int.add_assoc];rfl
      rw [e] at hW
      exact hW
     unfold tilI at hJ
     by_cases hlt:i<c.lines.length
     . rw [decide_eq_true hlt] at hJ ⊢
       rw [cond_true,w40 (n:=n+(i:Int)) (by omega)]
       exact ⟨trivial,hJ⟩
     . rw [decide_eq_false hlt] at hJ ⊢
       exact hJ
   . show Zc K W c n c.lines.length ((c.lines.length+1:Nat):Int) ((c.lines.length+1:Nat):Int) (l++egsL c n) (frS c n (c.lines.length+1))
     unfold Zc
     rw [qG,cond_false]
     exact h
theorem F84_is {c:Chg} {n:Int} {own:List Atm} {K:Kn} (hp:preM c n) (hl:own.length<=16777216) (h:KA K (own++yE c n)):F84 (n,c,own,()) K:=by
 have hp':=hp
 obtain ⟨hk,h1,h2,h3⟩:=hp'
 have hz:IntKind.i64.wrap (n+0)=n:=by rw [Int.add_zero,w40 (by omega)]
 have hr:(own.length+1)*296<=140737488355328:=by omega
 unfold F84
 dsimp only
 simp only [hz]
 obtain ⟨kind,file,typ,parent,name,mode,data,after,before,lines,over⟩:=c
 have hk1:(1:Int)<=kind/\kind<=7:=hk
 have:kind=1∨kind=2∨kind=3∨kind=4∨kind=5∨kind=6∨kind=7:=by omega
 rcases this with rfl | rfl | rfl | rfl | rfl | rfl | rfl
 . exact ⟨trivial,trivial,hr,h⟩
 . show True/\qP _ _ _
   exact ⟨trivial,hr,h⟩
 . show True/\qP _ _ _
   exact ⟨trivial,hr,h⟩
 . show True/\qP _ _ _
   exact ⟨trivial,hr,h⟩
 . exact F84_L8_is hp hl h
 . show True/\qP _ _ _
   exact ⟨trivial,hr,h⟩
 . show True/\qP _ _ _
   exact ⟨trivial,hr,h⟩
def rw84:Raw:=⟨S84,O84,L84,0,fun g K _=>pre84 g/\K (.tu []) [some (.cells [.oa .atm 1 0]),some (.arr 0 .atm (g.2.2.1++yE g.2.1 g.1))]⟩
theorem rw84_ok:rw84.Ok Tryz.prog 84:=fun g K X h=>F84_ok g K X (F84_is h.1.1 h.1.2 h.2)
end Go.Proofs.YtbglndogddddoaaGreatDoor
namespace Go.Proofs.YtbglndogddddoaaGreatDoor
open Go.RowKit
attribute [local irreducible] qW qb
set_option maxRecDepth 100000
def H69:List (Nat×Hint):=[(2,⟨[((2,[]),none)],[(1, .leaf),(2, .pt 0 0),(8, .leaf),(9, .leaf),(10, .leaf)],[.el],[.sl .atm, .sl .ref, .int .i64, .int .i64, .el .chg]⟩)]
def J69:List (Nat×Hint):=[(6,⟨[((2,[]),none),((6,[]),none)],[(1, .leaf),(2, .pt 0 0),(6, .pt 1 0),(8, .leaf),(9, .leaf),(10, .leaf),(14, .leaf)],[.el, .el],[.sl .atm, .sl .ref, .int .i64, .int .i64, .bool, .el .chg, .el .ref]⟩),(7,⟨[((2,[]),none),((6,[]),none)],[(1, .leaf),(2, .pt 0 0),(6, .pt 1 0),(8, .leaf),(9, .leaf),(10, .leaf),(14, .leaf)],[.el, .el],[.sl .atm, .sl .ref, .int .i64, .int .i64, .bool, .el .chg, .el .ref]⟩),(9,⟨[((2,[]),none)],[(1, .leaf),(2, .pt 0 0),(8, .leaf),(9, .leaf),(10, .leaf),(34, .leaf)],[.el],[.sl .atm, .sl .ref, .int .i64, .int .i64, .bool, .el .chg]⟩),(12,⟨[((2,[]),none)],[(2, .pt 0 0),(51, .leaf)],[.el],[.bool, .el .chg]⟩),(14,⟨[((2,[]),none)],[(2, .pt 0 0),(62, .leaf)],[.el],[.bool, .el .chg]⟩),(15,⟨[],[(62, .leaf)],[],[.bool]⟩)]
abbrev S69:List Sh:=[.leaf, .leaf]
abbrev L69:List Lf:=[.el .chg, .sl .atm]
def vk (K:Kn) (W2:prodL [.sl .atm, .sl .ref, .int .i64, .int .i64, .el .chg]->Prop) (atoms_10:List Atm) (t_10:List Rfn) (t2_10 t3_10:Int) (t4_10:Bool) (c_10:Chg):Prop:=
 bif t4_10 then (
   K (.int .i64 8) [])
  else (
   W2 (atoms_10,t_10,t2_10,IntKind.i64.wrap (t3_10+1),c_10,()))
def Zd (K:Kn) (W2:prodL [.sl .atm, .sl .ref, .int .i64, .int .i64, .el .chg]->Prop) (atoms_6:List Atm) (t_6:List Rfn) (t2_6 t3_6:Int) (t4_6:Bool) (c_6:Chg) (r_6:Rfn):Prop:=
 bif t4_6 then (
  K (.int .i64 7) [])
 else (
  True/\
  bif Qt r_6.id then (
   At atoms_6 r_6.id.n fun u7=>
   fdGo r_6.fits (
    True/\
    vk K W2 atoms_6 t_6 t2_6 t3_6 (!(decide (u7.kind=1))) c_6)
   (
    True/\
    vk K W2 atoms_6 t_6 t2_6 t3_6 (!(fitDa u7)) c_6)
   (
    True/\
    vk K W2 atoms_6 t_6 t2_6 t3_6 (!(fitTx u7)) c_6)
   (
    True/\
    vk K W2 atoms_6 t_6 t2_6 t3_6 (!(fitDi u7)) c_6)
   (fun c8=>
    True/\
    vk K W2 atoms_6 t_6 t2_6 t3_6 (!(fitEn u7 c8)) c_6)
   (fun c9=>
    True/\
    vk K W2 atoms_6 t_6 t2_6 t3_6 (!(fitSu u7 c9)) c_6))
  else (
   vk K W2 atoms_6 t_6 t2_6 t3_6 false c_6))
def qqw (K:Kn) (W2:prodL [.sl .atm, .sl .ref, .int .i64, .int .i64, .el .chg]->Prop) (atoms_4:List Atm) (t_4:List Rfn) (t2_4 t3_4:Int) (t4_4:Bool) (c_4:Chg) (r_4:Rfn):Prop:=
 bif t4_4 then (
   Zd K W2 atoms_4 t_4 t2_4 t3_4 true c_4 r_4)
  else (
   Zd K W2 atoms_4 t_4 t2_4 t3_4 (decide (100000<=r_4.id.n)) c_4 r_4)
def ym (K:Kn) (t_16:Bool):Prop:=
 bif t_16 then (
   K (.int .i64 1) [])
  else (
   K (.int .i64 0) [])
def ZG (K:Kn) (t_14:Bool) (c_14:Chg):Prop:=
 bif t_14 then (
   ym K true)
  else (
   bif decide (c_14.kind=5)then (
    bif zw c_14.after c_14.before then (
     ym K (!(zw c_14.after c_14.file)))
    else (
     ym K false))
   else (
    ym K false))
def yb (K:Kn) (t_13:Bool) (c_13:Chg):Prop:=
 bif t_13 then (
  K (.int .i64 20) [])
 else (
  bif decide (c_13.kind=6)then (
   ZG K (zw c_13.after c_13.before) c_13)
  else (
   ZG K false c_13))
def We (K:Kn) (W2:prodL [.sl .atm, .sl .ref, .int .i64, .int .i64, .el .chg]->Prop) (atoms_1:List Atm) (t_1:List Rfn) (t2_1 t3_1:Int) (c_1:Chg):Prop:=
 bif decide (t3_1<t2_1)then (
  At t_1 t3_1 fun u3=>
 bif decide (u3.id.n<0)then (
  Zd K W2 atoms_1 t_1 t2_1 t3_1 true c_1 u3)
 else (
  True/\
  bif Qt u3.id then (
   qqw K W2 atoms_1 t_1 t2_1 t3_1 (decide ((atoms_1.length:Int)<=u3.id.n)) c_1 u3)
  else (
   qqw K W2 atoms_1 t_1 t2_1 t3_1 false c_1 u3)))
 else (
  bif decide (c_1.kind=2)then (
  yb K (zw c_1.parent c_1.file) c_1)
 else (
  yb K false c_1))
def F69_L2 (K:Kn) (g:prodL [.sl .atm, .sl .ref, .int .i64, .int .i64, .el .chg]):Prop:=
 qX (γ:=prodL [.sl .atm, .sl .ref, .int .i64, .int .i64, .el .chg]) (fun V y=>We K V y.1 y.2.1 y.2.2.1 y.2.2.2.1 y.2.2.2.2.1) g
def F69 (g:prodL L69) (K:Kn):Prop:=
 sp46.pre (g.1,())/\
 F69_L2 K (g.2.1,z7 g.1,(((z7 g.1).length:Nat):Int),0,g.1,())
theorem F69_eq (g:prodL L69) (K X:Kn):F69 g K=qW D (qJ [] [(46,false,sp46),(47,true,sp47),(89,false,sp89),(90,true,sp90),(91,true,sp91),(92,true,sp92),(93,true,sp93),(94,true,sp94)]) (qv []) H69 J69 90 [.tmp 4] (qq Tryz.f69) (argsT S69 L69 g) [] (settle0 K) X:=by kernel_rfl
theorem F69_ok (g:prodL L69) (K X:Kn) (h:F69 g K):FCalls Tryz.prog 69 (argsT S69 L69 g) [] K X:=
 FCalls.settle0 (qz qh (vN (vV sp46_ok (vV sp47_ok (vV sp89_ok (vV sp90_ok (vV sp91_ok (vV sp92_ok (vV sp93_ok (vV sp94_ok vC))))))))) qj rfl Tryz.func69 (c:=qq Tryz.f69) rfl Tryz.ntmps69 Tryz.results69 (by unfold qk;rw [Tryz.func69];kernel_rfl) (Nat.le_of_ble_eq_true (by kernel_rfl)) (c0:=0) (Eq.mp (F69_eq g K X) h))
end Go.Proofs.YtbglndogddddoaaGreatDoor
namespace Go.Proofs.YtbglndogddddoaaGreatDoor
open Go.RowKit
set_option maxRecDepth 100000
def kA (own:List Atm) (b:Bool) (r:Rfn):Int:=bif b then 7 else bif (bif Qt r.id then !(fitFd r.fits (own.getD r.id.n.toNat az))else false)then 8 else 0
theorem Q3 {K:Kn} {W:prodL [.sl .atm, .sl .ref, .int .i64, .int .i64, .el .chg]->Prop} {own:List Atm} {l:List Rfn} {m n:Int} {b:Bool} {c:Chg} {r:Rfn}
  (hb:b=false->Qt r.id=true->0<=r.id.n/\r.id.n< (own.length:Int)) (h0:kA own b r=0->W (own,l,m,IntKind.i64.wrap (n+1),c,())) (h1:kA own b r≠0->KI K (kA own b r)):Zd K W own l m n b c r:=by
 unfold Zd
 cases b
 rotate_left
 . exact h1 (show (7:Int)≠0 by decide)
 refine ⟨trivial, ?_⟩
 have hJ: ∀t:Bool,((bif t then (8:Int)else 0)=0->W (own,l,m,IntKind.i64.wrap (n+1),c,()))->((bif t then (8:Int)else 0)≠0->KI K (bif t then 8 else 0))->vk K W own l m n t c:=by
  intro t h0 h1
  unfold vk
  cases t
  . exact h0 rfl
  . exact h1 (show (8:Int)≠0 by decide)
 unfold kA at h0 h1
 rw [cond_false] at h0 h1
 cases e:Qt r.id
 . rw [e] at h0 h1
   exact hJ false h0 h1
 . rw [e] at h0 h1
   rw [cond_true] at h0 h1 ⊢
   obtain ⟨n0,n1⟩:=hb rfl e
   have hn:r.id.n.toNat<own.length:=by omega
   rw [List.getD_eq_getElem?_getD,jS hn] at h0 h1
   refine ⟨n0,own[r.id.n.toNat],jS hn, ?_⟩
   obtain ⟨id,fits⟩:=r
   cases fits with
   | file=>exact ⟨trivial,hJ _ h0 h1⟩
   | data=>exact ⟨trivial,hJ _ h0 h1⟩
   | txt=>exact ⟨trivial,hJ _ h0 h1⟩
   | dir=>exact ⟨trivial,hJ _ h0 h1⟩
   | fin c=>exact ⟨trivial,hJ _ h0 h1⟩
   | sup c=>exact ⟨trivial,hJ _ h0 h1⟩
theorem F69_J18_is {c:Chg} {K:Kn} (h:KI K (lastP c)):(bif decide (c.kind=2)then yb K (zw c.parent c.file) c else yb K false c):=by
 have h17: ∀b:Bool,KI K (bif b then 1 else 0)->ym K b:=fun b=>by unfold ym;exact xj (K:=KI K) id id
 have h15: ∀b,KI K (XP b c)->ZG K b c:=by
  intro b h
  unfold ZG
  unfold XP at h
  cases b
  rotate_left
  . exact h17 true h
  rw [cond_false] at h ⊢
  cases e1:decide (c.kind=5)
  . rw [e1] at h;exact h17 false h
  . rw [e1] at h
    exact QM (J:=ym K) (f:=fun b:Bool=>bif b then (1:Int)else 0) (K:=KI K) h17 h
 have h18: ∀b,KI K (Xp b c)->yb K b c:=by
  intro b h
  unfold yb
  unfold Xp at h
  cases b
  rotate_left
  . exact h
  exact QM (J:=fun b=>ZG K b c) (f:=fun b=>XP b c) (K:=KI K) h15 h
 exact QM (J:=fun b=>yb K b c) (f:=fun b=>Xp b c) (K:=KI K) h18 h
theorem refsC_len {c:Chg} (hl:c.over.length<=4194304):(z7 c).length<=4194400:=by
 have hs:(ZJ c).length=c.over.length:=by simp [ZJ]
 have h17: ∀t out,(rL17 c t out).length<=out.length+2+c.over.length:=fun t out=>by
  unfold rL17;cases t<;>simp only [cond_true,cond_false,List.length_append,hs,List.length_singleton]<;>omega
 have h12: ∀t out,(rL12 c t out).length<=out.length+3+c.over.length:=fun t out=>by
  unfold rL12;cases t
  . have:=h17 (bif decide (c.kind=5)then true else decide (c.kind=6)) out;simp only [cond_false,rL24];omega
  . have:=h17 (bif decide (c.kind=5)then true else decide (c.kind=6)) (out++[⟨c.parent,Fd.dir⟩]);simp only [cond_true,rL24,List.length_append,List.length_singleton] at this ⊢;omega
 have h25: ∀out,(rL25 c out).length<=out.length+3+c.over.length:=fun out=>h12 _ _
 have h7: ∀t,(rL7 c t).length<=4+c.over.length:=fun t=>by
  unfold rL7;cases t
  . have:=h25 [];simp only [cond_false,List.length_nil] at this ⊢;omega
  . have:=h25 [⟨c.file,Fd.txt⟩];simp only [cond_true,List.length_singleton] at this ⊢;omega
 have h8: ∀k t,(rL8 c k t).length<=4+c.over.length:=fun k t=>by
  unfold rL8;cases t
  . rw [cond_false]
    cases decide (k=4)
    . exact h7 _
    . have:=h25 [⟨c.file,Fd.data⟩];simp only [cond_true,List.length_singleton] at this ⊢;omega
  . have:=h25 [⟨c.file,Fd.file⟩];simp only [cond_true,List.length_singleton] at this ⊢;omega
 have:=h8 c.kind (bif decide (c.kind=2)then true else decide (c.kind=3))
 unfold z7
 omega
theorem F69_is {c:Chg} {own:List Atm} {K:Kn} (hl:c.over.length<=4194304) (h:KI K (y7 c own)):F69 (c,own,()) K:=by
 unfold F69
 refine ⟨hl, ?_⟩
 have hN:=refsC_len hl
 unfold F69_L2
 unfold y7 at h
 have hlen:((z7 c).map (YW own)).length=(z7 c).length:=by simp
 refine qX.errs ((z7 c).map (YW own)) (fun n=>(own,z7 c,(((z7 c).length:Nat):Int),(n:Int),c,())) (fun e=>KI K (bif !decide (e=0)then e else lastP c)) h rfl (fun W n hn h0 h1=> ?_) fun h W=> ?_
 . rw [hlen] at hn
   show We K W own (z7 c) (z7 c).length n c
   unfold We
   rw [zq hn,cond_true]
   refine zX hn ?_
   simp only [List.getElem_map] at h0 h1
   generalize (z7 c)[n]=r at h0 h1 ⊢
   rw [<- jw hn (by omega)] at h0
   have h1:YW own r≠0->KI K (YW own r):=fun z=>by
    have:=h1 z
    rw [decide_eq_false z] at this;exact this
   unfold YW at h0 h1
   cases e1:decide (r.id.n<0)
   . rw [e1] at h0 h1
     rw [cond_false] at h0 h1 ⊢
     have hn0:0<=r.id.n:=by have:=of_decide_eq_false e1;omega
     refine ⟨trivial, ?_⟩
     have h5: ∀b,(b=false->Qt r.id=true->r.id.n< (own.length:Int))->(kA own (bif b then true else decide (100000<=r.id.n)) r=0->W (own,z7 c,(((z7 c).length:Nat):Int),IntKind.i64.wrap ((n:Int)+1),c,()))->(kA own (bif b then true else decide (100000<=r.id.n)) r≠0->KI K (kA own (bif b then true else decide (100000<=r.id.n)) r))->qqw K W own (z7 c) (((z7 c).length:Nat):Int) n b c r:=by
      intro b hb h0 h1
      unfold qqw
      cases b
      . exact Q3 (fun _ e=>⟨hn0,hb rfl e⟩) h0 h1
      . exact Q3 (fun e=>by cases e) h0 h1
     cases e2:Qt r.id
     . rw [e2] at h0 h1
       refine h5 false (fun _ e=>by rw [e2] at e;cases e) ?_ ?_
       . unfold kA;rw [e2];exact h0
       . unfold kA;rw [e2];exact h1
     . rw [e2] at h0 h1
       refine h5 _ (fun e _=>by have:=of_decide_eq_false e;omega) ?_ ?_
       . unfold kA;rw [e2];exact h0
       . unfold kA;rw [e2];exact h1
   . rw [e1] at h0 h1
     exact Q3 (fun e=>by cases e) h0 h1
 . rw [hlen]
   show We K W own (z7 c) (z7 c).length (z7 c).length c
   unfold We
   rw [qG,cond_false]
   exact F69_J18_is h
def sp69:Sp:=⟨S69,L69,fun g=>g.1.over.length<=4194304,fun g=> .int .i64 (y7 g.1 g.2.1),fun _=>none⟩
theorem sp69_ok:sp69.Ok Tryz.prog 69 true:=
 ⟨fun g K X hp h=>F69_ok g K X (F69_is hp h),fun _ _ _=>rfl,fun _=>rfl,fun _ _=>⟨rfl,rfl⟩⟩
end Go.Proofs.YtbglndogddddoaaGreatDoor
namespace Go.Proofs.YtbglndogddddoaaGreatDoor
open Go.RowKit
attribute [local irreducible] qW qb
set_option maxRecDepth 100000
def H36:List (Nat×Hint):=[(6,⟨[((1,[]),none),((6,[]),none),((6,[0]),some .atm)],[(1, .pt 0 0),(6, .pt 1 0),(20, .leaf),(21, .leaf),(22, .leaf)],[.cells [.leaf, .leaf, .leaf, .leaf, .leaf], .cells [.oa .atm 2], .arr .atm],[.sl .chg, .int .i64, .int .i64, .str, .str, .int .i64, .sl .dig, .sl .chg, .sl .atm]⟩)]
def J36:List (Nat×Hint):=[(20,⟨[((6,[]),none),((6,[0]),none)],[(6, .pt 0 0),(12, .leaf),(58, .leaf)],[.cells [.oa .atm 1], .arr .atm],[.str, .bool, .sl .atm]⟩)]
abbrev S36:List Sh:=[.ag [.leaf, .leaf, .leaf, .leaf, .leaf]]
abbrev L36:List Lf:=[.str, .str, .int .i64, .sl .dig, .sl .chg]
abbrev O36:List ObSh:=[]
def WG (K:Kn) (s_4:ByteArray) (t_4:Bool) (atoms_4:List Atm):Prop:=
 bif t_4 then (
  K (.tu [.nil, .str (⟨#[]⟩:ByteArray), .int .i64 4]) [])
 else (
  K (.tu [.oa .atm 0 0, .str s_4, .int .i64 0]) [some (.arr 0 .atm atoms_4)])
def V0 (K:Kn) (W2:prodL [.sl .chg, .int .i64, .int .i64, .str, .str, .int .i64, .sl .dig, .sl .chg, .sl .atm]->Prop) (t_1:List Chg) (t2_1 t3_1:Int) (p1_1 p2_1:ByteArray) (p3_1:Int) (p4_1:List Dig) (p5_1:List Chg) (atoms_1:List Atm):Prop:=
 bif decide (t3_1<t2_1)then (
  At t_1 t3_1 fun u3=>
 sp68.pre (u3,())/\
 bif !decide (zM u3=0)then (
  K (.tu [.nil, .str (⟨#[]⟩:ByteArray), .int .i64 (zM u3)]) [])
 else (
  sp69.pre (u3,atoms_1,())/\
 bif !decide (y7 u3 atoms_1=0)then (
  K (.tu [.nil, .str (⟨#[]⟩:ByteArray), .int .i64 (y7 u3 atoms_1)]) [])
 else (
  True/\
 pre84 ((atoms_1.length:Int),u3,atoms_1,())/\
 W2 (t_1,t2_1,IntKind.i64.wrap (t3_1+1),p1_1,p2_1,p3_1,p4_1,p5_1,atoms_1++yE u3 (atoms_1.length:Int),()))))
 else (
  sp70.pre (p1_1,p2_1,p3_1,p4_1,p5_1,())/\
 bif !decide ((wB (zR p1_1 p2_1 p3_1 (zk p4_1) p5_1)).2=0)then (
  WG K ((wB (zR p1_1 p2_1 p3_1 (zk p4_1) p5_1)).1) true atoms_1)
 else (
  WG K ((wB (zR p1_1 p2_1 p3_1 (zk p4_1) p5_1)).1) (decide (65536< (((wB (zR p1_1 p2_1 p3_1 (zk p4_1) p5_1)).1).size:Int))) atoms_1))
def F36_L2 (K:Kn) (g:prodL [.sl .chg, .int .i64, .int .i64, .str, .str, .int .i64, .sl .dig, .sl .chg, .sl .atm]):Prop:=
 qX (γ:=prodL [.sl .chg, .int .i64, .int .i64, .str, .str, .int .i64, .sl .dig, .sl .chg, .sl .atm]) (fun V y=>V0 K V y.1 y.2.1 y.2.2.1 y.2.2.2.1 y.2.2.2.2.1 y.2.2.2.2.2.1 y.2.2.2.2.2.2.1 y.2.2.2.2.2.2.2.1 y.2.2.2.2.2.2.2.2.1) g
def F36 (g:prodL L36) (K:Kn):Prop:=
 sp67.pre (g.1,g.2.1,g.2.2.1,g.2.2.2.1,g.2.2.2.2.1,())/\
 bif !decide (xF jq g.1 g.2.1 g.2.2.1 g.2.2.2.1 g.2.2.2.2.1=0)then (
  K (.tu [.nil, .str (⟨#[]⟩:ByteArray), .int .i64 (xF jq g.1 g.2.1 g.2.2.1 g.2.2.2.1 g.2.2.2.2.1)]) [])
 else (
  F36_L2 K (g.2.2.2.2.1,(g.2.2.2.2.1.length:Int),0,g.1,g.2.1,g.2.2.1,g.2.2.2.1,g.2.2.2.2.1,[],()))
theorem F36_eq (g:prodL L36) (K X:Kn):F36 g K=qW D (qJ [(84,rw84)] [(43,false,sp43),(67,true,sp67),(68,true,sp68),(69,true,sp69),(70,true,sp70)]) (qv [(84,rw84)]) H36 J36 61 [.tmp 2, .tmp 3, .tmp 4] (qq Tryz.f36) (argsT S36 L36 g) (qZ S36 O36 L36 g) (settleD (qZ S36 O36 L36 g).length 0 K) X 0 1036000:=by kernel_rfl
theorem F36_ok (g:prodL L36) (K X:Kn) (h:F36 g K):FCalls Tryz.prog 36 (argsT S36 L36 g) (qZ S36 O36 L36 g) K X 0:=
 FCalls.settleD (qz (Γ:=qJ [(84,rw84)] [(43,false,sp43),(67,true,sp67),(68,true,sp68),(69,true,sp69),(70,true,sp70)]) (mu:=qv [(84,rw84)]) (H:=H36) (J:=J36) qh (qV (rs:=[(84,rw84)]) (l:=[(43,false,sp43),(67,true,sp67),(68,true,sp68),(69,true,sp69),(70,true,sp70)]) (by intro p hp;simp only [List.mem_cons,List.not_mem_nil,or_false] at hp;subst hp;exact rw84_ok) (by intro p hp;simp only [List.mem_cons,List.not_mem_nil,or_false] at hp;rcases hp with rfl | rfl | rfl | rfl | rfl<;>first | exact sp43_ok | exact sp67_ok | exact sp68_ok | exact sp69_ok | exact sp70_ok)) qj rfl Tryz.func36 (c:=qq Tryz.f36) rfl Tryz.ntmps36 (rs:=[.tmp 2, .tmp 3, .tmp 4]) Tryz.results36 (by unfold qk;rw [Tryz.func36];kernel_rfl) (Nat.le_of_ble_eq_true (by kernel_rfl)) (X:=X) (c0:=0) (Eq.mp (F36_eq g K X) h) (Xj [16] (by kernel_rfl) (by kernel_rfl)))
end Go.Proofs.YtbglndogddddoaaGreatDoor
namespace Go.Proofs.YtbglndogddddoaaGreatDoor
open Go.RowKit
set_option maxRecDepth 100000
def virtU (e0:El) (K:Kn):Kn:=fun r s=>match r with
 | .tu (.nil::us)=>K (.tu (.oa e0 s.length 0::us)) (jc s e0)
 | r=>K r s
theorem FCalls.virtU {P:Program} {f:FuncId} {vs:List T} {K X:Kn} {e0:El} (h:FCalls P f vs [] (virtU e0 K) X):FCalls P f vs [] K X:=by
 refine fun g w hg=>(h g w hg).mono fun e w' ⟨g',st',h1,h2,h3⟩=> ?_
 cases e with
 | returned x=>
  obtain ⟨r,r1,r2⟩:=h3
  unfold Go.Proofs.YtbglndogddddoaaGreatDoor.virtU at r1
  split at r1
  . rename_i us
    obtain ⟨g2,k1,k2,k3,k4⟩:=JE h1 e0
    refine ⟨g2,_,k1,h2.trans (k3 _),_,r1, ?_⟩
    cases r2 with
    | tu _ xs a1 a2=>
     refine .tu _ xs (by simpa using a1) fun i c x hc hx=> ?_
     cases i with
     | zero=>
      simp only [List.getElem?_cons_zero,Option.some.injEq] at hc
      subst hc
      exact k4 _ (a2 0 .nil x rfl hx)
     | succ i=>exact (a2 (i+1) c x hc hx).mono k2
  . exact ⟨g',st',h1,h2,_,r1,r2⟩
 | panicked ch=>exact ⟨g',st',h1,h2,h3⟩
 | outgrown=>exact h3.elim
theorem wkK_nilT {K:Kn} {e:El} {v:T} {s:St} (h:K (.tu [.sl false e [],v]) s):xp K (.tu [.nil,v]) s:=
 ⟨_,za.tu (qt.cons (za.nil e) (qt.cons (za.refl _) qt.nil)),h⟩
def Qc (cs:List Chg) (n:Nat):List Atm:=(cs.take n).foldl (fun own c=>own++yE c own.length) []
theorem Qn {cs:List Chg} {n:Nat} (h:n<cs.length):Qc cs (n+1)=Qc cs n++yE cs[n] (Qc cs n).length:=by
 unfold Qc
 rw [jm h,List.foldl_append];rfl
theorem qX.chgs {γ:Type} {body:(γ->Prop)->γ->Prop} {g:γ} (f:Chg->Int) (r:Chg->List Atm->Int) (cs:List Chg) (S:Nat->List Atm->γ) (Q:List Atm×Int->Prop) (hQ:Q (wq f r cs [])) (hg:g=S 0 [])
  (hk: ∀c,f c=0->j8 c) (hb:(cs.map qA).sum<=4194304)
  (step: ∀(W:γ->Prop) (n:Nat) (h:n<cs.length) (own:List Atm),own.length<=8388608->(f cs[n]≠0->Q ([],f cs[n]))->(f cs[n]=0->r cs[n] own≠0->Q ([],r cs[n] own))->(f cs[n]=0->r cs[n] own=0->W (S (n+1) (own++yE cs[n] own.length)))->body W (S n own))
  (last: ∀(W:γ->Prop) (own:List Atm),(∀c∈cs,j8 c)->Q (own,0)->body W (S cs.length own)):qX body g:=by
 have sums: ∀n,((cs.take n).map qA).sum<=(cs.map qA).sum:=fun n=>by
  have e:(cs.map qA).sum=((cs.take n).map qA).sum+((cs.drop n).map qA).sum:=by
   rw [<- List.sum_append, <- List.map_append,List.take_append_drop]
  omega
 refine qX.countTo cs.length (fun n=>S n (Qc cs n)) (fun n=>(Qc cs n).length<=2*((cs.take n).map qA).sum/\(∀c∈cs.take n,j8 c)/\Q (wq f r (cs.drop n) (Qc cs n))) hg (fun n hn hp W hW=> ?_) ⟨by simp [Qc],fun c hc=>by simp at hc,by simpa [Qc] using hQ⟩
 obtain ⟨p1,p2,p3⟩:=hp
 have hs:=sums n
 by_cases hlt:n<cs.length
 . rw [List.drop_eq_getElem_cons hlt,wq] at p3
   refine step W n hlt _ (by omega) (fun z=> ?_) (fun z y=> ?_) fun z y=> ?_
   . rw [decide_eq_false z] at p3;exact p3
   . rw [decide_eq_true z,decide_eq_false y] at p3;exact p3
   . rw [decide_eq_true z,decide_eq_true y] at p3
     rw [<- Qn hlt]
     refine hW hlt ⟨?_,fun c hc=> ?_, ?_⟩
     . rw [Qn hlt,jm hlt,List.map_append,List.sum_append,List.length_append]
       have:=madeL_le (n:=((Qc cs n).length:Int)) (hk _ z)
       simp only [List.map_cons,List.map_nil,List.sum_cons,List.sum_nil]
       omega
     . rw [jm hlt] at hc
       rcases List.mem_append.1 hc with hc | hc
       . exact p2 c hc
       . rw [List.mem_singleton.1 hc];exact hk _ z
     . rw [Qn hlt];exact p3
 . have:n=cs.length:=by omega
   subst this
   rw [List.drop_length] at p3
   rw [List.take_length] at p2
   exact last W _ p2 p3
abbrev K3 (K:Kn):List Atm×ByteArray×Int->Prop:=fun x=>K (.tu [.oa .atm 0 0, .str x.2.1, .int .i64 x.2.2]) [some (.arr 0 .atm x.1)]
theorem F36_is {a m:ByteArray} {t:Int} {ds:List Dig} {cs:List Chg} {K:Kn} (hp:xP a m t ds cs) (h:K3 K (zH a m t ds cs)):F36 (a,m,t,ds,cs,()) (virtU .atm K):=by
 obtain ⟨h1,h2,h3,h4,h5,h6⟩:=hp
 have hl:=Vp h5
 unfold F36
 unfold zH at h
 refine ⟨Nat.le_trans h2 (by omega), ?_⟩
 show bif !decide (xF jq a m t ds cs=0)then _ else _
 by_cases z:xF jq a m t ds cs=0
 rotate_left
 . rw [decide_eq_false z] at h ⊢;exact h
 rw [decide_eq_true z] at h ⊢
 rw [Bool.not_true,cond_false] at h ⊢
 unfold F36_L2
 refine qX.chgs zM y7 cs (fun n own=>(cs,(cs.length:Int),(n:Int),a,m,t,ds,cs,own,())) (fun r=>K3 K (Zt r (wB (zR a m t (zk ds) cs)))) h rfl (fun c=>jv) h5 (fun W n hn own ho e1 e2 e3=> ?_) fun W own hk h=> ?_
 . show V0 (virtU .atm K) W cs cs.length n a m t ds cs own
   unfold V0
   rw [zq hn,cond_true]
   have hc:=VC h5 (List.getElem_mem hn)
   have hpp:=jf hc
   refine zX hn ⟨hc, ?_⟩
   by_cases y:zM cs[n]=0
   rotate_left
   . have e1:=e1 y
     unfold Zt at e1
     rw [decide_eq_false y] at e1 ⊢;exact e1
   rw [decide_eq_true y,Bool.not_true,cond_false]
   refine ⟨hpp.2.2.2.2, ?_⟩
   by_cases x:y7 cs[n] own=0
   rotate_left
   . have e2:=e2 y x
     unfold Zt at e2
     rw [decide_eq_false x] at e2 ⊢;exact e2
   rw [decide_eq_true x,Bool.not_true,cond_false]
   refine ⟨trivial,⟨⟨jv y,hpp.2.2.1,by omega,by show (own.length:Int)<=_;omega⟩,by show own.length<=_;omega⟩, ?_⟩
   rw [jw hn (by omega)]
   exact e3 y x
 . show V0 (virtU .atm K) W cs cs.length cs.length a m t ds cs own
   unfold V0
   rw [qG,cond_false]
   refine ⟨⟨h1,h2,h3,h4,h5,fun c hc=>⟨h6 c hc,hk c hc⟩⟩, ?_⟩
   have hJ: ∀b,K3 K (exP5 own (wB (zR a m t (zk ds) cs)).1 b)->WG (virtU .atm K) (wB (zR a m t (zk ds) cs)).1 b own:=by
    intro b h
    unfold WG
    cases b
    . exact h
    . exact h
   exact QM (J:=fun b=>WG (virtU .atm K) (wB (zR a m t (zk ds) cs)).1 b own) (f:=fun b=>exP5 own (wB (zR a m t (zk ds) cs)).1 b) (K:=K3 K) hJ h
def QO:Sp:=⟨S36,L36,fun g=>xP g.1 g.2.1 g.2.2.1 g.2.2.2.1 g.2.2.2.2.1,fun g=> .tu [.oa .atm 0 0, .str (zH g.1 g.2.1 g.2.2.1 g.2.2.2.1 g.2.2.2.2.1).2.1, .int .i64 (zH g.1 g.2.1 g.2.2.1 g.2.2.2.1 g.2.2.2.2.1).2.2],fun g=>some (.arr 0 .atm (zH g.1 g.2.1 g.2.2.1 g.2.2.2.1 g.2.2.2.2.1).1)⟩
theorem sp36_ok:QO.Ok Tryz.prog 36 false:=
 ⟨fun g K X hp h=>FCalls.virtU (e0:= .atm) (F36_ok g (virtU .atm K) X (F36_is hp h)),fun _ _ _=>rfl,fun _=>rfl,fun h=>(by cases h)⟩
abbrev K2 (K:Kn):List Atm×Int->Prop:=fun x=>K (.tu [.sl false .atm x.1, .int .i64 x.2]) []
set_option maxRecDepth 100000
theorem chgsG_ok {f:Chg->Int} {r:Chg->List Atm->Int}: ∀{cs:List Chg} {own:List Atm},(wq f r cs own).2=0-> ∀c∈cs,f c=0
 | [],_,_=>fun c hc=>by cases hc
 | c::l,own,h=>by
  rw [wq] at h
  by_cases z:f c=0
  . rw [decide_eq_true z,Bool.not_true,cond_false] at h
    by_cases y:r c own=0
    . rw [decide_eq_true y,Bool.not_true,cond_false] at h
      intro d hd
      rcases List.mem_cons.1 hd with rfl | hd
      . exact z
      . exact chgsG_ok h d hd
    . rw [decide_eq_false y] at h;exact absurd h y
  . rw [decide_eq_false z] at h;exact absurd h z
theorem exP_ok {a m:ByteArray} {t:Int} {ds:List Dig} {cs:List Chg} (h:(zH a m t ds cs).2.2=0):xF jq a m t ds cs=0/\(QJ cs).2=0/\(wB (zR a m t (zk ds) cs)).2=0/\((wB (zR a m t (zk ds) cs)).1.size:Int)<=65536:=by
 unfold zH at h
 by_cases z:xF jq a m t ds cs=0
 rotate_left
 . rw [decide_eq_false z] at h;exact absurd h z
 rw [decide_eq_true z,Bool.not_true,cond_false] at h
 unfold Zt at h
 by_cases y:(QJ cs).2=0
 rotate_left
 . rw [decide_eq_false y] at h;exact absurd h y
 rw [decide_eq_true y,Bool.not_true,cond_false] at h
 unfold exP5 at h
 by_cases x:(wB (zR a m t (zk ds) cs)).2=0
 rotate_left
 . rw [decide_eq_false x] at h;exact absurd h (show (4:Int)≠0 by decide)
 rw [decide_eq_true x,Bool.not_true,cond_false] at h
 by_cases w:65536< ((wB (zR a m t (zk ds) cs)).1.size:Int)
 . rw [decide_eq_true w] at h;exact absurd h (show (4:Int)≠0 by decide)
 . exact ⟨z,y,x,by omega⟩
theorem exP_eq {a m:ByteArray} {t:Int} {ds:List Dig} {cs:List Chg} (h:(zH a m t ds cs).2.2=0):zH a m t ds cs=((QJ cs).1,(wB (zR a m t (zk ds) cs)).1,0):=by
 obtain ⟨h1,h2,h3,h4⟩:=exP_ok h
 unfold zH Zt exP5
 rw [decide_eq_true h1,decide_eq_true h2,decide_eq_true h3,decide_eq_false (show¬65536< ((wB (zR a m t (zk ds) cs)).1.size:Int)by omega)]
 rfl
end Go.Proofs.YtbglndogddddoaaGreatDoor
namespace Go.Proofs.YtbglndogddddoaaGreatDoor
open Go.RowKit
attribute [local irreducible] qW qb
set_option maxRecDepth 100000
def H13:List (Nat×Hint):=[]
def J13:List (Nat×Hint):=[]
abbrev S13:List Sh:=[.ag [.leaf, .leaf, .leaf, .leaf, .leaf]]
abbrev L13:List Lf:=[.str, .str, .int .i64, .sl .dig, .sl .chg]
def F13 (g:prodL L13) (K:Kn):Prop:=
 QO.pre (g.1,g.2.1,g.2.2.1,g.2.2.2.1,g.2.2.2.2.1,())/\
 K (.tu [.str ((zH g.1 g.2.1 g.2.2.1 g.2.2.2.1 g.2.2.2.2.1).2.1), .int .i64 ((zH g.1 g.2.1 g.2.2.1 g.2.2.2.1 g.2.2.2.2.1).2.2)]) []
theorem F13_eq (g:prodL L13) (K X:Kn):F13 g K=qW D (qJ [] [(36,false,QO)]) (qv []) H13 J13 15 [.tmp 2, .tmp 3] (qq Tryz.f13) (argsT S13 L13 g) [] (settle0 K) X:=by kernel_rfl
theorem F13_ok (g:prodL L13) (K X:Kn) (h:F13 g K):FCalls Tryz.prog 13 (argsT S13 L13 g) [] K X:=
 FCalls.settle0 (qz (Γ:=qJ [] [(36,false,QO)]) (mu:=qv []) (H:=H13) (J:=J13) qh (qV (rs:=[]) (l:=[(36,false,QO)]) (fun p hp=>by cases hp) (by intro p hp;simp only [List.mem_cons,List.not_mem_nil,or_false] at hp;subst hp;exact sp36_ok)) qj rfl Tryz.func13 (c:=qq Tryz.f13) rfl Tryz.ntmps13 Tryz.results13 (by unfold qk;rw [Tryz.func13];kernel_rfl) (Nat.le_of_ble_eq_true (by kernel_rfl)) (c0:=0) (Eq.mp (F13_eq g K X) h))
def Wo:Sp:=⟨S13,L13,fun g=>QO.pre g,fun g=> .tu [.str ((zH g.1 g.2.1 g.2.2.1 g.2.2.2.1 g.2.2.2.2.1).2.1), .int .i64 ((zH g.1 g.2.1 g.2.2.1 g.2.2.2.1 g.2.2.2.2.1).2.2)],fun _=>none⟩
theorem XG:Wo.Ok Tryz.prog 13 true:=
 ⟨fun g K X hp h=>F13_ok g K X (by
  have h:K (.tu [.str ((zH g.1 g.2.1 g.2.2.1 g.2.2.2.1 g.2.2.2.2.1).2.1), .int .i64 ((zH g.1 g.2.1 g.2.2.1 g.2.2.2.1 g.2.2.2.2.1).2.2)]) []:=h
  exact ⟨hp,h⟩),fun _ _ _=>rfl,fun _=>rfl,by first | exact fun _ _=>⟨rfl,rfl⟩ | (intro h;cases h)⟩
def H19:List (Nat×Hint):=[]
def J19:List (Nat×Hint):=[]
abbrev S19:List Sh:=[.ag [.leaf, .leaf, .leaf, .leaf, .leaf]]
abbrev L19:List Lf:=[.str, .str, .int .i64, .sl .dig, .sl .chg]
def F19 (g:prodL L19) (K:Kn):Prop:=
 QO.pre (g.1,g.2.1,g.2.2.1,g.2.2.2.1,g.2.2.2.2.1,())/\
 K (.int .i64 ((zH g.1 g.2.1 g.2.2.1 g.2.2.2.1 g.2.2.2.2.1).2.2)) []
theorem F19_eq (g:prodL L19) (K X:Kn):F19 g K=qW D (qJ [] [(36,false,QO)]) (qv []) H19 J19 13 [.tmp 2] (qq Tryz.f19) (argsT S19 L19 g) [] (settle0 K) X:=by kernel_rfl
theorem F19_ok (g:prodL L19) (K X:Kn) (h:F19 g K):FCalls Tryz.prog 19 (argsT S19 L19 g) [] K X:=
 FCalls.settle0 (qz (Γ:=qJ [] [(36,false,QO)]) (mu:=qv []) (H:=H19) (J:=J19) qh (qV (rs:=[]) (l:=[(36,false,QO)]) (fun p hp=>by cases hp) (by intro p hp;simp only [List.mem_cons,List.not_mem_nil,or_false] at hp;subst hp;exact sp36_ok)) qj rfl Tryz.func19 (c:=qq Tryz.f19) rfl Tryz.ntmps19 Tryz.results19 (by unfold qk;rw [Tryz.func19];kernel_rfl) (Nat.le_of_ble_eq_true (by kernel_rfl)) (c0:=0) (Eq.mp (F19_eq g K X) h))
def sp19:Sp:=⟨S19,L19,fun g=>QO.pre g,fun g=> .int .i64 ((zH g.1 g.2.1 g.2.2.1 g.2.2.2.1 g.2.2.2.2.1).2.2),fun _=>none⟩
theorem sp19_ok:sp19.Ok Tryz.prog 19 true:=
 ⟨fun g K X hp h=>F19_ok g K X (by
  have h:K (.int .i64 ((zH g.1 g.2.1 g.2.2.1 g.2.2.2.1 g.2.2.2.2.1).2.2)) []:=h
  exact ⟨hp,h⟩),fun _ _ _=>rfl,fun _=>rfl,by first | exact fun _ _=>⟨rfl,rfl⟩ | (intro h;cases h)⟩
end Go.Proofs.YtbglndogddddoaaGreatDoor
namespace Go.Proofs.YtbglndogddddoaaGreatDoor
open Go.RowKit
set_option maxRecDepth 100000
end Go.Proofs.YtbglndogddddoaaGreatDoor
namespace Go.Proofs.YtbglndogddddoaaGreatDoor
open Go.RowKit
attribute [local irreducible] qW qb
set_option maxRecDepth 100000
end Go.Proofs.YtbglndogddddoaaGreatDoor
namespace Go.Proofs.YtbglndogddddoaaGreatDoor
open Go.RowKit
set_option maxRecDepth 100000
end Go.Proofs.YtbglndogddddoaaGreatDoor
namespace Go.Proofs.YtbglndogddddoaaGreatDoor
open Go.RowKit
attribute [local irreducible] qW qb
set_option maxRecDepth 100000
end Go.Proofs.YtbglndogddddoaaGreatDoor
namespace Go.Proofs.YtbglndogddddoaaGreatDoor
open Go.RowKit
set_option maxRecDepth 100000
set_option maxRecDepth 100000
def rotL (x k:Int):Int:=qd .or .u32 (IntKind.u32.wrap (x*2^(min (qd .and .u64 (IntKind.u64.wrap k) 31).toNat IntKind.u32.bits))) (Int.fdiv x (2^(min (IntKind.u64.wrap (32- (qd .and .u64 (IntKind.u64.wrap k) 31))).toNat IntKind.u32.bits)))
def vz (x n:Int):Int:=rotL x (IntKind.i64.wrap (0-n))
def kL:List Int:=[1116352408,1899447441,3049323471,3921009573,961987163,1508970993,2453635748,2870763221,3624381080,310598401,607225278,1426881987,1925078388,2162078206,2614888103,3248222580,3835390401,4022224774,264347078,604807628,770255983,1249150122,1555081692,1996064986,2554220882,2821834349,2952996808,3210313671,3336571891,3584528711,113926993,338241895,666307205,773529912,1294757372,1396182291,1695183700,1986661051,2177026350,2456956037,2730485921,2820302411,3259730800,3345764771,3516065817,3600352804,4094571909,275423344,430227734,506948616,659060556,883997877,958139571,1322822218,1537002063,1747873779,1955562222,2024104815,2227730452,2361852424,2428436474,2756734187,3204031479,3329325298]
theorem u64_nn (n:Int):0<=IntKind.u64.wrap n:=by
 simp only [IntKind.wrap,IntKind.bits,IntKind.signed,Bool.false_and,Bool.false_eq_true,if_false]
 omega
theorem and_nn (a b:Int):0<=qd .and .u64 a b:=u64_nn _
def orB (x c:Int):Int:=qd .or .u32 (IntKind.u32.wrap (x*2^(min (8:Int).toNat IntKind.u32.bits))) (IntKind.u32.wrap c)
def QB (b:ByteArray) (t:Nat):List Int:=zV (b.extract (4*t) (4*t+4))
def sg1 (x:Int):Int:=qd .xor .u32 (qd .xor .u32 (vz x 17) (vz x 19)) (Int.fdiv x (2^(min (10:Int).toNat IntKind.u32.bits)))
def sg0 (x:Int):Int:=qd .xor .u32 (qd .xor .u32 (vz x 7) (vz x 18)) (Int.fdiv x (2^(min (3:Int).toNat IntKind.u32.bits)))
def schW (w:List Int) (t:Nat):Int:=IntKind.u32.wrap (IntKind.u32.wrap (IntKind.u32.wrap (sg1 (w.getD (t-2) 0)+w.getD (t-7) 0)+sg0 (w.getD (t-15) 0))+w.getD (t-16) 0)
def schA (b:ByteArray) (w:List Int) (t:Nat):List Int:=if t<16 then w.set t ((QB b t).foldl orB (w.getD t 0))else w.set t (schW w t)
def zL:List Int:=List.replicate 64 0
def wAt (b:ByteArray) (n:Nat):List Int:=(List.range n).foldl (schA b) zL
def schP (b:ByteArray):List Int:=wAt b 64
theorem schA_len (b:ByteArray) (w:List Int) (t:Nat):(schA b w t).length=w.length:=by
 unfold schA;split<;>simp
theorem wAt_succ (b:ByteArray) (n:Nat):wAt b (n+1)=schA b (wAt b n) n:=by
 unfold wAt;rw [List.range_succ,List.foldl_append];rfl
theorem wAt_len (b:ByteArray): ∀n,(wAt b n).length=64
 | 0=>by simp [wAt,zL]
 | n+1=>by rw [wAt_succ,schA_len,wAt_len b n]
def Vy (w:List Int) (t:Nat) (e f g h:Int):Int:=IntKind.u32.wrap (IntKind.u32.wrap (IntKind.u32.wrap (IntKind.u32.wrap (h+(qd .xor .u32 (qd .xor .u32 (vz e 6) (vz e 11)) (vz e 25)))+(qd .xor .u32 (qd .and .u32 e f) (qd .and .u32 (qd .xor .u32 IntKind.u32.max e) g)))+kL.getD t 0)+w.getD t 0)
def rndT2 (a b c:Int):Int:=IntKind.u32.wrap ((qd .xor .u32 (qd .xor .u32 (vz a 2) (vz a 13)) (vz a 22))+(qd .xor .u32 (qd .xor .u32 (qd .and .u32 a b) (qd .and .u32 a c)) (qd .and .u32 b c)))
def rnd (w:List Int) (v:List Int) (t:Nat):List Int:=match v with
 | [a,b,c,d,e,f,g,h]=>[IntKind.u32.wrap (Vy w t e f g h+rndT2 a b c),a,b,c,IntKind.u32.wrap (d+Vy w t e f g h),e,f,g]
 | v=>v
def vAt (w s:List Int) (n:Nat):List Int:=(List.range n).foldl (rnd w) s
def WE (s v:List Int):List Int:=List.zipWith (fun x y=>IntKind.u32.wrap (x+y)) s v
def qp (s:List Int) (b:ByteArray):List Int:=WE s (vAt (schP b) s 64)
theorem eight {v:List Int} (h:v.length=8): ∃a b c d e f g k,v=[a,b,c,d,e,f,g,k]:=by
 match v,h with
 | [a,b,c,d,e,f,g,k],_=>exact ⟨a,b,c,d,e,f,g,k,rfl⟩
theorem rnd_len (w:List Int) {v:List Int} (t:Nat) (h:v.length=8):(rnd w v t).length=8:=by
 obtain ⟨a,b,c,d,e,f,g,k,rfl⟩:=eight h
 rfl
theorem vAt_succ (w s:List Int) (n:Nat):vAt w s (n+1)=rnd w (vAt w s n) n:=by
 unfold vAt;rw [List.range_succ,List.foldl_append];rfl
theorem vAt_len (w:List Int) {s:List Int} (h:s.length=8): ∀n,(vAt w s n).length=8
 | 0=>h
 | n+1=>by rw [vAt_succ];exact rnd_len w n (vAt_len w h n)
theorem compP_len {s:List Int} (h:s.length=8) (b:ByteArray):(qp s b).length=8:=by
 unfold qp WE
 rw [List.length_zipWith,vAt_len _ h,h];rfl
def padN (n:Nat):Nat:=(120-n%64)%64
def lenB (s:ByteArray) (i:Nat):Int:=IntKind.u8.wrap (Int.fdiv (IntKind.u64.wrap ((IntKind.u64.wrap (s.size:Int))*8)) (2^(min (56-8*(i:Int)).toNat IntKind.u64.bits)))
def Xd (s:ByteArray):List Int:=zV (s.extract (s.size / 64*64) s.size)++[128]
def padL (s:ByteArray):List Int:=Xd s++List.replicate (padN (Xd s).length) 0
def WO (s:ByteArray):List Int:=padL s++(List.range 8).map (lenB s)
def blkW (s:ByteArray) (i:Nat):ByteArray:=s.extract (64*i) (64*i+64)
def yZ (l:List Int) (i:Nat):ByteArray:=xf ((l.drop (64*i)).take 64)
def Xe (s:ByteArray):List ByteArray:=(List.range (s.size / 64)).map (blkW s)
def blkB (s:ByteArray):List ByteArray:=(List.range ((WO s).length / 64)).map (yZ (WO s))
def zh (st:List Int) (s:ByteArray):List Int:=(Xe s++blkB s).foldl qp st
def pre111 (g:prodL [.pr .str, .int .u32, .int .u32, .int .u32, .int .u32, .int .u32, .int .u32, .int .u32, .int .u32]):Prop:=g.1.size<=4194304
def st0:List Int:=[1779033703,3144134277,1013904242,2773480762,1359893119,2600822924,528734635,1541459225]
def zl (v:List Int) (i j:Nat):Int:=IntKind.u8.wrap (Int.fdiv (v.getD i 0) (2^(min ((24:Int) - 8*j).toNat IntKind.u32.bits)))
def digW (v:List Int):Dig:=⟨zl v 0 0,zl v 0 1,zl v 0 2,zl v 0 3,zl v 1 0,zl v 1 1,zl v 1 2,zl v 1 3,zl v 2 0,zl v 2 1,zl v 2 2,zl v 2 3,zl v 3 0,zl v 3 1,zl v 3 2,zl v 3 3,zl v 4 0,zl v 4 1,zl v 4 2,zl v 4 3,zl v 5 0,zl v 5 1,zl v 5 2,zl v 5 3,zl v 6 0,zl v 6 1,zl v 6 2,zl v 6 3,zl v 7 0,zl v 7 1,zl v 7 2,zl v 7 3⟩
def Xb (s:ByteArray):Dig:=digW (zh st0 s)
theorem foldl_len {l:List ByteArray}: ∀{st:List Int},st.length=8->(l.foldl qp st).length=8:=by
 induction l with
 | nil=>intro st h;exact h
 | cons b l ih=>intro st h;exact ih (compP_len h b)
end Go.Proofs.YtbglndogddddoaaGreatDoor
namespace Go.Proofs.YtbglndogddddoaaGreatDoor
open Go.RowKit
attribute [local irreducible] qW qb
set_option maxRecDepth 100000
def H156:List (Nat×Hint):=[]
def J156:List (Nat×Hint):=[]
abbrev S156:List Sh:=[.leaf, .leaf]
abbrev L156:List Lf:=[.int .u32, .int .i64]
def F156 (g:prodL L156) (K:Kn):Prop:=
 (0:Int)<=qd .and .u64 (IntKind.u64.wrap g.2.1) 31/\
 (0:Int)<=IntKind.u64.wrap (32- (qd .and .u64 (IntKind.u64.wrap g.2.1) 31))/\
 K (.int .u32 (qd .or .u32 (IntKind.u32.wrap (g.1*2^(min (qd .and .u64 (IntKind.u64.wrap g.2.1) 31).toNat IntKind.u32.bits))) (Int.fdiv g.1 (2^(min (IntKind.u64.wrap (32- (qd .and .u64 (IntKind.u64.wrap g.2.1) 31))).toNat IntKind.u32.bits))))) []
theorem F156_eq (g:prodL L156) (K X:Kn):F156 g K=qW D (qJ [] []) (qv []) H156 J156 17 [.tmp 4] (qq Tryz.f156) (argsT S156 L156 g) [] (settle0 K) X:=by kernel_rfl
theorem F156_ok (g:prodL L156) (K X:Kn) (h:F156 g K):FCalls Tryz.prog 156 (argsT S156 L156 g) [] K X:=
 FCalls.settle0 (qz qh (vN vC) qj rfl Tryz.func156 (c:=qq Tryz.f156) rfl Tryz.ntmps156 Tryz.results156 (by unfold qk;rw [Tryz.func156];kernel_rfl) (Nat.le_of_ble_eq_true (by kernel_rfl)) (c0:=0) (Eq.mp (F156_eq g K X) h))
def sp156:Sp:=⟨S156,L156,fun _=>True,fun g=> .int .u32 (rotL g.1 g.2.1),fun _=>none⟩
theorem sp156_ok:sp156.Ok Tryz.prog 156 true:=
 ⟨fun g K X hp h=>F156_ok g K X (by
  have h:K (.int .u32 (rotL g.1 g.2.1)) []:=h
  exact ⟨and_nn _ _,u64_nn _,h⟩),fun _ _ _=>rfl,fun _=>rfl,by first | exact fun _ _=>⟨rfl,rfl⟩ | (intro h;cases h)⟩
def H114:List (Nat×Hint):=[]
def J114:List (Nat×Hint):=[]
abbrev S114:List Sh:=[.leaf, .leaf]
abbrev L114:List Lf:=[.int .u32, .int .i64]
def F114 (g:prodL L114) (K:Kn):Prop:=
 True/\
 K (.int .u32 (rotL g.1 (IntKind.i64.wrap (0-g.2.1)))) []
theorem F114_eq (g:prodL L114) (K X:Kn):F114 g K=qW D (qJ [] [(156,true,sp156)]) (qv []) H114 J114 9 [.tmp 4] (qq Tryz.f114) (argsT S114 L114 g) [] (settle0 K) X:=by kernel_rfl
theorem F114_ok (g:prodL L114) (K X:Kn) (h:F114 g K):FCalls Tryz.prog 114 (argsT S114 L114 g) [] K X:=
 FCalls.settle0 (qz (Γ:=qJ [] [(156,true,sp156)]) (mu:=qv []) (H:=H114) (J:=J114) qh (qV (rs:=[]) (l:=[(156,true,sp156)]) (fun p hp=>by cases hp) (by intro p hp;simp only [List.mem_cons,List.not_mem_nil,or_false] at hp;subst hp;exact sp156_ok)) qj rfl Tryz.func114 (c:=qq Tryz.f114) rfl Tryz.ntmps114 Tryz.results114 (by unfold qk;rw [Tryz.func114];kernel_rfl) (Nat.le_of_ble_eq_true (by kernel_rfl)) (c0:=0) (Eq.mp (F114_eq g K X) h))
def sp114:Sp:=⟨S114,L114,fun _=>True,fun g=> .int .u32 (vz g.1 g.2.1),fun _=>none⟩
theorem sp114_ok:sp114.Ok Tryz.prog 114 true:=
 ⟨fun g K X hp h=>F114_ok g K X (by
  have h:K (.int .u32 (vz g.1 g.2.1)) []:=h
  exact ⟨trivial,h⟩),fun _ _ _=>rfl,fun _=>rfl,by first | exact fun _ _=>⟨rfl,rfl⟩ | (intro h;cases h)⟩
def H113:List (Nat×Hint):=[]
def J113:List (Nat×Hint):=[]
abbrev S113:List Sh:=[]
abbrev L113:List Lf:=[]
def F113 (g:prodL L113) (K:Kn):Prop:=
 vE ([1116352408,1899447441,3049323471,3921009573,961987163,1508970993,2453635748,2870763221,3624381080,310598401,607225278,1426881987,1925078388,2162078206,2614888103,3248222580,3835390401,4022224774,264347078,604807628,770255983,1249150122,1555081692,1996064986,2554220882,2821834349,2952996808,3210313671,3336571891,3584528711,113926993,338241895,666307205,773529912,1294757372,1396182291,1695183700,1986661051,2177026350,2456956037,2730485921,2820302411,3259730800,3345764771,3516065817,3600352804,4094571909,275423344,430227734,506948616,659060556,883997877,958139571,1322822218,1537002063,1747873779,1955562222,2024104815,2227730452,2361852424,2428436474,2756734187,3204031479,3329325298].length*1=64/\[1116352408,1899447441,3049323471,3921009573,961987163,1508970993,2453635748,2870763221,3624381080,310598401,607225278,1426881987,1925078388,2162078206,2614888103,3248222580,3835390401,4022224774,264347078,604807628,770255983,1249150122,1555081692,1996064986,2554220882,2821834349,2952996808,3210313671,3336571891,3584528711,113926993,338241895,666307205,773529912,1294757372,1396182291,1695183700,1986661051,2177026350,2456956037,2730485921,2820302411,3259730800,3345764771,3516065817,3600352804,4094571909,275423344,430227734,506948616,659060556,883997877,958139571,1322822218,1537002063,1747873779,1955562222,2024104815,2227730452,2361852424,2428436474,2756734187,3204031479,3329325298].length=(List.replicate 64 (0:Int)).length) (
 vE ([1116352408,1899447441,3049323471,3921009573,961987163,1508970993,2453635748,2870763221,3624381080,310598401,607225278,1426881987,1925078388,2162078206,2614888103,3248222580,3835390401,4022224774,264347078,604807628,770255983,1249150122,1555081692,1996064986,2554220882,2821834349,2952996808,3210313671,3336571891,3584528711,113926993,338241895,666307205,773529912,1294757372,1396182291,1695183700,1986661051,2177026350,2456956037,2730485921,2820302411,3259730800,3345764771,3516065817,3600352804,4094571909,275423344,430227734,506948616,659060556,883997877,958139571,1322822218,1537002063,1747873779,1955562222,2024104815,2227730452,2361852424,2428436474,2756734187,3204031479,3329325298].length*1=64) (
 K (.al .u32 [1116352408,1899447441,3049323471,3921009573,961987163,1508970993,2453635748,2870763221,3624381080,310598401,607225278,1426881987,1925078388,2162078206,2614888103,3248222580,3835390401,4022224774,264347078,604807628,770255983,1249150122,1555081692,1996064986,2554220882,2821834349,2952996808,3210313671,3336571891,3584528711,113926993,338241895,666307205,773529912,1294757372,1396182291,1695183700,1986661051,2177026350,2456956037,2730485921,2820302411,3259730800,3345764771,3516065817,3600352804,4094571909,275423344,430227734,506948616,659060556,883997877,958139571,1322822218,1537002063,1747873779,1955562222,2024104815,2227730452,2361852424,2428436474,2756734187,3204031479,3329325298]) []))
theorem F113_eq (g:prodL L113) (K X:Kn):F113 g K=qW D (qJ [] []) (qv []) H113 J113 2 [.cell 0 138] (qq Tryz.f113) (argsT S113 L113 g) [] (settle0 K) X:=by kernel_rfl
theorem F113_ok (g:prodL L113) (K X:Kn) (h:F113 g K):FCalls Tryz.prog 113 (argsT S113 L113 g) [] K X:=
 FCalls.settle0 (qz qh (vN vC) qj rfl Tryz.func113 (c:=qq Tryz.f113) rfl Tryz.ntmps113 Tryz.results113 (by unfold qk;rw [Tryz.func113];kernel_rfl) (Nat.le_of_ble_eq_true (by kernel_rfl)) (c0:=0) (Eq.mp (F113_eq g K X) h))
def sp113:Sp:=⟨S113,L113,fun _=>True,fun g=> .al .u32 kL,fun _=>none⟩
theorem sp113_ok:sp113.Ok Tryz.prog 113 false:=
 ⟨fun g K X hp h=>F113_ok g K X (by
  have h:K (.al .u32 kL) []:=h
  exact ⟨⟨rfl,rfl⟩,rfl,h⟩),fun _ _ _=>rfl,fun _=>rfl,by first | exact fun _ _=>⟨rfl,rfl⟩ | (intro h;cases h)⟩
def H112:List (Nat×Hint):=[(3,⟨[((2,[]),none),((3,[]),none)],[(0, .leaf),(2, .pa .u32 0),(3, .pa .u32 1),(9, .leaf)],[.arr .u32, .arr .u32],[.str, .int .i64, .sl .u32, .sl .u32]⟩),(7,⟨[((2,[]),none),((3,[]),none),((21,[]),none)],[(0, .leaf),(2, .pa .u32 0),(3, .pa .u32 1),(4, .leaf),(9, .leaf),(21, .oa .u8 2),(22, .leaf),(23, .leaf)],[.arr .u32, .arr .u32, .arr .u8],[.str, .int .i64, .int .i64, .int .i64, .int .i64, .sl .u32, .sl .u32, .sl .u8]⟩)]
def J112:List (Nat×Hint):=[(13,⟨[((2,[]),none),((3,[]),none)],[(0, .leaf),(2, .pa .u32 0),(3, .pa .u32 1),(9, .leaf)],[.arr .u32, .arr .u32],[.str, .int .i64, .sl .u32, .sl .u32]⟩)]
abbrev S112:List Sh:=[.leaf]
abbrev L112:List Lf:=[.str]
def Z6 (K:Kn) (W2:prodL [.str, .int .i64, .sl .u32, .sl .u32]->Prop) (block_13:ByteArray) (t_13:Int) (t2_13:List Int) (w_13:List Int):Prop:=
 W2 (block_13,IntKind.i64.wrap (t_13+1),t2_13,w_13,())
def qqW (K:Kn) (W2:prodL [.str, .int .i64, .sl .u32, .sl .u32]->Prop) (W4:prodL [.str, .int .i64, .int .i64, .int .i64, .int .i64, .sl .u32, .sl .u32, .sl .u8]->Prop) (block_3:ByteArray) (t_3 t2_3 t3_3 t4_3:Int) (t5_3:List Int) (w_3:List Int) (t6_3:List Int):Prop:=
 bif decide (t4_3<t3_3)then (
   0<=t4_3/\t4_3.toNat<t6_3.length/\
  atI t6_3 t4_3.toNat fun x5=>
  0<=t_3/\t_3.toNat<64/\
  atI w_3 t_3.toNat fun x6=>
  (0:Int)<=8/\
  0<=t_3/\t_3.toNat<64/\
  atI w_3 t_3.toNat fun x7=>
  W4 (block_3,t_3,t2_3,t3_3,IntKind.i64.wrap (t4_3+1),t5_3,w_3.set t_3.toNat (qd .or .u32 (IntKind.u32.wrap (x6*2^(min (8:Int).toNat IntKind.u32.bits))) (IntKind.u32.wrap x5)),t6_3,()))
  else (
   Z6 K W2 block_3 t2_3 t5_3 w_3)
def F112_L4 (K:Kn) (W2:prodL [.str, .int .i64, .sl .u32, .sl .u32]->Prop) (g:prodL [.str, .int .i64, .int .i64, .int .i64, .int .i64, .sl .u32, .sl .u32, .sl .u8]):Prop:=
 qX (γ:=prodL [.str, .int .i64, .int .i64, .int .i64, .int .i64, .sl .u32, .sl .u32, .sl .u8]) (fun V y=>qqW K W2 V y.1 y.2.1 y.2.2.1 y.2.2.2.1 y.2.2.2.2.1 y.2.2.2.2.2.1 y.2.2.2.2.2.2.1 y.2.2.2.2.2.2.2.1) g
def F112_B2 (K:Kn) (W2:prodL [.str, .int .i64, .sl .u32, .sl .u32]->Prop) (block_1:ByteArray) (t_1:Int) (t2_1:List Int) (w_1:List Int):Prop:=
 bif decide (t_1<64)then (
  bif decide (t_1<16)then (
  (0:Int)<=IntKind.i64.wrap (4*t_1)/\IntKind.i64.wrap (4*t_1)<=IntKind.i64.wrap ((IntKind.i64.wrap (4*t_1))+4)/\IntKind.i64.wrap ((IntKind.i64.wrap (4*t_1))+4)<=(block_1.size:Int)/\
  qP (block_1.extract (IntKind.i64.wrap (4*t_1)).toNat (IntKind.i64.wrap ((IntKind.i64.wrap (4*t_1))+4)).toNat).size 1 (
  F112_L4 K W2 (block_1,t_1,t_1,(((zV (block_1.extract (IntKind.i64.wrap (4*t_1)).toNat (IntKind.i64.wrap ((IntKind.i64.wrap (4*t_1))+4)).toNat)).length:Nat):Int),0,t2_1,w_1,zV (block_1.extract (IntKind.i64.wrap (4*t_1)).toNat (IntKind.i64.wrap ((IntKind.i64.wrap (4*t_1))+4)).toNat),())))
 else (
  0<=IntKind.i64.wrap (t_1-15)/\(IntKind.i64.wrap (t_1-15)).toNat<64/\
 atI w_1 ((IntKind.i64.wrap (t_1-15)).toNat) fun x8=>
 0<=IntKind.i64.wrap (t_1-2)/\(IntKind.i64.wrap (t_1-2)).toNat<64/\
 atI w_1 ((IntKind.i64.wrap (t_1-2)).toNat) fun x9=>
 True/\
 True/\
 (0:Int)<=10/\
 0<=IntKind.i64.wrap (t_1-7)/\(IntKind.i64.wrap (t_1-7)).toNat<64/\
 atI w_1 ((IntKind.i64.wrap (t_1-7)).toNat) fun x10=>
 True/\
 True/\
 (0:Int)<=3/\
 0<=IntKind.i64.wrap (t_1-16)/\(IntKind.i64.wrap (t_1-16)).toNat<64/\
 atI w_1 ((IntKind.i64.wrap (t_1-16)).toNat) fun x11=>
 0<=t_1/\t_1.toNat<64/\
 atI w_1 t_1.toNat fun x12=>
 Z6 K W2 block_1 t_1 t2_1 (w_1.set t_1.toNat (IntKind.u32.wrap ((IntKind.u32.wrap ((IntKind.u32.wrap ((qd .xor .u32 (qd .xor .u32 (vz x9 17) (vz x9 19)) (Int.fdiv x9 (2^(min (10:Int).toNat IntKind.u32.bits))))+x10))+(qd .xor .u32 (qd .xor .u32 (vz x8 7) (vz x8 18)) (Int.fdiv x8 (2^(min (3:Int).toNat IntKind.u32.bits))))))+x11)))))
 else (
  vE (w_1.length*1=64) (
 vE (w_1.length*1=64/\w_1.length=t2_1.length) (
 vE (w_1.length*1=64) (
 K (.al .u32 w_1) []))))
def qqJ (K:Kn) (g:prodL [.str, .int .i64, .sl .u32, .sl .u32]):Prop:=
 qX (γ:=prodL [.str, .int .i64, .sl .u32, .sl .u32]) (fun V y=>F112_B2 K V y.1 y.2.1 y.2.2.1 y.2.2.2.1) g
def F112 (g:prodL L112) (K:Kn):Prop:=
 qqJ K (g.1,0,(List.replicate 64 (0:Int)),(List.replicate 64 (0:Int)),())
theorem F112_eq (g:prodL L112) (K X:Kn):F112 g K=qW D (qJ [] [(114,true,sp114)]) (qv []) H112 J112 76 [.cell 2 138] (qq Tryz.f112) (argsT S112 L112 g) [] (settle0 K) X:=by kernel_rfl
theorem F112_ok (g:prodL L112) (K X:Kn) (h:F112 g K):FCalls Tryz.prog 112 (argsT S112 L112 g) [] K X:=
 FCalls.settle0 (qz (Γ:=qJ [] [(114,true,sp114)]) (mu:=qv []) (H:=H112) (J:=J112) qh (qV (rs:=[]) (l:=[(114,true,sp114)]) (fun p hp=>by cases hp) (by intro p hp;simp only [List.mem_cons,List.not_mem_nil,or_false] at hp;subst hp;exact sp114_ok)) qj rfl Tryz.func112 (c:=qq Tryz.f112) rfl Tryz.ntmps112 Tryz.results112 (by unfold qk;rw [Tryz.func112];kernel_rfl) (Nat.le_of_ble_eq_true (by kernel_rfl)) (c0:=0) (Eq.mp (F112_eq g K X) h))
def H65:List (Nat×Hint):=[]
def J65:List (Nat×Hint):=[]
abbrev S65:List Sh:=[.leaf]
abbrev L65:List Lf:=[.str]
def F65 (g:prodL L65) (K:Kn):Prop:=
 K (.fn 111 [] [.pr .str g.1 0]) []
theorem F65_eq (g:prodL L65) (K X:Kn):F65 g K=qW D (qJ [] []) (qv []) H65 J65 4 [.tmp 2] (qq Tryz.f65) (argsT S65 L65 g) [] (settle0 K) X:=by kernel_rfl
theorem F65_ok (g:prodL L65) (K X:Kn) (h:F65 g K):FCalls Tryz.prog 65 (argsT S65 L65 g) [] K X:=
 FCalls.settle0 (qz qh (vN vC) qj rfl Tryz.func65 (c:=qq Tryz.f65) rfl Tryz.ntmps65 Tryz.results65 (by unfold qk;rw [Tryz.func65];kernel_rfl) (Nat.le_of_ble_eq_true (by kernel_rfl)) (c0:=0) (Eq.mp (F65_eq g K X) h))
def sp65:Sp:=⟨S65,L65,fun _=>True,fun g=> .fn 111 [] [.pr .str g.1 0],fun _=>none⟩
theorem sp65_ok:sp65.Ok Tryz.prog 65 false:=
 ⟨fun g K X hp h=>F65_ok g K X (by
  have h:K (.fn 111 [] [.pr .str g.1 0]) []:=h
  exact h),fun _ _ _=>rfl,fun _=>rfl,by first | exact fun _ _=>⟨rfl,rfl⟩ | (intro h;cases h)⟩
end Go.Proofs.YtbglndogddddoaaGreatDoor
namespace Go.Proofs.YtbglndogddddoaaGreatDoor
open Go.RowKit
set_option maxRecDepth 100000
theorem wm {α:Type} {l:List α} {n:Nat} {K:α->Prop} (h:n<l.length) (hK:K l[n]):atI l n K:=⟨l[n],jS h,hK⟩
theorem Yz {l:List Int} {n:Nat} (h:n<l.length):l.getD n 0=l[n]:=by rw [List.getD_eq_getElem?_getD,jS h];rfl
theorem toN (n:Nat):((n:Nat):Int).toNat=n:=by omega
theorem wI {n:Int} (h: -4294967296<=n/\n<=4294967296):IntKind.i64.wrap n=n:=jW (by omega) (by omega)
theorem set_getD (w:List Int) (t:Nat) (h:t<w.length):w.set t (w.getD t 0)=w:=by
 rw [Yz h,List.set_getElem_self]
theorem F112_is {b:ByteArray} {K:Kn} (hb:b.size=64) (h:K (.al .u32 (schP b)) []):F112 (b,()) K:=by
 unfold F112
 show qqJ K _
 unfold qqJ
 refine qX.countTo 64 (fun t=>(b,(t:Int),zL,wAt b t,())) (fun _=>True) rfl (fun t ht _ W hW=> ?_) trivial
 show F112_B2 K W b t zL (wAt b t)
 have hlen:=wAt_len b t
 unfold F112_B2
 by_cases hlt:t<64
 . rw [decide_eq_true (show (t:Int) <64 by omega),cond_true]
   have hW:=hW hlt trivial
   rw [wAt_succ] at hW
   by_cases h16:t<16
   . rw [decide_eq_true (show (t:Int) <16 by omega),cond_true]
     have e4:IntKind.i64.wrap (4*(t:Int))=((4*t:Nat):Int):=by rw [wI (by omega)];omega
     have e5:IntKind.i64.wrap (((4*t:Nat):Int)+4)=((4*t+4:Nat):Int):=by rw [wI (by omega)];omega
     rw [e4,e5,toN,toN]
     refine ⟨by omega,by omega,by rw [hb];omega, ?_⟩
     have hsz:(b.extract (4*t) (4*t+4)).size=4:=by rw [ByteArray.size_extract,hb];omega
     refine ⟨by rw [hsz];exact Nat.le_of_ble_eq_true rfl, ?_⟩
     have hbl:(QB b t).length=4:=by unfold QB zV;simp;rw [hb];omega
     unfold schA at hW
     rw [if_pos h16] at hW
     show F112_L4 K W (b,(t:Int),(t:Int),(((QB b t).length:Nat):Int),0,zL,wAt b t,QB b t,())
     unfold F112_L4
     refine qX.countTo (QB b t).length (fun j=>(b,(t:Int),(t:Int),(((QB b t).length:Nat):Int),(j:Int),zL,(wAt b t).set t (((QB b t).take j).foldl orB ((wAt b t).getD t 0)),QB b t,())) (fun _=>True) (by rw [List.take_zero,List.foldl_nil,set_getD _ _ (by omega)];rfl) (fun j hj _ W4 hW4=> ?_) trivial
     show qqW K W W4 b t t (((QB b t).length:Nat):Int) j zL ((wAt b t).set t (((QB b t).take j).foldl orB ((wAt b t).getD t 0))) (QB b t)
     unfold qqW
     by_cases hjl:j< (QB b t).length
     . rw [zq hjl,cond_true]
       simp only [toN]
       have hl2:t< ((wAt b t).set t (((QB b t).take j).foldl orB ((wAt b t).getD t 0))).length:=by rw [List.length_set];omega
       refine ⟨by omega,hjl,wm hjl ⟨by omega,by omega,wm hl2 ⟨by omega,by omega,by omega,wm hl2 ?_⟩⟩⟩
       have:=hW4 hjl trivial
       rw [jm hjl,List.foldl_append] at this
       rw [jw hjl (by omega),List.set_set,List.getElem_set_self]
       exact this
     . have:j=(QB b t).length:=by omega
       subst this
       rw [qG,cond_false,List.take_length]
       unfold Z6
       rw [wI (by omega)]
       exact hW
   . rw [decide_eq_false (show¬(t:Int) <16 by omega),cond_false]
     unfold schA at hW
     rw [if_neg h16] at hW
     have e15:IntKind.i64.wrap ((t:Int) - 15)=((t-15:Nat):Int):=by rw [wI (by omega)];omega
     have e2:IntKind.i64.wrap ((t:Int) - 2)=((t-2:Nat):Int):=by rw [wI (by omega)];omega
     have e7:IntKind.i64.wrap ((t:Int) - 7)=((t-7:Nat):Int):=by rw [wI (by omega)];omega
     have e16:IntKind.i64.wrap ((t:Int) - 16)=((t-16:Nat):Int):=by rw [wI (by omega)];omega
     rw [e15,e2,e7,e16]
     simp only [toN]
     refine ⟨by omega,by omega,wm (by omega) ⟨by omega,by omega,wm (by omega) ⟨trivial,trivial,by omega,by omega,by omega,wm (by omega) ⟨trivial,trivial,by omega,by omega,by omega,wm (by omega) ⟨by omega,by omega,wm (by omega) ?_⟩⟩⟩⟩⟩
     unfold Z6
     unfold schW at hW
     rw [Yz (show t-2< (wAt b t).length by omega),Yz (show t-7< (wAt b t).length by omega),Yz (show t-15< (wAt b t).length by omega),Yz (show t-16< (wAt b t).length by omega)] at hW
     rw [wI (by omega)]
     exact hW
 . have:t=64:=by omega
   subst this
   rw [decide_eq_false (by omega),cond_false]
   exact ⟨by omega,⟨by omega,by rw [hlen];rfl⟩,by omega,h⟩
def sp112:Sp:=⟨S112,L112,fun g=>g.1.size=64,fun g=> .al .u32 (schP g.1),fun _=>none⟩
theorem sp112_ok:sp112.Ok Tryz.prog 112 false:=
 ⟨fun g K X hp h=>F112_ok g K X (F112_is hp h),fun _ _ _=>rfl,fun _=>rfl,fun h=>(by cases h)⟩
end Go.Proofs.YtbglndogddddoaaGreatDoor
namespace Go.Proofs.YtbglndogddddoaaGreatDoor
open Go.RowKit
attribute [local irreducible] qW qb
set_option maxRecDepth 100000
def H66:List (Nat×Hint):=[(4,⟨[((2,[]),none),((4,[]),none),((5,[]),none),((6,[]),none)],[(2, .pt 0 0),(4, .pt 1 0),(5, .pa .u32 2),(6, .pa .u32 3),(7, .leaf),(8, .leaf),(9, .leaf),(10, .leaf),(11, .leaf),(12, .leaf),(13, .leaf),(14, .leaf),(39, .leaf)],[.cells [.leaf, .leaf, .leaf, .leaf, .leaf, .leaf, .leaf, .leaf], .cells [.leaf, .leaf, .leaf, .leaf, .leaf, .leaf, .leaf, .leaf], .arr .u32, .arr .u32],[.int .u32, .int .u32, .int .u32, .int .u32, .int .u32, .int .u32, .int .u32, .int .u32, .int .i64, .int .u32, .int .u32, .int .u32, .int .u32, .int .u32, .int .u32, .int .u32, .int .u32, .int .u32, .int .u32, .int .u32, .int .u32, .int .u32, .int .u32, .int .u32, .int .u32, .sl .u32, .sl .u32]⟩),(11,⟨[],[],[],[]⟩),(9000011,⟨[],[],[],[]⟩)]
def J66:List (Nat×Hint):=[]
abbrev S66:List Sh:=[.ag [.leaf, .leaf, .leaf, .leaf, .leaf, .leaf, .leaf, .leaf], .leaf]
abbrev L66:List Lf:=[.int .u32, .int .u32, .int .u32, .int .u32, .int .u32, .int .u32, .int .u32, .int .u32, .str]
def Wf (K:Kn) (W2:prodL [.int .u32, .int .u32, .int .u32, .int .u32, .int .u32, .int .u32, .int .u32, .int .u32, .int .i64, .int .u32, .int .u32, .int .u32, .int .u32, .int .u32, .int .u32, .int .u32, .int .u32, .int .u32, .int .u32, .int .u32, .int .u32, .int .u32, .int .u32, .int .u32, .int .u32, .sl .u32, .sl .u32]->Prop) (a_1 b_1 c_1 d_1 e_1 f_1 g_1 h_1 t_1 state1_1 state2_1 state3_1 state4_1 state5_1 state6_1 state7_1 state8_1 t1_1 t2_1 t3_1 t4_1 t5_1 t6_1 t7_1 t8_1:Int) (w_1:List Int) (k_1:List Int):Prop:=
 bif decide (t_1<64)then (
  True/\
 True/\
 True/\
 0<=t_1/\t_1.toNat<64/\
 atI k_1 t_1.toNat fun x3=>
 0<=t_1/\t_1.toNat<64/\
 atI w_1 t_1.toNat fun x4=>
 True/\
 True/\
 True/\
 W2 (IntKind.u32.wrap ((IntKind.u32.wrap ((IntKind.u32.wrap ((IntKind.u32.wrap ((IntKind.u32.wrap (h_1+(qd .xor .u32 (qd .xor .u32 (vz e_1 6) (vz e_1 11)) (vz e_1 25))))+(qd .xor .u32 (qd .and .u32 e_1 f_1) (qd .and .u32 (qd .xor .u32 IntKind.u32.max e_1) g_1))))+x3))+x4))+(IntKind.u32.wrap ((qd .xor .u32 (qd .xor .u32 (vz a_1 2) (vz a_1 13)) (vz a_1 22))+(qd .xor .u32 (qd .xor .u32 (qd .and .u32 a_1 b_1) (qd .and .u32 a_1 c_1)) (qd .and .u32 b_1 c_1))))),a_1,b_1,c_1,IntKind.u32.wrap (d_1+(IntKind.u32.wrap ((IntKind.u32.wrap ((IntKind.u32.wrap ((IntKind.u32.wrap (h_1+(qd .xor .u32 (qd .xor .u32 (vz e_1 6) (vz e_1 11)) (vz e_1 25))))+(qd .xor .u32 (qd .and .u32 e_1 f_1) (qd .and .u32 (qd .xor .u32 IntKind.u32.max e_1) g_1))))+x3))+x4))),e_1,f_1,g_1,IntKind.i64.wrap (t_1+1),state1_1,state2_1,state3_1,state4_1,state5_1,state6_1,state7_1,state8_1,t1_1,t2_1,t3_1,t4_1,t5_1,t6_1,t7_1,t8_1,w_1,k_1,()))
 else (
  (0:Int)<=0/\(0:Int).toNat<8/\
 0<=(0:Int)/\(0:Int).toNat<8/\
 0<=(0:Int)/\(0:Int).toNat<8/\
 (0:Int)<=1/\(1:Int).toNat<8/\
 0<=(1:Int)/\(1:Int).toNat<8/\
 0<=(1:Int)/\(1:Int).toNat<8/\
 (0:Int)<=2/\(2:Int).toNat<8/\
 0<=(2:Int)/\(2:Int).toNat<8/\
 0<=(2:Int)/\(2:Int).toNat<8/\
 (0:Int)<=3/\(3:Int).toNat<8/\
 0<=(3:Int)/\(3:Int).toNat<8/\
 0<=(3:Int)/\(3:Int).toNat<8/\
 (0:Int)<=4/\(4:Int).toNat<8/\
 0<=(4:Int)/\(4:Int).toNat<8/\
 0<=(4:Int)/\(4:Int).toNat<8/\
 (0:Int)<=5/\(5:Int).toNat<8/\
 0<=(5:Int)/\(5:Int).toNat<8/\
 0<=(5:Int)/\(5:Int).toNat<8/\
 (0:Int)<=6/\(6:Int).toNat<8/\
 0<=(6:Int)/\(6:Int).toNat<8/\
 0<=(6:Int)/\(6:Int).toNat<8/\
 (0:Int)<=7/\(7:Int).toNat<8/\
 0<=(7:Int)/\(7:Int).toNat<8/\
 0<=(7:Int)/\(7:Int).toNat<8/\
 K (.ag [.int .u32 (IntKind.u32.wrap (state1_1+a_1)), .int .u32 (IntKind.u32.wrap (state2_1+b_1)), .int .u32 (IntKind.u32.wrap (state3_1+c_1)), .int .u32 (IntKind.u32.wrap (state4_1+d_1)), .int .u32 (IntKind.u32.wrap (state5_1+e_1)), .int .u32 (IntKind.u32.wrap (state6_1+f_1)), .int .u32 (IntKind.u32.wrap (state7_1+g_1)), .int .u32 (IntKind.u32.wrap (state8_1+h_1))]) [])
def F66_L2 (K:Kn) (g:prodL [.int .u32, .int .u32, .int .u32, .int .u32, .int .u32, .int .u32, .int .u32, .int .u32, .int .i64, .int .u32, .int .u32, .int .u32, .int .u32, .int .u32, .int .u32, .int .u32, .int .u32, .int .u32, .int .u32, .int .u32, .int .u32, .int .u32, .int .u32, .int .u32, .int .u32, .sl .u32, .sl .u32]):Prop:=
 qX (γ:=prodL [.int .u32, .int .u32, .int .u32, .int .u32, .int .u32, .int .u32, .int .u32, .int .u32, .int .i64, .int .u32, .int .u32, .int .u32, .int .u32, .int .u32, .int .u32, .int .u32, .int .u32, .int .u32, .int .u32, .int .u32, .int .u32, .int .u32, .int .u32, .int .u32, .int .u32, .sl .u32, .sl .u32]) (fun V y=>Wf K V y.1 y.2.1 y.2.2.1 y.2.2.2.1 y.2.2.2.2.1 y.2.2.2.2.2.1 y.2.2.2.2.2.2.1 y.2.2.2.2.2.2.2.1 y.2.2.2.2.2.2.2.2.1 y.2.2.2.2.2.2.2.2.2.1 y.2.2.2.2.2.2.2.2.2.2.1 y.2.2.2.2.2.2.2.2.2.2.2.1 y.2.2.2.2.2.2.2.2.2.2.2.2.1 y.2.2.2.2.2.2.2.2.2.2.2.2.2.1 y.2.2.2.2.2.2.2.2.2.2.2.2.2.2.1 y.2.2.2.2.2.2.2.2.2.2.2.2.2.2.2.1 y.2.2.2.2.2.2.2.2.2.2.2.2.2.2.2.2.1 y.2.2.2.2.2.2.2.2.2.2.2.2.2.2.2.2.2.1 y.2.2.2.2.2.2.2.2.2.2.2.2.2.2.2.2.2.2.1 y.2.2.2.2.2.2.2.2.2.2.2.2.2.2.2.2.2.2.2.1 y.2.2.2.2.2.2.2.2.2.2.2.2.2.2.2.2.2.2.2.2.1 y.2.2.2.2.2.2.2.2.2.2.2.2.2.2.2.2.2.2.2.2.2.1 y.2.2.2.2.2.2.2.2.2.2.2.2.2.2.2.2.2.2.2.2.2.2.1 y.2.2.2.2.2.2.2.2.2.2.2.2.2.2.2.2.2.2.2.2.2.2.2.1 y.2.2.2.2.2.2.2.2.2.2.2.2.2.2.2.2.2.2.2.2.2.2.2.2.1 y.2.2.2.2.2.2.2.2.2.2.2.2.2.2.2.2.2.2.2.2.2.2.2.2.2.1 y.2.2.2.2.2.2.2.2.2.2.2.2.2.2.2.2.2.2.2.2.2.2.2.2.2.2.1) g
def F66 (g:prodL L66) (K:Kn):Prop:=
 sp112.pre (g.2.2.2.2.2.2.2.2.1,())/\
 True/\
 vE ((schP g.2.2.2.2.2.2.2.2.1).length*1=64/\(schP g.2.2.2.2.2.2.2.2.1).length=(List.replicate 64 (0:Int)).length) (
 vE (kL.length*1=64/\kL.length=(List.replicate 64 (0:Int)).length) (
 0<=(0:Int)/\(0:Int).toNat<8/\
 0<=(1:Int)/\(1:Int).toNat<8/\
 0<=(2:Int)/\(2:Int).toNat<8/\
 0<=(3:Int)/\(3:Int).toNat<8/\
 0<=(4:Int)/\(4:Int).toNat<8/\
 0<=(5:Int)/\(5:Int).toNat<8/\
 0<=(6:Int)/\(6:Int).toNat<8/\
 0<=(7:Int)/\(7:Int).toNat<8/\
 F66_L2 K (g.1,g.2.1,g.2.2.1,g.2.2.2.1,g.2.2.2.2.1,g.2.2.2.2.2.1,g.2.2.2.2.2.2.1,g.2.2.2.2.2.2.2.1,0,g.1,g.2.1,g.2.2.1,g.2.2.2.1,g.2.2.2.2.1,g.2.2.2.2.2.1,g.2.2.2.2.2.2.1,g.2.2.2.2.2.2.2.1,0,0,0,0,0,0,0,0,schP g.2.2.2.2.2.2.2.2.1,kL,())))
theorem F66_eq (g:prodL L66) (K X:Kn):F66 g K=qW D (qJ [] [(112,false,sp112),(113,false,sp113),(114,true,sp114)]) (qv []) H66 J66 123 [.cell 4 101] (qq Tryz.f66) (argsT S66 L66 g) [] (settle0 K) X:=by kernel_rfl
theorem F66_ok (g:prodL L66) (K X:Kn) (h:F66 g K):FCalls Tryz.prog 66 (argsT S66 L66 g) [] K X:=
 FCalls.settle0 (qz qh (vN (vV sp112_ok (vV sp113_ok (vV sp114_ok vC)))) qj rfl Tryz.func66 (c:=qq Tryz.f66) rfl Tryz.ntmps66 Tryz.results66 (by unfold qk;rw [Tryz.func66];kernel_rfl) (Nat.le_of_ble_eq_true (by kernel_rfl)) (c0:=0) (Eq.mp (F66_eq g K X) h))
end Go.Proofs.YtbglndogddddoaaGreatDoor
namespace Go.Proofs.YtbglndogddddoaaGreatDoor
open Go.RowKit
set_option maxRecDepth 100000
theorem addW_8 (x0 x1 x2 x3 x4 x5 x6 x7 a b c d e f g k:Int):WE [x0,x1,x2,x3,x4,x5,x6,x7] [a,b,c,d,e,f,g,k]=[IntKind.u32.wrap (x0+a),IntKind.u32.wrap (x1+b),IntKind.u32.wrap (x2+c),IntKind.u32.wrap (x3+d),IntKind.u32.wrap (x4+e),IntKind.u32.wrap (x5+f),IntKind.u32.wrap (x6+g),IntKind.u32.wrap (x7+k)]:=rfl
theorem rnd_8 (w:List Int) (t:Nat) (a b c d e f g k:Int):rnd w [a,b,c,d,e,f,g,k] t=[IntKind.u32.wrap (Vy w t e f g k+rndT2 a b c),a,b,c,IntKind.u32.wrap (d+Vy w t e f g k),e,f,g]:=rfl
theorem kL_len:kL.length=64:=rfl
theorem vAt_zero (w s:List Int):vAt w s 0=s:=rfl
theorem F66_B2_is {K:Kn} {W:prodL [.int .u32, .int .u32, .int .u32, .int .u32, .int .u32, .int .u32, .int .u32, .int .u32, .int .i64, .int .u32, .int .u32, .int .u32, .int .u32, .int .u32, .int .u32, .int .u32, .int .u32, .int .u32, .int .u32, .int .u32, .int .u32, .int .u32, .int .u32, .int .u32, .int .u32, .sl .u32, .sl .u32]->Prop}
  {w:List Int} (hw:w.length=64) {t:Nat} (ht:t<64) {a b c d e f g k x0 x1 x2 x3 x4 x5 x6 x7:Int}
  (h:W (IntKind.u32.wrap (Vy w t e f g k+rndT2 a b c),a,b,c,IntKind.u32.wrap (d+Vy w t e f g k),e,f,g,((t+1:Nat):Int),x0,x1,x2,x3,x4,x5,x6,x7,0,0,0,0,0,0,0,0,w,kL,())):
  Wf K W a b c d e f g k t x0 x1 x2 x3 x4 x5 x6 x7 0 0 0 0 0 0 0 0 w kL:=by
 have hk:=kL_len
 unfold Wf
 rw [decide_eq_true (show (t:Int) <64 by omega),cond_true]
 unfold Vy rndT2 at h
 rw [Yz (show t<kL.length by omega),Yz (show t<w.length by omega)] at h
 simp only [toN]
 rw [wI (by omega)]
 exact ⟨trivial,trivial,trivial,by omega,by omega,wm (show t<kL.length by omega) ⟨by omega,by omega,wm (show t<w.length by omega) ⟨trivial,trivial,trivial,h⟩⟩⟩
theorem F66_B2_end {K:Kn} {W:prodL [.int .u32, .int .u32, .int .u32, .int .u32, .int .u32, .int .u32, .int .u32, .int .u32, .int .i64, .int .u32, .int .u32, .int .u32, .int .u32, .int .u32, .int .u32, .int .u32, .int .u32, .int .u32, .int .u32, .int .u32, .int .u32, .int .u32, .int .u32, .int .u32, .int .u32, .sl .u32, .sl .u32]->Prop}
  {w l:List Int} {a b c d e f g k x0 x1 x2 x3 x4 x5 x6 x7:Int}
  (h:K (.ag [.int .u32 (IntKind.u32.wrap (x0+a)), .int .u32 (IntKind.u32.wrap (x1+b)), .int .u32 (IntKind.u32.wrap (x2+c)), .int .u32 (IntKind.u32.wrap (x3+d)), .int .u32 (IntKind.u32.wrap (x4+e)), .int .u32 (IntKind.u32.wrap (x5+f)), .int .u32 (IntKind.u32.wrap (x6+g)), .int .u32 (IntKind.u32.wrap (x7+k))]) []):
  Wf K W a b c d e f g k 64 x0 x1 x2 x3 x4 x5 x6 x7 0 0 0 0 0 0 0 0 w l:=by
 unfold Wf
 rw [decide_eq_false (by omega),cond_false]
 repeat (refine And.intro (by decide) ?_)
 exact h
theorem F66_L2_is {w:List Int} (hw:w.length=64) {x0 x1 x2 x3 x4 x5 x6 x7:Int} {K:Kn} (h:K (.ag [.int .u32 ((WE [x0,x1,x2,x3,x4,x5,x6,x7] (vAt w [x0,x1,x2,x3,x4,x5,x6,x7] 64)).getD 0 0), .int .u32 ((WE [x0,x1,x2,x3,x4,x5,x6,x7] (vAt w [x0,x1,x2,x3,x4,x5,x6,x7] 64)).getD 1 0), .int .u32 ((WE [x0,x1,x2,x3,x4,x5,x6,x7] (vAt w [x0,x1,x2,x3,x4,x5,x6,x7] 64)).getD 2 0), .int .u32 ((WE [x0,x1,x2,x3,x4,x5,x6,x7] (vAt w [x0,x1,x2,x3,x4,x5,x6,x7] 64)).getD 3 0), .int .u32 ((WE [x0,x1,x2,x3,x4,x5,x6,x7] (vAt w [x0,x1,x2,x3,x4,x5,x6,x7] 64)).getD 4 0), .int .u32 ((WE [x0,x1,x2,x3,x4,x5,x6,x7] (vAt w [x0,x1,x2,x3,x4,x5,x6,x7] 64)).getD 5 0), .int .u32 ((WE [x0,x1,x2,x3,x4,x5,x6,x7] (vAt w [x0,x1,x2,x3,x4,x5,x6,x7] 64)).getD 6 0), .int .u32 ((WE [x0,x1,x2,x3,x4,x5,x6,x7] (vAt w [x0,x1,x2,x3,x4,x5,x6,x7] 64)).getD 7 0)]) []):
  F66_L2 K (x0,x1,x2,x3,x4,x5,x6,x7,0,x0,x1,x2,x3,x4,x5,x6,x7,0,0,0,0,0,0,0,0,w,kL,()):=by
 have hs:[x0,x1,x2,x3,x4,x5,x6,x7].length=8:=rfl
 have key: ∀t,(vAt w [x0,x1,x2,x3,x4,x5,x6,x7] t).length=8:=vAt_len w hs
 have hz:=vAt_zero w [x0,x1,x2,x3,x4,x5,x6,x7]
 have hsu:=vAt_succ w [x0,x1,x2,x3,x4,x5,x6,x7]
 generalize vAt w [x0,x1,x2,x3,x4,x5,x6,x7]=v at h key hz hsu
 unfold F66_L2
 refine qX.countTo 64 (fun t=>((v t).getD 0 0,(v t).getD 1 0,(v t).getD 2 0,(v t).getD 3 0,(v t).getD 4 0,(v t).getD 5 0,(v t).getD 6 0,(v t).getD 7 0,(t:Int),x0,x1,x2,x3,x4,x5,x6,x7,0,0,0,0,0,0,0,0,w,kL,())) (fun _=>True) (by rw [hz];rfl) (fun t ht _ W hW=> ?_) trivial
 obtain ⟨a,b,c,d,e,f,g,k,hv⟩:=eight (key t)
 by_cases hlt:t<64
 . have hW:=hW hlt trivial
   rw [hsu,hv,rnd_8] at hW
   rw [hv]
   exact F66_B2_is hw hlt hW
 . have:t=64:=by omega
   subst this
   rw [hv,addW_8] at h
   rw [hv]
   exact F66_B2_end h
theorem F66_is {x0 x1 x2 x3 x4 x5 x6 x7:Int} {b:ByteArray} {K:Kn} (hb:b.size=64) (h:K (.ag [.int .u32 ((qp [x0,x1,x2,x3,x4,x5,x6,x7] b).getD 0 0), .int .u32 ((qp [x0,x1,x2,x3,x4,x5,x6,x7] b).getD 1 0), .int .u32 ((qp [x0,x1,x2,x3,x4,x5,x6,x7] b).getD 2 0), .int .u32 ((qp [x0,x1,x2,x3,x4,x5,x6,x7] b).getD 3 0), .int .u32 ((qp [x0,x1,x2,x3,x4,x5,x6,x7] b).getD 4 0), .int .u32 ((qp [x0,x1,x2,x3,x4,x5,x6,x7] b).getD 5 0), .int .u32 ((qp [x0,x1,x2,x3,x4,x5,x6,x7] b).getD 6 0), .int .u32 ((qp [x0,x1,x2,x3,x4,x5,x6,x7] b).getD 7 0)]) []):F66 (x0,x1,x2,x3,x4,x5,x6,x7,b,()) K:=by
 have hw:(schP b).length=64:=wAt_len b 64
 unfold qp at h
 unfold F66
 refine ⟨hb,trivial, ?_⟩
 dsimp only
 generalize schP b=w at hw h ⊢
 refine ⟨⟨by omega,by rw [hw];rfl⟩,⟨rfl,rfl⟩, ?_⟩
 repeat (refine And.intro (by decide) ?_)
 exact F66_L2_is hw h
def sp66:Sp:=⟨S66,L66,fun g=>g.2.2.2.2.2.2.2.2.1.size=64,fun g=> .ag [.int .u32 ((qp [g.1,g.2.1,g.2.2.1,g.2.2.2.1,g.2.2.2.2.1,g.2.2.2.2.2.1,g.2.2.2.2.2.2.1,g.2.2.2.2.2.2.2.1] g.2.2.2.2.2.2.2.2.1).getD 0 0), .int .u32 ((qp [g.1,g.2.1,g.2.2.1,g.2.2.2.1,g.2.2.2.2.1,g.2.2.2.2.2.1,g.2.2.2.2.2.2.1,g.2.2.2.2.2.2.2.1] g.2.2.2.2.2.2.2.2.1).getD 1 0), .int .u32 ((qp [g.1,g.2.1,g.2.2.1,g.2.2.2.1,g.2.2.2.2.1,g.2.2.2.2.2.1,g.2.2.2.2.2.2.1,g.2.2.2.2.2.2.2.1] g.2.2.2.2.2.2.2.2.1).getD 2 0), .int .u32 ((qp [g.1,g.2.1,g.2.2.1,g.2.2.2.1,g.2.2.2.2.1,g.2.2.2.2.2.1,g.2.2.2.2.2.2.1,g.2.2.2.2.2.2.2.1] g.2.2.2.2.2.2.2.2.1).getD 3 0), .int .u32 ((qp [g.1,g.2.1,g.2.2.1,g.2.2.2.1,g.2.2.2.2.1,g.2.2.2.2.2.1,g.2.2.2.2.2.2.1,g.2.2.2.2.2.2.2.1] g.2.2.2.2.2.2.2.2.1).getD 4 0), .int .u32 ((qp [g.1,g.2.1,g.2.2.1,g.2.2.2.1,g.2.2.2.2.1,g.2.2.2.2.2.1,g.2.2.2.2.2.2.1,g.2.2.2.2.2.2.2.1] g.2.2.2.2.2.2.2.2.1).getD 5 0), .int .u32 ((qp [g.1,g.2.1,g.2.2.1,g.2.2.2.1,g.2.2.2.2.1,g.2.2.2.2.2.1,g.2.2.2.2.2.2.1,g.2.2.2.2.2.2.2.1] g.2.2.2.2.2.2.2.2.1).getD 6 0), .int .u32 ((qp [g.1,g.2.1,g.2.2.1,g.2.2.2.1,g.2.2.2.2.1,g.2.2.2.2.2.1,g.2.2.2.2.2.2.1,g.2.2.2.2.2.2.2.1] g.2.2.2.2.2.2.2.2.1).getD 7 0)],fun _=>none⟩
theorem sp66_ok:sp66.Ok Tryz.prog 66 true:=
 ⟨fun g K X hp h=>F66_ok g K X (F66_is hp h),fun _ _ _=>rfl,fun _=>rfl,fun _ _=>⟨rfl,rfl⟩⟩
end Go.Proofs.YtbglndogddddoaaGreatDoor
namespace Go.Proofs.YtbglndogddddoaaGreatDoor
open Go.RowKit
attribute [local irreducible] qW qb
set_option maxRecDepth 100000
def H1033004:List (Nat×Hint):=[]
def J1033004:List (Nat×Hint):=[]
abbrev wN:List Sh:=[.leaf, .pt 0 0]
abbrev xY:List Lf:=[.str, .int .u32, .int .u32, .int .u32, .int .u32, .int .u32, .int .u32, .int .u32, .int .u32]
abbrev Zw:List ObSh:=[.cells [.leaf, .leaf, .leaf, .leaf, .leaf, .leaf, .leaf, .leaf]]
def WZ (g:prodL xY) (K:Kn):Prop:=
 sp66.pre (g.2.1,g.2.2.1,g.2.2.2.1,g.2.2.2.2.1,g.2.2.2.2.2.1,g.2.2.2.2.2.2.1,g.2.2.2.2.2.2.2.1,g.2.2.2.2.2.2.2.2.1,g.1,())/\
 K (.bool true) [some (.cells [.int .u32 ((qp [g.2.1,g.2.2.1,g.2.2.2.1,g.2.2.2.2.1,g.2.2.2.2.2.1,g.2.2.2.2.2.2.1,g.2.2.2.2.2.2.2.1,g.2.2.2.2.2.2.2.2.1] g.1).getD 0 0), .int .u32 ((qp [g.2.1,g.2.2.1,g.2.2.2.1,g.2.2.2.2.1,g.2.2.2.2.2.1,g.2.2.2.2.2.2.1,g.2.2.2.2.2.2.2.1,g.2.2.2.2.2.2.2.2.1] g.1).getD 1 0), .int .u32 ((qp [g.2.1,g.2.2.1,g.2.2.2.1,g.2.2.2.2.1,g.2.2.2.2.2.1,g.2.2.2.2.2.2.1,g.2.2.2.2.2.2.2.1,g.2.2.2.2.2.2.2.2.1] g.1).getD 2 0), .int .u32 ((qp [g.2.1,g.2.2.1,g.2.2.2.1,g.2.2.2.2.1,g.2.2.2.2.2.1,g.2.2.2.2.2.2.1,g.2.2.2.2.2.2.2.1,g.2.2.2.2.2.2.2.2.1] g.1).getD 3 0), .int .u32 ((qp [g.2.1,g.2.2.1,g.2.2.2.1,g.2.2.2.2.1,g.2.2.2.2.2.1,g.2.2.2.2.2.2.1,g.2.2.2.2.2.2.2.1,g.2.2.2.2.2.2.2.2.1] g.1).getD 4 0), .int .u32 ((qp [g.2.1,g.2.2.1,g.2.2.2.1,g.2.2.2.2.1,g.2.2.2.2.2.1,g.2.2.2.2.2.2.1,g.2.2.2.2.2.2.2.1,g.2.2.2.2.2.2.2.2.1] g.1).getD 5 0), .int .u32 ((qp [g.2.1,g.2.2.1,g.2.2.2.1,g.2.2.2.2.1,g.2.2.2.2.2.1,g.2.2.2.2.2.2.1,g.2.2.2.2.2.2.2.1,g.2.2.2.2.2.2.2.2.1] g.1).getD 6 0), .int .u32 ((qp [g.2.1,g.2.2.1,g.2.2.2.1,g.2.2.2.2.1,g.2.2.2.2.2.1,g.2.2.2.2.2.2.1,g.2.2.2.2.2.2.2.1,g.2.2.2.2.2.2.2.2.1] g.1).getD 7 0)])]
theorem F1033004_eq (g:prodL xY) (K:Kn):WZ g K=qb D (qJ [] [(66,true,sp66)]) (qv []) H1033004 J1033004 (QE Tryz.prog 1033004) [3] (argsT wN xY g) (qZ wN Zw xY g) (settleD (qZ wN Zw xY g).length 0 K) 0:=by kernel_rfl
theorem F1033004_ok (g:prodL xY) (K X:Kn) (h:WZ g K):FCalls Tryz.prog 1033004 (argsT wN xY g) (qZ wN Zw xY g) K X 0:=
 FCalls.settleD (Kl (Γ:=qJ [] [(66,true,sp66)]) (mu:=qv []) (H:=H1033004) (J:=J1033004) qh (qV (rs:=[]) (l:=[(66,true,sp66)]) (fun p hp=>by cases hp) (by intro p hp;simp only [List.mem_cons,List.not_mem_nil,or_false] at hp;subst hp;exact sp66_ok)) qj rfl (yi:=⟨33,4,[3]⟩) rfl (by kernel_rfl) (by kernel_rfl) (by kernel_rfl) (by rw [F1033004_eq g K] at h;exact h))
def vd:Raw:=⟨wN,Zw,xY,0,fun g K _=>WZ g K⟩
theorem rw1033004_ok:vd.Ok Tryz.prog 1033004:=fun g K X h=>F1033004_ok g K X h
def H111:List (Nat×Hint):=[(2,⟨[],[(0, .fn 1033004 [] [.pt 0 0]),(1, .leaf),(3, .leaf),(4, .leaf)],[.cells [.leaf, .leaf, .leaf, .leaf, .leaf, .leaf, .leaf, .leaf]],[.pr .str, .int .i64, .int .i64, .int .u32, .int .u32, .int .u32, .int .u32, .int .u32, .int .u32, .int .u32, .int .u32]⟩),(6,⟨[((5,[]),none)],[(0, .fn 1033004 [] [.pt 0 0]),(1, .leaf),(5, .oa .u8 1)],[.cells [.leaf, .leaf, .leaf, .leaf, .leaf, .leaf, .leaf, .leaf], .arr .u8],[.pr .str, .int .u32, .int .u32, .int .u32, .int .u32, .int .u32, .int .u32, .int .u32, .int .u32, .sl .u8]⟩),(9,⟨[((5,[]),none)],[(0, .fn 1033004 [] [.pt 0 0]),(1, .leaf),(5, .oa .u8 1),(6, .leaf)],[.cells [.leaf, .leaf, .leaf, .leaf, .leaf, .leaf, .leaf, .leaf], .arr .u8],[.pr .str, .int .i64, .int .u32, .int .u32, .int .u32, .int .u32, .int .u32, .int .u32, .int .u32, .int .u32, .sl .u8]⟩),(13,⟨[((5,[]),none)],[(0, .fn 1033004 [] [.pt 0 0]),(5, .oa .u8 1),(7, .leaf)],[.cells [.leaf, .leaf, .leaf, .leaf, .leaf, .leaf, .leaf, .leaf], .arr .u8],[.int .i64, .int .u32, .int .u32, .int .u32, .int .u32, .int .u32, .int .u32, .int .u32, .int .u32, .sl .u8]⟩)]
def J111:List (Nat×Hint):=[]
abbrev S111:List Sh:=[.fn 1033004 [] [.pt 0 0], .leaf]
abbrev L111:List Lf:=[.pr .str, .int .u32, .int .u32, .int .u32, .int .u32, .int .u32, .int .u32, .int .u32, .int .u32]
abbrev O111:List ObSh:=[.cells [.leaf, .leaf, .leaf, .leaf, .leaf, .leaf, .leaf, .leaf]]
def K9 (K:Kn) (W9:prodL [.int .i64, .int .u32, .int .u32, .int .u32, .int .u32, .int .u32, .int .u32, .int .u32, .int .u32, .sl .u8]->Prop) (i_8 o01_8 o02_8 o03_8 o04_8 o05_8 o06_8 o07_8 o08_8:Int) (last_8:List Int):Prop:=
 bif decide (i_8< (last_8.length:Int))then (
  (0:Int)<=i_8/\i_8<=IntKind.i64.wrap (i_8+64)/\IntKind.i64.wrap (i_8+64)<=(last_8.length:Int)/\
 let g10:prodL [.str, .int .u32, .int .u32, .int .u32, .int .u32, .int .u32, .int .u32, .int .u32, .int .u32]:=(xf ((last_8.drop i_8.toNat).take ((IntKind.i64.wrap (i_8+64)).toNat-i_8.toNat)),o01_8,o02_8,o03_8,o04_8,o05_8,o06_8,o07_8,o08_8,());
 sp66.pre (g10.2.1,g10.2.2.1,g10.2.2.2.1,g10.2.2.2.2.1,g10.2.2.2.2.2.1,g10.2.2.2.2.2.2.1,g10.2.2.2.2.2.2.2.1,g10.2.2.2.2.2.2.2.2.1,g10.1,())/\
 W9 (IntKind.i64.wrap (i_8+64),(qp [g10.2.1,g10.2.2.1,g10.2.2.2.1,g10.2.2.2.2.1,g10.2.2.2.2.2.1,g10.2.2.2.2.2.2.1,g10.2.2.2.2.2.2.2.1,g10.2.2.2.2.2.2.2.2.1] g10.1).getD 0 0,(qp [g10.2.1,g10.2.2.1,g10.2.2.2.1,g10.2.2.2.2.1,g10.2.2.2.2.2.1,g10.2.2.2.2.2.2.1,g10.2.2.2.2.2.2.2.1,g10.2.2.2.2.2.2.2.2.1] g10.1).getD 1 0,(qp [g10.2.1,g10.2.2.1,g10.2.2.2.1,g10.2.2.2.2.1,g10.2.2.2.2.2.1,g10.2.2.2.2.2.2.1,g10.2.2.2.2.2.2.2.1,g10.2.2.2.2.2.2.2.2.1] g10.1).getD 2 0,(qp [g10.2.1,g10.2.2.1,g10.2.2.2.1,g10.2.2.2.2.1,g10.2.2.2.2.2.1,g10.2.2.2.2.2.2.1,g10.2.2.2.2.2.2.2.1,g10.2.2.2.2.2.2.2.2.1] g10.1).getD 3 0,(qp [g10.2.1,g10.2.2.1,g10.2.2.2.1,g10.2.2.2.2.1,g10.2.2.2.2.2.1,g10.2.2.2.2.2.2.1,g10.2.2.2.2.2.2.2.1,g10.2.2.2.2.2.2.2.2.1] g10.1).getD 4 0,(qp [g10.2.1,g10.2.2.1,g10.2.2.2.1,g10.2.2.2.2.1,g10.2.2.2.2.2.1,g10.2.2.2.2.2.2.1,g10.2.2.2.2.2.2.2.1,g10.2.2.2.2.2.2.2.2.1] g10.1).getD 5 0,(qp [g10.2.1,g10.2.2.1,g10.2.2.2.1,g10.2.2.2.2.1,g10.2.2.2.2.2.1,g10.2.2.2.2.2.2.1,g10.2.2.2.2.2.2.2.1,g10.2.2.2.2.2.2.2.2.1] g10.1).getD 6 0,(qp [g10.2.1,g10.2.2.1,g10.2.2.2.1,g10.2.2.2.2.1,g10.2.2.2.2.2.1,g10.2.2.2.2.2.2.1,g10.2.2.2.2.2.2.2.1,g10.2.2.2.2.2.2.2.2.1] g10.1).getD 7 0,last_8,()))
 else (
  K (.tu []) [some (.cells [.int .u32 o01_8, .int .u32 o02_8, .int .u32 o03_8, .int .u32 o04_8, .int .u32 o05_8, .int .u32 o06_8, .int .u32 o07_8, .int .u32 o08_8])])
def X5 (K:Kn) (g:prodL [.int .i64, .int .u32, .int .u32, .int .u32, .int .u32, .int .u32, .int .u32, .int .u32, .int .u32, .sl .u8]):Prop:=
 qX (γ:=prodL [.int .i64, .int .u32, .int .u32, .int .u32, .int .u32, .int .u32, .int .u32, .int .u32, .int .u32, .sl .u8]) (fun V y=>K9 K V y.1 y.2.1 y.2.2.1 y.2.2.2.1 y.2.2.2.2.1 y.2.2.2.2.2.1 y.2.2.2.2.2.2.1 y.2.2.2.2.2.2.2.1 y.2.2.2.2.2.2.2.2.1 y.2.2.2.2.2.2.2.2.2.1) g
def ZU (K:Kn) (W7:prodL [.pr .str, .int .i64, .int .u32, .int .u32, .int .u32, .int .u32, .int .u32, .int .u32, .int .u32, .int .u32, .sl .u8]->Prop) (t_6:ByteArray) (i_6 o01_6 o02_6 o03_6 o04_6 o05_6 o06_6 o07_6 o08_6:Int) (last_6:List Int):Prop:=
 bif decide (0<=i_6)then (
  (0:Int)<=i_6/\
 qP (last_6.length+[IntKind.u8.wrap (Int.fdiv (IntKind.u64.wrap ((IntKind.u64.wrap (t_6.size:Int))*8)) (2^(min i_6.toNat IntKind.u64.bits)))].length) 1 (
 W7 (t_6,IntKind.i64.wrap (i_6-8),o01_6,o02_6,o03_6,o04_6,o05_6,o06_6,o07_6,o08_6,last_6++[IntKind.u8.wrap (Int.fdiv (IntKind.u64.wrap ((IntKind.u64.wrap (t_6.size:Int))*8)) (2^(min i_6.toNat IntKind.u64.bits)))],())))
 else (
  X5 K (0,o01_6,o02_6,o03_6,o04_6,o05_6,o06_6,o07_6,o08_6,last_6,()))
def XE (K:Kn) (g:prodL [.pr .str, .int .i64, .int .u32, .int .u32, .int .u32, .int .u32, .int .u32, .int .u32, .int .u32, .int .u32, .sl .u8]):Prop:=
 qX (γ:=prodL [.pr .str, .int .i64, .int .u32, .int .u32, .int .u32, .int .u32, .int .u32, .int .u32, .int .u32, .int .u32, .sl .u8]) (fun V y=>ZU K V y.1 y.2.1 y.2.2.1 y.2.2.2.1 y.2.2.2.2.1 y.2.2.2.2.2.1 y.2.2.2.2.2.2.1 y.2.2.2.2.2.2.2.1 y.2.2.2.2.2.2.2.2.1 y.2.2.2.2.2.2.2.2.2.1 y.2.2.2.2.2.2.2.2.2.2.1) g
def F111_B5 (K:Kn) (W5:prodL [.pr .str, .int .u32, .int .u32, .int .u32, .int .u32, .int .u32, .int .u32, .int .u32, .int .u32, .sl .u8]->Prop) (t_4:ByteArray) (o01_4 o02_4 o03_4 o04_4 o05_4 o06_4 o07_4 o08_4:Int) (last_4:List Int):Prop:=
 ¬64=(0:Int)/\
 bif !decide (Int.tmod (last_4.length:Int) 64=56)then (
  qP (last_4.length+[0].length) 1 (
 W5 (t_4,o01_4,o02_4,o03_4,o04_4,o05_4,o06_4,o07_4,o08_4,last_4++[0],())))
 else (
  XE K (t_4,56,o01_4,o02_4,o03_4,o04_4,o05_4,o06_4,o07_4,o08_4,last_4,()))
def qqQ (K:Kn) (g:prodL [.pr .str, .int .u32, .int .u32, .int .u32, .int .u32, .int .u32, .int .u32, .int .u32, .int .u32, .sl .u8]):Prop:=
 qX (γ:=prodL [.pr .str, .int .u32, .int .u32, .int .u32, .int .u32, .int .u32, .int .u32, .int .u32, .int .u32, .sl .u8]) (fun V y=>F111_B5 K V y.1 y.2.1 y.2.2.1 y.2.2.2.1 y.2.2.2.2.1 y.2.2.2.2.2.1 y.2.2.2.2.2.2.1 y.2.2.2.2.2.2.2.1 y.2.2.2.2.2.2.2.2.1 y.2.2.2.2.2.2.2.2.2.1) g
def F111_B2 (K:Kn) (W2:prodL [.pr .str, .int .i64, .int .i64, .int .u32, .int .u32, .int .u32, .int .u32, .int .u32, .int .u32, .int .u32, .int .u32]->Prop) (t_1:ByteArray) (whole_1 i_1 o01_1 o02_1 o03_1 o04_1 o05_1 o06_1 o07_1 o08_1:Int):Prop:=
 bif decide (i_1<whole_1)then (
  (0:Int)<=i_1/\i_1<=IntKind.i64.wrap (i_1+64)/\IntKind.i64.wrap (i_1+64)<=(t_1.size:Int)/\
 let g3:prodL [.str, .int .u32, .int .u32, .int .u32, .int .u32, .int .u32, .int .u32, .int .u32, .int .u32]:=(t_1.extract i_1.toNat (IntKind.i64.wrap (i_1+64)).toNat,o01_1,o02_1,o03_1,o04_1,o05_1,o06_1,o07_1,o08_1,());
 sp66.pre (g3.2.1,g3.2.2.1,g3.2.2.2.1,g3.2.2.2.2.1,g3.2.2.2.2.2.1,g3.2.2.2.2.2.2.1,g3.2.2.2.2.2.2.2.1,g3.2.2.2.2.2.2.2.2.1,g3.1,())/\
 W2 (t_1,whole_1,IntKind.i64.wrap (i_1+64),(qp [g3.2.1,g3.2.2.1,g3.2.2.2.1,g3.2.2.2.2.1,g3.2.2.2.2.2.1,g3.2.2.2.2.2.2.1,g3.2.2.2.2.2.2.2.1,g3.2.2.2.2.2.2.2.2.1] g3.1).getD 0 0,(qp [g3.2.1,g3.2.2.1,g3.2.2.2.1,g3.2.2.2.2.1,g3.2.2.2.2.2.1,g3.2.2.2.2.2.2.1,g3.2.2.2.2.2.2.2.1,g3.2.2.2.2.2.2.2.2.1] g3.1).getD 1 0,(qp [g3.2.1,g3.2.2.1,g3.2.2.2.1,g3.2.2.2.2.1,g3.2.2.2.2.2.1,g3.2.2.2.2.2.2.1,g3.2.2.2.2.2.2.2.1,g3.2.2.2.2.2.2.2.2.1] g3.1).getD 2 0,(qp [g3.2.1,g3.2.2.1,g3.2.2.2.1,g3.2.2.2.2.1,g3.2.2.2.2.2.1,g3.2.2.2.2.2.2.1,g3.2.2.2.2.2.2.2.1,g3.2.2.2.2.2.2.2.2.1] g3.1).getD 3 0,(qp [g3.2.1,g3.2.2.1,g3.2.2.2.1,g3.2.2.2.2.1,g3.2.2.2.2.2.1,g3.2.2.2.2.2.2.1,g3.2.2.2.2.2.2.2.1,g3.2.2.2.2.2.2.2.2.1] g3.1).getD 4 0,(qp [g3.2.1,g3.2.2.1,g3.2.2.2.1,g3.2.2.2.2.1,g3.2.2.2.2.2.1,g3.2.2.2.2.2.2.1,g3.2.2.2.2.2.2.2.1,g3.2.2.2.2.2.2.2.2.1] g3.1).getD 5 0,(qp [g3.2.1,g3.2.2.1,g3.2.2.2.1,g3.2.2.2.2.1,g3.2.2.2.2.2.1,g3.2.2.2.2.2.2.1,g3.2.2.2.2.2.2.2.1,g3.2.2.2.2.2.2.2.2.1] g3.1).getD 6 0,(qp [g3.2.1,g3.2.2.1,g3.2.2.2.1,g3.2.2.2.2.1,g3.2.2.2.2.2.1,g3.2.2.2.2.2.2.1,g3.2.2.2.2.2.2.2.1,g3.2.2.2.2.2.2.2.2.1] g3.1).getD 7 0,()))
 else (
  (0:Int)<=whole_1/\whole_1<=(t_1.size:Int)/\(t_1.size:Int)<=(t_1.size:Int)/\
 qP (t_1.extract whole_1.toNat (t_1.size:Int).toNat).size 1 (
 qP ((zV (t_1.extract whole_1.toNat (t_1.size:Int).toNat)).length+[128].length) 1 (
 qqQ K (t_1,o01_1,o02_1,o03_1,o04_1,o05_1,o06_1,o07_1,o08_1,(zV (t_1.extract whole_1.toNat (t_1.size:Int).toNat))++[128],()))))
def F111_L2 (K:Kn) (g:prodL [.pr .str, .int .i64, .int .i64, .int .u32, .int .u32, .int .u32, .int .u32, .int .u32, .int .u32, .int .u32, .int .u32]):Prop:=
 qX (γ:=prodL [.pr .str, .int .i64, .int .i64, .int .u32, .int .u32, .int .u32, .int .u32, .int .u32, .int .u32, .int .u32, .int .u32]) (fun V y=>F111_B2 K V y.1 y.2.1 y.2.2.1 y.2.2.2.1 y.2.2.2.2.1 y.2.2.2.2.2.1 y.2.2.2.2.2.2.1 y.2.2.2.2.2.2.2.1 y.2.2.2.2.2.2.2.2.1 y.2.2.2.2.2.2.2.2.2.1 y.2.2.2.2.2.2.2.2.2.2.1) g
def F111 (g:prodL L111) (K:Kn):Prop:=
 ¬64=(0:Int)/\
 F111_L2 K (g.1,IntKind.i64.wrap ((IntKind.i64.wrap (Int.tdiv (g.1.size:Int) 64))*64),0,g.2.1,g.2.2.1,g.2.2.2.1,g.2.2.2.2.1,g.2.2.2.2.2.1,g.2.2.2.2.2.2.1,g.2.2.2.2.2.2.2.1,g.2.2.2.2.2.2.2.2.1,())
theorem F111_eq (g:prodL L111) (K X:Kn):F111 g K=qW D (qJ [(1033004,vd)] []) (qv [(1033004,vd)]) H111 J111 67 [] (qq Tryz.f111) (argsT S111 L111 g) (qZ S111 O111 L111 g) (settleD (qZ S111 O111 L111 g).length 0 K) X 0:=by kernel_rfl
theorem F111_ok (g:prodL L111) (K X:Kn) (h:F111 g K):FCalls Tryz.prog 111 (argsT S111 L111 g) (qZ S111 O111 L111 g) K X 0:=
 FCalls.settleD (qz (Γ:=qJ [(1033004,vd)] []) (mu:=qv [(1033004,vd)]) (H:=H111) (J:=J111) qh (qV (rs:=[(1033004,vd)]) (l:=[]) (by intro p hp;simp only [List.mem_cons,List.not_mem_nil,or_false] at hp;subst hp;exact rw1033004_ok) (fun p hp=>by cases hp)) qj rfl Tryz.func111 (c:=qq Tryz.f111) rfl Tryz.ntmps111 (rs:=[]) Tryz.results111 (by unfold qk;rw [Tryz.func111];kernel_rfl) (Nat.le_of_ble_eq_true (by kernel_rfl)) (X:=X) (c0:=0) (Eq.mp (F111_eq g K X) h))
end Go.Proofs.YtbglndogddddoaaGreatDoor
namespace Go.Proofs.YtbglndogddddoaaGreatDoor
open Go.RowKit
set_option maxRecDepth 100000
def vA (st:List Int) (l:List ByteArray) (n:Nat):List Int:=(l.take n).foldl qp st
theorem vA_zero (st:List Int) (l:List ByteArray):vA st l 0=st:=by simp [vA]
theorem vA_succ (st:List Int) {l:List ByteArray} {n:Nat} (h:n<l.length):vA st l (n+1)=qp (vA st l n) l[n]:=by
 unfold vA
 rw [jm h,List.foldl_append];rfl
theorem vA_len {st:List Int} (h:st.length=8) (l:List ByteArray) (n:Nat):(vA st l n).length=8:=foldl_len h
theorem vA_all (st:List Int) (l:List ByteArray):vA st l l.length=l.foldl qp st:=by unfold vA;rw [List.take_length]
theorem bStr_size (l:List Int):(xf l).size=l.length:=by
 show (l.map fun n=>UInt8.ofNat n.toNat).toArray.size=_
 simp
theorem strB_cut (s:ByteArray) (a b:Nat) (hb:b<=s.size):(zV (s.extract a b)).length=b-a:=by
 rw [xk,ByteArray.size_extract];omega
theorem endL_len (s:ByteArray):(Xd s).length=s.size%64+1:=by
 unfold Xd
 rw [List.length_append,strB_cut _ _ _ (Nat.le_refl _),List.length_singleton];omega
theorem padL_len (s:ByteArray):(padL s).length%64=56/\(padL s).length<=130:=by
 unfold padL
 rw [List.length_append,List.length_replicate,endL_len]
 unfold padN
 omega
theorem lastL_len (s:ByteArray):(WO s).length%64=0/\(WO s).length<=138:=by
 have:=padL_len s
 unfold WO
 rw [List.length_append,List.length_map,List.length_range]
 omega
theorem F111_L9_is {x0 x1 x2 x3 x4 x5 x6 x7:Int} {last:List Int} {K:Kn} (h1:last.length%64=0) (h2:last.length<=1000) (h:K (.tu []) [some (.cells [.int .u32 ((((List.range (last.length / 64)).map (yZ last)).foldl qp [x0,x1,x2,x3,x4,x5,x6,x7]).getD 0 0), .int .u32 ((((List.range (last.length / 64)).map (yZ last)).foldl qp [x0,x1,x2,x3,x4,x5,x6,x7]).getD 1 0), .int .u32 ((((List.range (last.length / 64)).map (yZ last)).foldl qp [x0,x1,x2,x3,x4,x5,x6,x7]).getD 2 0), .int .u32 ((((List.range (last.length / 64)).map (yZ last)).foldl qp [x0,x1,x2,x3,x4,x5,x6,x7]).getD 3 0), .int .u32 ((((List.range (last.length / 64)).map (yZ last)).foldl qp [x0,x1,x2,x3,x4,x5,x6,x7]).getD 4 0), .int .u32 ((((List.range (last.length / 64)).map (yZ last)).foldl qp [x0,x1,x2,x3,x4,x5,x6,x7]).getD 5 0), .int .u32 ((((List.range (last.length / 64)).map (yZ last)).foldl qp [x0,x1,x2,x3,x4,x5,x6,x7]).getD 6 0), .int .u32 ((((List.range (last.length / 64)).map (yZ last)).foldl qp [x0,x1,x2,x3,x4,x5,x6,x7]).getD 7 0)])]):X5 K (0,x0,x1,x2,x3,x4,x5,x6,x7,last,()):=by
 have hN:((List.range (last.length / 64)).map (yZ last)).length=last.length / 64:=by simp
 have hg: ∀n (hn:n< ((List.range (last.length / 64)).map (yZ last)).length),((List.range (last.length / 64)).map (yZ last))[n]=yZ last n:=fun n hn=>by simp
 rw [<- vA_all,hN] at h
 have hz:=vA_zero [x0,x1,x2,x3,x4,x5,x6,x7] ((List.range (last.length / 64)).map (yZ last))
 have hs: ∀n,n<last.length / 64->vA [x0,x1,x2,x3,x4,x5,x6,x7] ((List.range (last.length / 64)).map (yZ last)) (n+1)=qp (vA [x0,x1,x2,x3,x4,x5,x6,x7] ((List.range (last.length / 64)).map (yZ last)) n) (yZ last n):=fun n hn=>by
  rw [vA_succ _ (by rw [hN];exact hn),hg]
 have hl:=vA_len (st:=[x0,x1,x2,x3,x4,x5,x6,x7]) rfl ((List.range (last.length / 64)).map (yZ last))
 generalize vA [x0,x1,x2,x3,x4,x5,x6,x7] ((List.range (last.length / 64)).map (yZ last))=v at h hz hs hl
 unfold X5
 refine qX.countTo (last.length / 64) (fun n=>(((64*n:Nat):Int),(v n).getD 0 0,(v n).getD 1 0,(v n).getD 2 0,(v n).getD 3 0,(v n).getD 4 0,(v n).getD 5 0,(v n).getD 6 0,(v n).getD 7 0,last,())) (fun _=>True) (by rw [hz];rfl) (fun n hn _ W hW=> ?_) trivial
 show K9 K W ((64*n:Nat):Int) ((v n).getD 0 0) ((v n).getD 1 0) ((v n).getD 2 0) ((v n).getD 3 0) ((v n).getD 4 0) ((v n).getD 5 0) ((v n).getD 6 0) ((v n).getD 7 0) last
 unfold K9
 by_cases hlt:n<last.length / 64
 . rw [decide_eq_true (by omega),cond_true]
   have e:IntKind.i64.wrap (((64*n:Nat):Int)+64)=((64*n+64:Nat):Int):=by rw [wI (by omega)];omega
   have hb:(last.drop ((64*n:Nat):Int).toNat).take (((64*n+64:Nat):Int).toNat- ((64*n:Nat):Int).toNat)=(last.drop (64*n)).take 64:=by
    rw [toN,toN,show 64*n+64-64*n=64 by omega]
   rw [e,hb]
   have hW:=hW hlt trivial
   rw [hs n hlt] at hW
   obtain ⟨a,b,c,d,e,f,g,k,hv⟩:=eight (hl n)
   rw [hv] at hW ⊢
   refine ⟨by omega,by omega,by omega, ?_, ?_⟩
   . show (xf ((last.drop (64*n)).take 64)).size=64
     rw [bStr_size,List.length_take,List.length_drop];omega
   . exact hW
 . have:n=last.length / 64:=by omega
   subst this
   rw [decide_eq_false (by omega),cond_false]
   exact h
theorem F111_L7_is {s:ByteArray} {x0 x1 x2 x3 x4 x5 x6 x7:Int} {K:Kn} (hs:s.size<=4194304) (h:X5 K (0,x0,x1,x2,x3,x4,x5,x6,x7,WO s,())):XE K (s,56,x0,x1,x2,x3,x4,x5,x6,x7,padL s,()):=by
 have hp:=padL_len s
 unfold XE
 refine qX.mapN 8 (lenB s) (fun n out=>(s,56-8*(n:Int),x0,x1,x2,x3,x4,x5,x6,x7,padL s++out,())) (by rw [List.append_nil];rfl) (fun W n hn out ho hW=> ?_) fun W=> ?_
 . show ZU K W s (56-8*(n:Int)) x0 x1 x2 x3 x4 x5 x6 x7 (padL s++out)
   unfold ZU
   rw [decide_eq_true (by omega),cond_true]
   refine ⟨by omega,by simp only [List.length_append,List.length_singleton,ho];omega, ?_⟩
   rw [<- List.append_assoc] at hW
   rw [wI (by omega),show (56:Int) - 8*(n:Int) - 8=56-8*((n+1:Nat):Int)by omega]
   exact hW
 . show ZU K W s (56-8*((8:Nat):Int)) x0 x1 x2 x3 x4 x5 x6 x7 (WO s)
   unfold ZU
   rw [decide_eq_false (by omega),cond_false]
   exact h
theorem F111_L5_is {s:ByteArray} {x0 x1 x2 x3 x4 x5 x6 x7:Int} {K:Kn} (h:XE K (s,56,x0,x1,x2,x3,x4,x5,x6,x7,padL s,())):qqQ K (s,x0,x1,x2,x3,x4,x5,x6,x7,Xd s,()):=by
 have he:=endL_len s
 unfold qqQ
 refine qX.countTo (padN (Xd s).length) (fun n=>(s,x0,x1,x2,x3,x4,x5,x6,x7,Xd s++List.replicate n 0,())) (fun _=>True) (by simp) (fun n hn _ W hW=> ?_) trivial
 show F111_B5 K W s x0 x1 x2 x3 x4 x5 x6 x7 (Xd s++List.replicate n 0)
 unfold F111_B5
 refine ⟨by omega, ?_⟩
 have hlen:(Xd s++List.replicate n 0).length=s.size%64+1+n:=by rw [List.length_append,List.length_replicate,he]
 rw [hlen,Int.tmod_eq_emod_of_nonneg (Int.natCast_nonneg _)]
 have hp:padN (Xd s).length=(120- (s.size%64+1)%64)%64:=by unfold padN;rw [he]
 by_cases hlt:n<padN (Xd s).length
 . rw [decide_eq_false (show¬((s.size%64+1+n:Nat):Int)%64=56 by omega),Bool.not_false,cond_true]
   refine ⟨by simp only [List.length_singleton];omega, ?_⟩
   have:=hW hlt trivial
   rw [List.replicate_succ', <- List.append_assoc] at this
   exact this
 . have e:n=padN (Xd s).length:=by omega
   rw [decide_eq_true (show ((s.size%64+1+n:Nat):Int)%64=56 by omega),Bool.not_true,cond_false]
   rw [e];exact h
theorem F111_is {s:ByteArray} {x0 x1 x2 x3 x4 x5 x6 x7:Int} {K:Kn} (hsz:s.size<=4194304) (h:K (.tu []) [some (.cells [.int .u32 ((zh [x0,x1,x2,x3,x4,x5,x6,x7] s).getD 0 0), .int .u32 ((zh [x0,x1,x2,x3,x4,x5,x6,x7] s).getD 1 0), .int .u32 ((zh [x0,x1,x2,x3,x4,x5,x6,x7] s).getD 2 0), .int .u32 ((zh [x0,x1,x2,x3,x4,x5,x6,x7] s).getD 3 0), .int .u32 ((zh [x0,x1,x2,x3,x4,x5,x6,x7] s).getD 4 0), .int .u32 ((zh [x0,x1,x2,x3,x4,x5,x6,x7] s).getD 5 0), .int .u32 ((zh [x0,x1,x2,x3,x4,x5,x6,x7] s).getD 6 0), .int .u32 ((zh [x0,x1,x2,x3,x4,x5,x6,x7] s).getD 7 0)])]):F111 (s,x0,x1,x2,x3,x4,x5,x6,x7,()) K:=by
 unfold F111
 refine ⟨by omega, ?_⟩
 have hw:IntKind.i64.wrap (IntKind.i64.wrap (Int.tdiv (s.size:Int) 64)*64)=((s.size / 64*64:Nat):Int):=by
  rw [Int.tdiv_eq_ediv_of_nonneg (Int.natCast_nonneg _),wI (n:=(s.size:Int) / 64) (by omega),wI (by omega)];omega
 show F111_L2 K (s,IntKind.i64.wrap (IntKind.i64.wrap (Int.tdiv (s.size:Int) 64)*64),0,x0,x1,x2,x3,x4,x5,x6,x7,())
 rw [hw]
 unfold zh at h
 rw [List.foldl_append] at h
 have hN:(Xe s).length=s.size / 64:=by simp [Xe]
 have hg: ∀n (hn:n< (Xe s).length),(Xe s)[n]=blkW s n:=fun n hn=>by simp [Xe]
 rw [<- vA_all [x0,x1,x2,x3,x4,x5,x6,x7] (Xe s),hN] at h
 have hz:=vA_zero [x0,x1,x2,x3,x4,x5,x6,x7] (Xe s)
 have hs: ∀n,n<s.size / 64->vA [x0,x1,x2,x3,x4,x5,x6,x7] (Xe s) (n+1)=qp (vA [x0,x1,x2,x3,x4,x5,x6,x7] (Xe s) n) (blkW s n):=fun n hn=>by
  rw [vA_succ _ (by rw [hN];exact hn),hg]
 have hl:=vA_len (st:=[x0,x1,x2,x3,x4,x5,x6,x7]) rfl (Xe s)
 generalize vA [x0,x1,x2,x3,x4,x5,x6,x7] (Xe s)=v at h hz hs hl
 unfold F111_L2
 refine qX.countTo (s.size / 64) (fun n=>(s,((s.size / 64*64:Nat):Int),((64*n:Nat):Int),(v n).getD 0 0,(v n).getD 1 0,(v n).getD 2 0,(v n).getD 3 0,(v n).getD 4 0,(v n).getD 5 0,(v n).getD 6 0,(v n).getD 7 0,())) (fun _=>True) (by rw [hz];rfl) (fun n hn _ W hW=> ?_) trivial
 show F111_B2 K W s ((s.size / 64*64:Nat):Int) ((64*n:Nat):Int) ((v n).getD 0 0) ((v n).getD 1 0) ((v n).getD 2 0) ((v n).getD 3 0) ((v n).getD 4 0) ((v n).getD 5 0) ((v n).getD 6 0) ((v n).getD 7 0)
 unfold F111_B2
 by_cases hlt:n<s.size / 64
 . rw [decide_eq_true (by omega),cond_true]
   have e:IntKind.i64.wrap (((64*n:Nat):Int)+64)=((64*n+64:Nat):Int):=by rw [wI (by omega)];omega
   rw [e,toN,toN]
   have hW:=hW hlt trivial
   rw [hs n hlt] at hW
   obtain ⟨a,b,c,d,e,f,g,k,hv⟩:=eight (hl n)
   rw [hv] at hW ⊢
   refine ⟨by omega,by omega,by omega, ?_, ?_⟩
   . show (s.extract (64*n) (64*n+64)).size=64
     rw [ByteArray.size_extract];omega
   . exact hW
 . have:n=s.size / 64:=by omega
   subst this
   rw [decide_eq_false (by omega),cond_false]
   obtain ⟨a,b,c,d,e,f,g,k,hv⟩:=eight (hl (s.size / 64))
   rw [hv] at h ⊢
   rw [toN,toN]
   have hx:=strB_cut s (s.size / 64*64) s.size (Nat.le_refl _)
   refine ⟨by omega,by omega,by omega,by rw [ByteArray.size_extract];omega,by rw [hx,List.length_singleton];omega, ?_⟩
   have hla:=lastL_len s
   exact F111_L5_is (F111_L7_is hsz (F111_L9_is hla.1 (by omega) h))
def KZ:Raw:=⟨S111,O111,L111,0,fun g K _=>pre111 g/\K (.tu []) [some (.cells [.int .u32 ((zh [g.2.1,g.2.2.1,g.2.2.2.1,g.2.2.2.2.1,g.2.2.2.2.2.1,g.2.2.2.2.2.2.1,g.2.2.2.2.2.2.2.1,g.2.2.2.2.2.2.2.2.1] g.1).getD 0 0), .int .u32 ((zh [g.2.1,g.2.2.1,g.2.2.2.1,g.2.2.2.2.1,g.2.2.2.2.2.1,g.2.2.2.2.2.2.1,g.2.2.2.2.2.2.2.1,g.2.2.2.2.2.2.2.2.1] g.1).getD 1 0), .int .u32 ((zh [g.2.1,g.2.2.1,g.2.2.2.1,g.2.2.2.2.1,g.2.2.2.2.2.1,g.2.2.2.2.2.2.1,g.2.2.2.2.2.2.2.1,g.2.2.2.2.2.2.2.2.1] g.1).getD 2 0), .int .u32 ((zh [g.2.1,g.2.2.1,g.2.2.2.1,g.2.2.2.2.1,g.2.2.2.2.2.1,g.2.2.2.2.2.2.1,g.2.2.2.2.2.2.2.1,g.2.2.2.2.2.2.2.2.1] g.1).getD 3 0), .int .u32 ((zh [g.2.1,g.2.2.1,g.2.2.2.1,g.2.2.2.2.1,g.2.2.2.2.2.1,g.2.2.2.2.2.2.1,g.2.2.2.2.2.2.2.1,g.2.2.2.2.2.2.2.2.1] g.1).getD 4 0), .int .u32 ((zh [g.2.1,g.2.2.1,g.2.2.2.1,g.2.2.2.2.1,g.2.2.2.2.2.1,g.2.2.2.2.2.2.1,g.2.2.2.2.2.2.2.1,g.2.2.2.2.2.2.2.2.1] g.1).getD 5 0), .int .u32 ((zh [g.2.1,g.2.2.1,g.2.2.2.1,g.2.2.2.2.1,g.2.2.2.2.2.1,g.2.2.2.2.2.2.1,g.2.2.2.2.2.2.2.1,g.2.2.2.2.2.2.2.2.1] g.1).getD 6 0), .int .u32 ((zh [g.2.1,g.2.2.1,g.2.2.2.1,g.2.2.2.2.1,g.2.2.2.2.2.1,g.2.2.2.2.2.2.1,g.2.2.2.2.2.2.2.1,g.2.2.2.2.2.2.2.2.1] g.1).getD 7 0)])]⟩
theorem rw111_ok:KZ.Ok Tryz.prog 111:=fun g K X h=>F111_ok g K X (F111_is h.1 h.2)
end Go.Proofs.YtbglndogddddoaaGreatDoor
namespace Go.Proofs.YtbglndogddddoaaGreatDoor
open Go.RowKit
attribute [local irreducible] qW qb
set_option maxRecDepth 100000
def H33:List (Nat×Hint):=[(7,⟨[],[],[],[]⟩),(10,⟨[],[],[],[]⟩),(5000010,⟨[],[],[],[]⟩),(9000007,⟨[],[],[],[]⟩)]
def J33:List (Nat×Hint):=[]
abbrev S33:List Sh:=[.leaf]
abbrev L33:List Lf:=[.str]
def F33 (g:prodL L33) (K:Kn):Prop:=
 True/\
 True/\
 pre111 (g.1,1779033703,3144134277,1013904242,2773480762,1359893119,2600822924,528734635,1541459225,())/\
 (0:Int)<=0/\(0:Int).toNat<8/\
 (0:Int)<=24/\
 0<=(0:Int)/\(0:Int).toNat<32/\
 (0:Int)<=16/\
 0<=(1:Int)/\(1:Int).toNat<32/\
 (0:Int)<=8/\
 0<=(2:Int)/\(2:Int).toNat<32/\
 (0:Int)<=0/\
 0<=(3:Int)/\(3:Int).toNat<32/\
 (0:Int)<=1/\(1:Int).toNat<8/\
 (0:Int)<=24/\
 0<=(4:Int)/\(4:Int).toNat<32/\
 (0:Int)<=16/\
 0<=(5:Int)/\(5:Int).toNat<32/\
 (0:Int)<=8/\
 0<=(6:Int)/\(6:Int).toNat<32/\
 (0:Int)<=0/\
 0<=(7:Int)/\(7:Int).toNat<32/\
 (0:Int)<=2/\(2:Int).toNat<8/\
 (0:Int)<=24/\
 0<=(8:Int)/\(8:Int).toNat<32/\
 (0:Int)<=16/\
 0<=(9:Int)/\(9:Int).toNat<32/\
 (0:Int)<=8/\
 0<=(10:Int)/\(10:Int).toNat<32/\
 (0:Int)<=0/\
 0<=(11:Int)/\(11:Int).toNat<32/\
 (0:Int)<=3/\(3:Int).toNat<8/\
 (0:Int)<=24/\
 0<=(12:Int)/\(12:Int).toNat<32/\
 (0:Int)<=16/\
 0<=(13:Int)/\(13:Int).toNat<32/\
 (0:Int)<=8/\
 0<=(14:Int)/\(14:Int).toNat<32/\
 (0:Int)<=0/\
 0<=(15:Int)/\(15:Int).toNat<32/\
 (0:Int)<=4/\(4:Int).toNat<8/\
 (0:Int)<=24/\
 0<=(16:Int)/\(16:Int).toNat<32/\
 (0:Int)<=16/\
 0<=(17:Int)/\(17:Int).toNat<32/\
 (0:Int)<=8/\
 0<=(18:Int)/\(18:Int).toNat<32/\
 (0:Int)<=0/\
 0<=(19:Int)/\(19:Int).toNat<32/\
 (0:Int)<=5/\(5:Int).toNat<8/\
 (0:Int)<=24/\
 0<=(20:Int)/\(20:Int).toNat<32/\
 (0:Int)<=16/\
 0<=(21:Int)/\(21:Int).toNat<32/\
 (0:Int)<=8/\
 0<=(22:Int)/\(22:Int).toNat<32/\
 (0:Int)<=0/\
 0<=(23:Int)/\(23:Int).toNat<32/\
 (0:Int)<=6/\(6:Int).toNat<8/\
 (0:Int)<=24/\
 0<=(24:Int)/\(24:Int).toNat<32/\
 (0:Int)<=16/\
 0<=(25:Int)/\(25:Int).toNat<32/\
 (0:Int)<=8/\
 0<=(26:Int)/\(26:Int).toNat<32/\
 (0:Int)<=0/\
 0<=(27:Int)/\(27:Int).toNat<32/\
 (0:Int)<=7/\(7:Int).toNat<8/\
 (0:Int)<=24/\
 0<=(28:Int)/\(28:Int).toNat<32/\
 (0:Int)<=16/\
 0<=(29:Int)/\(29:Int).toNat<32/\
 (0:Int)<=8/\
 0<=(30:Int)/\(30:Int).toNat<32/\
 (0:Int)<=0/\
 0<=(31:Int)/\(31:Int).toNat<32/\
 K (.ag (enc .dig (⟨IntKind.u8.wrap (Int.fdiv ((zh [1779033703,3144134277,1013904242,2773480762,1359893119,2600822924,528734635,1541459225] g.1).getD 0 0) (2^(min (24:Int).toNat IntKind.u32.bits))),IntKind.u8.wrap (Int.fdiv ((zh [1779033703,3144134277,1013904242,2773480762,1359893119,2600822924,528734635,1541459225] g.1).getD 0 0) (2^(min (16:Int).toNat IntKind.u32.bits))),IntKind.u8.wrap (Int.fdiv ((zh [1779033703,3144134277,1013904242,2773480762,1359893119,2600822924,528734635,1541459225] g.1).getD 0 0) (2^(min (8:Int).toNat IntKind.u32.bits))),IntKind.u8.wrap (Int.fdiv ((zh [1779033703,3144134277,1013904242,2773480762,1359893119,2600822924,528734635,1541459225] g.1).getD 0 0) (2^(min (0:Int).toNat IntKind.u32.bits))),IntKind.u8.wrap (Int.fdiv ((zh [1779033703,3144134277,1013904242,2773480762,1359893119,2600822924,528734635,1541459225] g.1).getD 1 0) (2^(min (24:Int).toNat IntKind.u32.bits))),IntKind.u8.wrap (Int.fdiv ((zh [1779033703,3144134277,1013904242,2773480762,1359893119,2600822924,528734635,1541459225] g.1).getD 1 0) (2^(min (16:Int).toNat IntKind.u32.bits))),IntKind.u8.wrap (Int.fdiv ((zh [1779033703,3144134277,1013904242,2773480762,1359893119,2600822924,528734635,1541459225] g.1).getD 1 0) (2^(min (8:Int).toNat IntKind.u32.bits))),IntKind.u8.wrap (Int.fdiv ((zh [1779033703,3144134277,1013904242,2773480762,1359893119,2600822924,528734635,1541459225] g.1).getD 1 0) (2^(min (0:Int).toNat IntKind.u32.bits))),IntKind.u8.wrap (Int.fdiv ((zh [1779033703,3144134277,1013904242,2773480762,1359893119,2600822924,528734635,1541459225] g.1).getD 2 0) (2^(min (24:Int).toNat IntKind.u32.bits))),IntKind.u8.wrap (Int.fdiv ((zh [1779033703,3144134277,1013904242,2773480762,1359893119,2600822924,528734635,1541459225] g.1).getD 2 0) (2^(min (16:Int).toNat IntKind.u32.bits))),IntKind.u8.wrap (Int.fdiv ((zh [1779033703,3144134277,1013904242,2773480762,1359893119,2600822924,528734635,1541459225] g.1).getD 2 0) (2^(min (8:Int).toNat IntKind.u32.bits))),IntKind.u8.wrap (Int.fdiv ((zh [1779033703,3144134277,1013904242,2773480762,1359893119,2600822924,528734635,1541459225] g.1).getD 2 0) (2^(min (0:Int).toNat IntKind.u32.bits))),IntKind.u8.wrap (Int.fdiv ((zh [1779033703,3144134277,1013904242,2773480762,1359893119,2600822924,528734635,1541459225] g.1).getD 3 0) (2^(min (24:Int).toNat IntKind.u32.bits))),IntKind.u8.wrap (Int.fdiv ((zh [1779033703,3144134277,1013904242,2773480762,1359893119,2600822924,528734635,1541459225] g.1).getD 3 0) (2^(min (16:Int).toNat IntKind.u32.bits))),IntKind.u8.wrap (Int.fdiv ((zh [1779033703,3144134277,1013904242,2773480762,1359893119,2600822924,528734635,1541459225] g.1).getD 3 0) (2^(min (8:Int).toNat IntKind.u32.bits))),IntKind.u8.wrap (Int.fdiv ((zh [1779033703,3144134277,1013904242,2773480762,1359893119,2600822924,528734635,1541459225] g.1).getD 3 0) (2^(min (0:Int).toNat IntKind.u32.bits))),IntKind.u8.wrap (Int.fdiv ((zh [1779033703,3144134277,1013904242,2773480762,1359893119,2600822924,528734635,1541459225] g.1).getD 4 0) (2^(min (24:Int).toNat IntKind.u32.bits))),IntKind.u8.wrap (Int.fdiv ((zh [1779033703,3144134277,1013904242,2773480762,1359893119,2600822924,528734635,1541459225] g.1).getD 4 0) (2^(min (16:Int).toNat IntKind.u32.bits))),IntKind.u8.wrap (Int.fdiv ((zh [1779033703,3144134277,1013904242,2773480762,1359893119,2600822924,528734635,1541459225] g.1).getD 4 0) (2^(min (8:Int).toNat IntKind.u32.bits))),IntKind.u8.wrap (Int.fdiv ((zh [1779033703,3144134277,1013904242,2773480762,1359893119,2600822924,528734635,1541459225] g.1).getD 4 0) (2^(min (0:Int).toNat IntKind.u32.bits))),IntKind.u8.wrap (Int.fdiv ((zh [1779033703,3144134277,1013904242,2773480762,1359893119,2600822924,528734635,1541459225] g.1).getD 5 0) (2^(min (24:Int).toNat IntKind.u32.bits))),IntKind.u8.wrap (Int.fdiv ((zh [1779033703,3144134277,1013904242,2773480762,1359893119,2600822924,528734635,1541459225] g.1).getD 5 0) (2^(min (16:Int).toNat IntKind.u32.bits))),IntKind.u8.wrap (Int.fdiv ((zh [1779033703,3144134277,1013904242,2773480762,1359893119,2600822924,528734635,1541459225] g.1).getD 5 0) (2^(min (8:Int).toNat IntKind.u32.bits))),IntKind.u8.wrap (Int.fdiv ((zh [1779033703,3144134277,1013904242,2773480762,1359893119,2600822924,528734635,1541459225] g.1).getD 5 0) (2^(min (0:Int).toNat IntKind.u32.bits))),IntKind.u8.wrap (Int.fdiv ((zh [1779033703,3144134277,1013904242,2773480762,1359893119,2600822924,528734635,1541459225] g.1).getD 6 0) (2^(min (24:Int).toNat IntKind.u32.bits))),IntKind.u8.wrap (Int.fdiv ((zh [1779033703,3144134277,1013904242,2773480762,1359893119,2600822924,528734635,1541459225] g.1).getD 6 0) (2^(min (16:Int).toNat IntKind.u32.bits))),IntKind.u8.wrap (Int.fdiv ((zh [1779033703,3144134277,1013904242,2773480762,1359893119,2600822924,528734635,1541459225] g.1).getD 6 0) (2^(min (8:Int).toNat IntKind.u32.bits))),IntKind.u8.wrap (Int.fdiv ((zh [1779033703,3144134277,1013904242,2773480762,1359893119,2600822924,528734635,1541459225] g.1).getD 6 0) (2^(min (0:Int).toNat IntKind.u32.bits))),IntKind.u8.wrap (Int.fdiv ((zh [1779033703,3144134277,1013904242,2773480762,1359893119,2600822924,528734635,1541459225] g.1).getD 7 0) (2^(min (24:Int).toNat IntKind.u32.bits))),IntKind.u8.wrap (Int.fdiv ((zh [1779033703,3144134277,1013904242,2773480762,1359893119,2600822924,528734635,1541459225] g.1).getD 7 0) (2^(min (16:Int).toNat IntKind.u32.bits))),IntKind.u8.wrap (Int.fdiv ((zh [1779033703,3144134277,1013904242,2773480762,1359893119,2600822924,528734635,1541459225] g.1).getD 7 0) (2^(min (8:Int).toNat IntKind.u32.bits))),IntKind.u8.wrap (Int.fdiv ((zh [1779033703,3144134277,1013904242,2773480762,1359893119,2600822924,528734635,1541459225] g.1).getD 7 0) (2^(min (0:Int).toNat IntKind.u32.bits)))⟩:Dig))) []
theorem F33_eq (g:prodL L33) (K X:Kn):F33 g K=qW D (qJ [(111,KZ)] [(64,false,sp64),(65,false,sp65)]) (qv [(111,KZ)]) H33 J33 38 [.cell 2 32] (qq Tryz.f33) (argsT S33 L33 g) [] (settle0 K) X 0 1033000:=by kernel_rfl
theorem F33_ok (g:prodL L33) (K X:Kn) (h:F33 g K):FCalls Tryz.prog 33 (argsT S33 L33 g) [] K X:=
 FCalls.settle0 (qz (Γ:=qJ [(111,KZ)] [(64,false,sp64),(65,false,sp65)]) (mu:=qv [(111,KZ)]) (H:=H33) (J:=J33) qh (qV (rs:=[(111,KZ)]) (l:=[(64,false,sp64),(65,false,sp65)]) (by intro p hp;simp only [List.mem_cons,List.not_mem_nil,or_false] at hp;subst hp;exact rw111_ok) (by intro p hp;simp only [List.mem_cons,List.not_mem_nil,or_false] at hp;rcases hp with rfl | rfl<;>first | exact sp64_ok | exact sp65_ok)) qj rfl Tryz.func33 (c:=qq Tryz.f33) rfl Tryz.ntmps33 Tryz.results33 (by unfold qk;rw [Tryz.func33];kernel_rfl) (Nat.le_of_ble_eq_true (by kernel_rfl)) (c0:=0) (Eq.mp (F33_eq g K X) h) (Xj [4] (by kernel_rfl) (by kernel_rfl)))
end Go.Proofs.YtbglndogddddoaaGreatDoor
namespace Go.Proofs.YtbglndogddddoaaGreatDoor
open Go.RowKit
set_option maxRecDepth 100000
theorem F33_is {s:ByteArray} {K:Kn} (hs:s.size<=4194304) (h:K (.ag (enc .dig (Xb s))) []):F33 (s,()) K:=by
 unfold F33
 refine ⟨trivial,trivial,hs, ?_⟩
 repeat (refine And.intro (by decide) ?_)
 unfold Xb at h
 show K (.ag (enc .dig (digW (zh st0 s)))) []
 exact h
def sp33:Sp:=⟨S33,L33,fun g=>g.1.size<=4194304,fun g=> .ag (enc .dig (Xb g.1)),fun _=>none⟩
theorem sp33_ok:sp33.Ok Tryz.prog 33 true:=
 ⟨fun g K X hp h=>F33_ok g K X (F33_is hp h),fun _ _ _=>rfl,fun _=>rfl,fun _ _=>⟨rfl,rfl⟩⟩
end Go.Proofs.YtbglndogddddoaaGreatDoor
namespace Go.Proofs.YtbglndogddddoaaGreatDoor
open Go.RowKit Go.Shelf Go.Lib
set_option maxRecDepth 100000
theorem cb_refl: ∀l:List UInt8,Lib.compareBytes l l=0
 | []=>rfl
 | a::l=>by
  unfold Lib.compareBytes
  simp [cb_refl l]
theorem cb_anti: ∀l m:List UInt8,Lib.compareBytes l m= - Lib.compareBytes m l
 | [],[]=>rfl
 | [],_::_=>rfl
 | _::_,[]=>rfl
 | a::l,b::m=>by
  have:=cb_anti l m
  unfold Lib.compareBytes
  have h: ∀x y:UInt8,x<y↔x.toNat<y.toNat:=fun x y=>Iff.rfl
  by_cases h1:a<b
  . have h2: ¬b<a:=by rw [h] at h1 ⊢;omega
    simp [h1,h2]
  . by_cases h2:b<a
    . simp [h1,h2]
    . simp [h1,h2,this]
theorem cb_trans: ∀l m n:List UInt8,Lib.compareBytes l m<=0->Lib.compareBytes m n<=0->Lib.compareBytes l n<=0/\(Lib.compareBytes l n=0->Lib.compareBytes l m=0/\Lib.compareBytes m n=0)
 | [],[],[],_,_=>⟨Int.le_refl 0,fun _=>⟨rfl,rfl⟩⟩
 | [],[],_::_,_,_=>⟨show (-1:Int)<=0 by decide,fun h=>absurd h (show¬(-1:Int)=0 by decide)⟩
 | [],_::_,[],_,h=>absurd h (show¬(1:Int)<=0 by decide)
 | [],_::_,_::_,_,_=>⟨show (-1:Int)<=0 by decide,fun h=>absurd h (show¬(-1:Int)=0 by decide)⟩
 | _::_,[],_,h,_=>absurd h (show¬(1:Int)<=0 by decide)
 | _::_,_::_,[],_,h=>absurd h (show¬(1:Int)<=0 by decide)
 | a::l,b::m,c::n,h1,h2=>by
  have ih:=cb_trans l m n
  unfold Lib.compareBytes at h1 h2 ⊢
  have h: ∀x y:UInt8,x<y↔x.toNat<y.toNat:=fun x y=>Iff.rfl
  by_cases a1:a<b
  . by_cases b1:b<c
    . have:a<c:=by rw [h] at a1 b1 ⊢;omega
      simp [this]
    . by_cases b2:c<b
      . simp [b1,b2] at h2
      . have:a<c:=by rw [h] at a1 b1 b2 ⊢;omega
        simp [this]
  . by_cases a2:b<a
    . simp [a1,a2] at h1
    . have e:a=b:=by rw [h] at a1 a2;exact UInt8.toNat_inj.1 (by omega)
      subst e
      simp only [a1,if_false] at h1
      by_cases b1:a<c
      . simp [b1]
      . by_cases b2:c<a
        . simp [b1,b2] at h2
        . simp only [b1,b2,if_false] at h2 ⊢
          simp only [a1,if_false]
          exact ih h1 h2
theorem idC_lt (a b:Idn):(idC a b<0)↔(jq a.patch b.patch<0∨(jq a.patch b.patch=0/\a.n<b.n)):=by
 unfold idC
 by_cases z:jq a.patch b.patch=0
 . rw [decide_eq_true z,Bool.not_true,cond_false]
   unfold JX
   by_cases h1:a.n<b.n
   . rw [decide_eq_true h1,cond_true];exact ⟨fun _=> .inr ⟨z,h1⟩,fun _=>by decide⟩
   . rw [decide_eq_false h1,cond_false]
     by_cases h2:b.n<a.n
     . rw [decide_eq_true h2,cond_true];exact ⟨fun h=>absurd h (by decide),fun h=>by omega⟩
     . rw [decide_eq_false h2,cond_false];exact ⟨fun h=>absurd h (by decide),fun h=>by omega⟩
 . rw [decide_eq_false z,Bool.not_false,cond_true]
   exact ⟨.inl,fun h=>by omega⟩
theorem JH (a b:Dig):jq a b= - jq b a:=cb_anti _ _
theorem Vh {a b c:Dig} (h1:jq a b<=0) (h2:jq b c<=0):jq a c<=0/\(jq a c=0->jq a b=0/\jq b c=0):=cb_trans _ _ _ h1 h2
theorem digC_refl (a:Dig):jq a a=0:=cb_refl _
theorem swo_id:Go.Sort.SWO (ltOf idC) where
 irrefl x:=by
  unfold ltOf
  rw [decide_eq_false_iff_not,idC_lt,digC_refl];omega
 trans x y z h1 h2:=by
  unfold ltOf at *
  rw [decide_eq_true_eq,idC_lt] at *
  have:=Vh (a:=x.patch) (b:=y.patch) (c:=z.patch)
  omega
 ntrans x y z h1 h2:=by
  unfold ltOf at *
  rw [decide_eq_false_iff_not,idC_lt] at *
  have:=Vh (a:=z.patch) (b:=y.patch) (c:=x.patch)
  have e1:=JH x.patch y.patch
  have e2:=JH y.patch z.patch
  have e3:=JH x.patch z.patch
  omega
instance:Inhabited Idn:=⟨iz⟩
instance:Inhabited Dig:=⟨dz⟩
def WD (l:List Idn):List Idn:=(Go.Sort.pdq (ltOf idC) l.toArray 0 l.toArray.size (Lib.bitLen l.toArray.size) true true).toList
def Yb (a m:ByteArray) (t:Int) (ds:List Dig) (cs:List Chg):Dig×Int:=bif !decide ((zH a m t ds cs).2.2=0)then (dz,(zH a m t ds cs).2.2)else (Xb (zH a m t ds cs).2.1,0)
def jD (d:Dig) (x:Idn):Idn:=bif (bif Qt x then decide (0<=x.n)else false)then ⟨d,x.n⟩else x
def aJ17 (d:Dig) (x:Atm):Atm:=⟨x.id,x.kind,x.file,x.typ,x.parent,x.name,x.mode,x.data,x.text,x.frm,x.til,WD (x.over.map (jD d))⟩
def aJ18 (d:Dig) (x:Atm):Atm:=bif decide (x.kind=6)then aJ17 d ⟨x.id,x.kind,x.file,x.typ,x.parent,x.name,x.mode,x.data,x.text,jD d x.frm,jD d x.til,x.over⟩else aJ17 d x
def aJ19 (d:Dig) (x:Atm):Atm:=bif decide (x.kind=2)then aJ18 d ⟨x.id,x.kind,x.file,x.typ,jD d x.parent,x.name,x.mode,x.data,x.text,x.frm,x.til,x.over⟩else aJ18 d x
def cmpA (d:Dig) (x:Atm):Atm:=bif !decide (x.kind=7)then aJ19 d ⟨jD d x.id,x.kind,jD d x.file,x.typ,x.parent,x.name,x.mode,x.data,x.text,x.frm,x.til,x.over⟩else aJ19 d ⟨jD d x.id,x.kind,x.file,x.typ,x.parent,x.name,x.mode,x.data,x.text,x.frm,x.til,x.over⟩
def yg (a m:ByteArray) (t:Int) (ds:List Dig) (cs:List Chg):List Atm×Int:=
 bif !decide ((zH a m t ds cs).2.2=0)then ([],(zH a m t ds cs).2.2)else bif !decide ((Yb a m t ds cs).2=0)then ([],(Yb a m t ds cs).2)else ((zH a m t ds cs).1.map (cmpA (Yb a m t ds cs).1),0)
def pre87 (g:prodL [.sl .idk]):Prop:=g.1.length<=4194304
end Go.Proofs.YtbglndogddddoaaGreatDoor
namespace Go.Proofs.YtbglndogddddoaaGreatDoor
open Go.RowKit Go.Lib Go.Shelf Go.Sort
theorem bytes_of {P:Program} {w:World} {b off:Nat} {l:List Int} (hc: ∀(j:Nat) (y:Int),l[j]? =some y->w.cell? ((⟨b,off,none⟩:Addr).add j)=some (.int .u8 y)) (c:Nat):
  (Extern.Bytes.bytesOf (.slice (some ⟨b,off,none⟩) l.length c)).run P w= .ok ⟨(bs l).toArray⟩ w:=by
 have hl:=run_loadBytesX (P:=P) w l ⟨b,off,none⟩ .empty hc
 show (Extern.Bytes.loadBytes ⟨b,off,none⟩ l.length .empty).run P w=_
 rw [hl]
 congr 1
 apply ByteArray.ext
 show (#[]:Array UInt8)++(Lib.bytesOf l).toArray=(bs l).toArray
 rw [Array.empty_append]
 rfl
set_option maxHeartbeats 1000000 in
set_option maxRecDepth 100000 in
theorem nan83 (x:Int) (W:World):Calls Tryz.prog 83 #[.int .i64 x] W fun e w'=>e= .returned (.bool false)/\w'=W:=by
 go_enter Tryz.func83,Tryz.ntmps83
 go_wp2
 go_ret
 exact ⟨rfl,rfl⟩
set_option maxHeartbeats 1000000 in
set_option maxRecDepth 100000 in
theorem cmp41 (x y:Int) (W:World):Calls Tryz.prog 41 #[.int .i64 x, .int .i64 y] W fun e w'=>e= .returned (.int .i64 (JX x y))/\w'=W:=by
 have hn:=fun x W=>nan83 x W
 go_enter Tryz.func41,Tryz.ntmps41
 go_wp2_with (go_at_call 83;refine (hn _ _).mono ?_;rintro e w' ⟨rfl,rfl⟩)
 . have e:JX x y= -1:=by unfold JX;rw [decide_eq_true (by assumption)];rfl
   rw [e];go_ret;exact ⟨rfl,rfl⟩
 . have e:JX x y=1:=by unfold JX;rw [decide_eq_false (by omega),cond_false,decide_eq_true (by assumption)];rfl
   rw [e];go_ret;exact ⟨rfl,rfl⟩
 . have e:JX x y=0:=by unfold JX;rw [decide_eq_false (by omega),cond_false,decide_eq_false (by omega)];rfl
   rw [e];go_ret;exact ⟨rfl,rfl⟩
def xq (x:Idn):List Value:=[.int .u8 x.patch.b0, .int .u8 x.patch.b1, .int .u8 x.patch.b2, .int .u8 x.patch.b3, .int .u8 x.patch.b4, .int .u8 x.patch.b5, .int .u8 x.patch.b6, .int .u8 x.patch.b7, .int .u8 x.patch.b8, .int .u8 x.patch.b9, .int .u8 x.patch.b10, .int .u8 x.patch.b11, .int .u8 x.patch.b12, .int .u8 x.patch.b13, .int .u8 x.patch.b14, .int .u8 x.patch.b15, .int .u8 x.patch.b16, .int .u8 x.patch.b17, .int .u8 x.patch.b18, .int .u8 x.patch.b19, .int .u8 x.patch.b20, .int .u8 x.patch.b21, .int .u8 x.patch.b22, .int .u8 x.patch.b23, .int .u8 x.patch.b24, .int .u8 x.patch.b25, .int .u8 x.patch.b26, .int .u8 x.patch.b27, .int .u8 x.patch.b28, .int .u8 x.patch.b29, .int .u8 x.patch.b30, .int .u8 x.patch.b31, .int .i64 x.n]
set_option maxHeartbeats 1000000 in
set_option maxRecDepth 100000 in
theorem cmp17a (x y:Idn) (W:World) (r r2:Int) (h3: ∀q,Calls Tryz.prog 40 #[.slice (some ⟨W.heap.size,0,none⟩) 32 32, .slice (some ⟨W.heap.size+1,0,none⟩) 32 32] ((((W.alloc (.cells (xq x).toArray 36)).alloc (.cells (xq y).toArray 36))).drewN q) fun e w'=>e= .returned (.int .i64 r)/\w'=((((W.alloc (.cells (xq x).toArray 36)).alloc (.cells (xq y).toArray 36))).drewN q))
  (h41: ∀W:World,Calls Tryz.prog 41 #[.int .i64 x.n, .int .i64 y.n] W fun e w'=>e= .returned (.int .i64 r2)/\w'=W):
  Calls Tryz.prog 17 #[.agg (xq x).toArray, .agg (xq y).toArray] W fun e w'=>e= .returned (.int .i64 (bif !decide (r=0)then r else r2))/\ ∃q os',w'=grow (W.drewN q) os':=by
 unfold xq at h3 ⊢
 go_enter Tryz.func17,Tryz.ntmps17
 go_wp2
 go_quiet (first | (go_at_call 40;refine Calls.quiet_of_same (h3 _)))
 go_wp2_with (go_at_call 41;refine (h41 _).mono ?_;rintro e w' ⟨rfl,rfl⟩)
 . rename_i hh
   rw [show (bif !decide (r=0)then r else r2)=r by rw [decide_eq_false (by simpa using hh)];rfl]
   go_ret
   refine ⟨by kernel_rfl, ?_⟩
   exact ⟨_,_,by rw [alloc_eq_grow,alloc_eq_grow,grow_grow];rfl⟩
 . rename_i hh
   rw [show (bif !decide (r=0)then r else r2)=r2 by rw [decide_eq_true (by simpa using hh)];rfl]
   go_ret
   refine ⟨by kernel_rfl, ?_⟩
   exact ⟨_,_,by rw [alloc_eq_grow,alloc_eq_grow,grow_grow];rfl⟩
theorem cmp17 (x y:Idn) (W:World):Calls Tryz.prog 17 #[.agg (xq x).toArray, .agg (xq y).toArray] W fun e w'=>e= .returned (.int .i64 (idC x y))/\ ∃q os',w'=grow (W.drewN q) os':=by
 have hb: ∀(d:Idn) (n:Nat) (w:World),w.heap[n]? =some (.cells (xq d).toArray 36 (0,0))->(Extern.Bytes.bytesOf (.slice (some ⟨n,0,none⟩) 32 32)).run Tryz.prog w= .ok ⟨(bs (xm d.patch)).toArray⟩ w:=fun d n w hw=>bytes_of (l:=xm d.patch) (fun j z hz=>by
  have:(xq d)[j]? =some (.int .u8 z):=by
   have e:xq d=(xm d.patch).map (Value.int .u8)++[.int .i64 d.n]:=rfl
   have hj:j< ((xm d.patch).map (Value.int .u8)).length:=by
    rw [List.length_map];exact (List.getElem?_eq_some_iff.1 hz).1
   rw [e,List.getElem?_append_left hj,List.getElem?_map,hz];rfl
  simp only [Addr.add_lit,World.cell?,hw]
  simpa using this) 32
 have h1: ∀q,(Extern.Bytes.bytesOf (.slice (some ⟨W.heap.size,0,none⟩) 32 32)).run Tryz.prog ((((W.alloc (.cells (xq x).toArray 36)).alloc (.cells (xq y).toArray 36))).drewN q)= .ok ⟨(bs (xm x.patch)).toArray⟩ _:=fun q=>hb x _ _ (by show ((W.heap.push _).push _)[W.heap.size]? =_;simp [Array.getElem?_push])
 have h2: ∀q,(Extern.Bytes.bytesOf (.slice (some ⟨W.heap.size+1,0,none⟩) 32 32)).run Tryz.prog ((((W.alloc (.cells (xq x).toArray 36)).alloc (.cells (xq y).toArray 36))).drewN q)= .ok ⟨(bs (xm y.patch)).toArray⟩ _:=fun q=>hb y _ _ (by show ((W.heap.push (.cells (xq x).toArray 36 (0,0))).push _)[W.heap.size+1]? =_;rw [show W.heap.size+1=(W.heap.push (.cells (xq x).toArray 36 (0,0))).size by simp,Array.getElem?_push_size])
 have h3: ∀q,Calls Tryz.prog 40 #[.slice (some ⟨W.heap.size,0,none⟩) 32 32, .slice (some ⟨W.heap.size+1,0,none⟩) 32 32] ((((W.alloc (.cells (xq x).toArray 36)).alloc (.cells (xq y).toArray 36))).drewN q) fun e w'=>e= .returned (.int .i64 (jq x.patch y.patch))/\w'=_:=fun q=>KF (h1 q) (h2 q)
 exact cmp17a x y W _ _ h3 fun W=>cmp41 x.n y.n W
set_option maxRecDepth 100000
def Yi:Go.Shelf.Ren:=⟨fun | 6=>87 | 15=>97 | 14=>138 | 28=>147 | 29=>148 | 20=>186 | 21=>187 | 22=>188 | 23=>189 | 24=>190 | 25=>191 | 26=>192 | 27=>193 | 46=>217 | 47=>195 | 48=>196 | 49=>218 | 50=>219 | 57=>231 | n=>n,fun | 22=>48 | 24=>36 | 25=>37 | 3=>3 | 39=>118 | 0=>0 | 53=>100 | 55=>137 | 4=>4 | 46=>161 | 45=>160 | 50=>165 | 5=>5 | 9=>9 | 66=>205 | 70=>209 | 76=>226 | 77=>227 | n=>n,fun | n=>n⟩
theorem Yu:Go.Proofs.SlLaysF0.n6 Tryz.prog Yi:={
 mixed:=by kernel_rfl
 f6:=⟨Tryz.f87.name,by decide,Tryz.func87.trans (congrArg some (by kernel_rfl))⟩
 f14:=⟨Tryz.f138.name,by decide,Tryz.func138.trans (congrArg some (by kernel_rfl))⟩
 f15:=Tryz.func97.trans (congrArg some (by kernel_rfl))
 f20:=⟨Tryz.f186.name,by decide,Tryz.func186.trans (congrArg some (by kernel_rfl))⟩
 f21:=⟨Tryz.f187.name,by decide,Tryz.func187.trans (congrArg some (by kernel_rfl))⟩
 f22:=⟨Tryz.f188.name,by decide,Tryz.func188.trans (congrArg some (by kernel_rfl))⟩
 f23:=⟨Tryz.f189.name,by decide,Tryz.func189.trans (congrArg some (by kernel_rfl))⟩
 f24:=⟨Tryz.f190.name,by decide,Tryz.func190.trans (congrArg some (by kernel_rfl))⟩
 f25:=⟨Tryz.f191.name,by decide,Tryz.func191.trans (congrArg some (by kernel_rfl))⟩
 f26:=⟨Tryz.f192.name,by decide,Tryz.func192.trans (congrArg some (by kernel_rfl))⟩
 f27:=⟨Tryz.f193.name,by decide,Tryz.func193.trans (congrArg some (by kernel_rfl))⟩
 f28:=Tryz.func147.trans (congrArg some (by kernel_rfl))
 f29:=Tryz.func148.trans (congrArg some (by kernel_rfl))
 f46:=⟨Tryz.f217.name,by decide,Tryz.func217.trans (congrArg some (by kernel_rfl))⟩
 f47:=Tryz.func195.trans (congrArg some (by kernel_rfl))
 f48:=Tryz.func196.trans (congrArg some (by kernel_rfl))
 f49:=⟨Tryz.f218.name,by decide,Tryz.func218.trans (congrArg some (by kernel_rfl))⟩
 f50:=⟨Tryz.f219.name,by decide,Tryz.func219.trans (congrArg some (by kernel_rfl))⟩
 f57:=⟨Tryz.f231.name,by decide,Tryz.func231.trans (congrArg some (by kernel_rfl))⟩
 t0:=Tryz.underlying0
 a0:=Tryz.isAgg0
 z0:=Tryz.sizeOf0
 v0:=Tryz.zeroValue0
 t3:=Tryz.underlying3
 a3:=Tryz.isAgg3
 z3:=Tryz.sizeOf3
 v3:=Tryz.zeroValue3
 t4:=Tryz.underlying4
 a4:=Tryz.isAgg4
 z4:=Tryz.sizeOf4
 v4:=Tryz.zeroValue4
 t5:=Tryz.underlying5
 a5:=Tryz.isAgg5
 z5:=Tryz.sizeOf5
 v5:=Tryz.zeroValue5
 t9:=Tryz.underlying9
 a9:=Tryz.isAgg9
 z9:=Tryz.sizeOf9
 v9:=Tryz.zeroValue9
 t22:=Tryz.underlying48
 a22:=Tryz.isAgg48
 z22:=Tryz.sizeOf48
 v22:=Tryz.zeroValue48
 t25:=Tryz.underlying37
 a25:=Tryz.isAgg37
 z25:=Tryz.sizeOf37
 v25:=Tryz.zeroValue37
 t39:=Tryz.underlying118
 a39:=Tryz.isAgg118
 z39:=Tryz.sizeOf118
 v39:=Tryz.zeroValue118
 t45:=Tryz.underlying160
 a45:=Tryz.isAgg160
 z45:=Tryz.sizeOf160
 v45:=Tryz.zeroValue160
 t46:=Tryz.underlying161
 a46:=Tryz.isAgg161
 z46:=Tryz.sizeOf161
 v46:=Tryz.zeroValue161
 t50:=Tryz.underlying165
 a50:=Tryz.isAgg165
 z50:=Tryz.sizeOf165
 v50:=Tryz.zeroValue165
 t53:=Tryz.underlying100
 a53:=Tryz.isAgg100
 z53:=Tryz.sizeOf100
 v53:=Tryz.zeroValue100
 t55:=Tryz.underlying137
 a55:=Tryz.isAgg137
 z55:=Tryz.sizeOf137
 v55:=Tryz.zeroValue137
 t66:=Tryz.underlying205
 a66:=Tryz.isAgg205
 z66:=Tryz.sizeOf205
 v66:=Tryz.zeroValue205
 t70:=Tryz.underlying209
 a70:=Tryz.isAgg209
 z70:=Tryz.sizeOf209
 v70:=Tryz.zeroValue209
 t76:=Tryz.underlying226
 a76:=Tryz.isAgg226
 z76:=Tryz.sizeOf226
 v76:=Tryz.zeroValue226
 t77:=Tryz.underlying227
 a77:=Tryz.isAgg227
 z77:=Tryz.sizeOf227
 v77:=Tryz.zeroValue227}
def vT (e:El) (x:ty e):List Value:=(enc e x).map tv
theorem flat_at {e:El} [Inhabited (ty e)] (l:List (ty e)) (j:Nat) (hj:j<l.length*sz e): ∃u,(encs e l)[j]? =some u/\(flatK (vT e) (sz e) l.toArray)[j]! =tv u:=by
 have hk:0<sz e:=by
  rcases Nat.eq_zero_or_pos (sz e)with h | h
  . rw [h] at hj;simp at hj
  . exact h
 have hi:j / sz e<l.length:=by rw [Nat.div_lt_iff_lt_mul hk];exact hj
 have hr:j%sz e<sz e:=Nat.mod_lt _ hk
 have he:(encs e l)[j]? =(enc e l[j / sz e])[j%sz e]? :=by
  have:=ja (l:=l) (i:=j / sz e) (jS hi) hr
  rwa [Nat.mul_comm,Nat.div_add_mod] at this
 have hlen:j%sz e< (enc e l[j / sz e]).length:=by rw [zb];exact hr
 refine ⟨(enc e l[j / sz e])[j%sz e],by rw [he,jS hlen], ?_⟩
 rw [get_flatK _ _ _ _ (by simpa using hj)]
 have h1:l.toArray[j / sz e]! =l[j / sz e]:=by rw [getElem!_pos l.toArray _ (by simpa using hi)];simp
 rw [h1]
 unfold vT
 rw [List.getElem!_eq_getElem?_getD,List.getElem?_map,jS hlen];rfl
theorem sort_ok {e:El} [Inhabited (ty e)] (hI: ∀x:ty e, ∀u∈enc e x, ∃k n,u=T.int k n) {f c:FuncId} {srt:List (ty e)->List (ty e)} (he:qk Tryz.prog f=true) (hc:ytab c=none)
  (h0: ∀(p:Option Addr) (cap:Nat) (fv:Value) (w:World),Calls Tryz.prog f #[.slice p 0 cap,fv] w fun e w'=>e= .returned (.tuple #[])/\w'=w)
  (h1: ∀(b cap:Nat) (l:List (ty e)) (w:World),HoldsK (vT e) (sz e) w b 0 l.toArray->b<w.heap.size->l.length<=16777216->Calls Tryz.prog f #[.slice (some ⟨b,0,none⟩) l.length cap, .func (.func c) #[] #[]] w fun r w'=>r= .returned (.tuple #[])/\ ∃n os,w'=sortWorldK (vT e) (sz e) w b 0 n (srt l).toArray os)
  (hs: ∀l,(srt l).length=l.length) {l:List (ty e)} (hl:l.length<=16777216) {K X:Kn} (hK:K (.tu []) [some (.arr 0 e (srt l))]):FCalls Tryz.prog f [.oa e 0 0, .fn c [] []] [some (.arr 0 e l)] K X 1:=by
 intro g w hg
 refine yL.of he fun args hr=> ?_
 obtain ⟨x,y,rfl,hx,hy⟩:=rl_two hr
 have hy':y= .func (.func c) #[] #[]:=by
  cases hy with
  | fn _ _ _ xs ys _ a1 a2 _ _=>
   have e1:xs= #[]:=Array.eq_empty_of_size_eq_zero a1.symm
   have e2:ys= #[]:=Array.eq_empty_of_size_eq_zero a2.symm
   rw [e1,e2]
  | yl _ _ yi _ _ a1=>rw [hc] at a1;cases a1
 subst hy'
 obtain ⟨oi,o1,fits,row⟩:=hg.obj 0 (.arr 0 e l) rfl
 have o1:g.ob 0 0=some oi:=o1
 obtain ⟨f1,f2,f3⟩:=fits
 cases hx with
 | oa _ _ _ oi' A b1 b2 b3 b4=>
  rw [o1] at b1
  obtain rfl:=Option.some.inj b1
  by_cases hz:oi.cap=0
  . have hl0:l=[]:=List.length_eq_zero_iff.1 (by omega)
    subst hl0
    have hs0:srt []=[]:=List.length_eq_zero_iff.1 (by rw [hs];rfl)
    rw [show oi.len=0 by simpa using f1]
    refine (h0 _ _ _ w).mono ?_
    rintro r w' ⟨rfl,rfl⟩
    exact ⟨g,_,hg,Step.refl, .tu [],by rw [hs0] at hK;exact hK, .tu [] #[] rfl fun i c x hc=>by simp at hc⟩
  . obtain rfl:=b2 hz
    rcases row with ⟨_,r0⟩ | ⟨r1,blk,E,fr,r2,r3,r4,r5⟩
    . exact absurd r0 hz
    have r2:w.heap[oi.b]? =some (.cells blk E fr):=r2
    have hb:oi.b<w.heap.size:=v6 (m:=false) r2
    have hle:l.length*sz e<=blk.size:=by have:=r4.le;rwa [show qQ (.arr 0 e l)=encs e l from rfl,qg] at this
    have hH:HoldsK (vT e) (sz e) w oi.b 0 l.toArray:=by
     intro j hj
     have hj:j<l.length*sz e:=by simpa using hj
     obtain ⟨u,u1,u2⟩:=flat_at l j hj
     obtain ⟨x,x1,x2,x3⟩:=r4.at_ j u u1
     have hu: ∃k n,u=T.int k n:=by
      have:=List.mem_of_getElem? u1
      simp only [encs,List.mem_flatten,List.mem_map] at this
      obtain ⟨_,⟨z,_,rfl⟩,hz⟩:=this
      exact hI z u hz
     obtain ⟨k,n,rfl⟩:=hu
     cases x3
     refine ⟨?_, ?_⟩
     . rw [u2,Nat.zero_add]
       simp only [World.cell?,r2]
       have x1':blk[j]? =some (tv (.int k n)):=x1
       simpa using x1'
     . rw [Nat.zero_add]
       have:=r3 j (by omega)
       simp only [World.frozen?,r2]
       simp
       omega
    rw [f1]
    refine (h1 oi.b oi.cap l w hH hb hl).mono ?_
    rintro r w' ⟨rfl,n,os,rfl⟩
    have hF:(flatK (vT e) (sz e) (srt l).toArray).size=l.length*sz e:=by rw [size_flatK];simp [hs]
    have hheap:(sortWorldK (vT e) (sz e) w oi.b 0 n (srt l).toArray os).heap=w.heap.modify oi.b (onCells (putCells id 0 (flatK (vT e) (sz e) (srt l).toArray)))++os:=rfl
    have hat:(sortWorldK (vT e) (sz e) w oi.b 0 n (srt l).toArray os).heap[oi.b]? =some (.cells (putCells id 0 (flatK (vT e) (sz e) (srt l).toArray) blk) E fr):=by
     rw [hheap,Array.getElem?_append_left (by simpa using hb),Array.getElem?_modify,if_pos rfl,r2];rfl
    have hps:(putCells id 0 (flatK (vT e) (sz e) (srt l).toArray) blk).size=blk.size:=by simp [putCells]
    obtain ⟨k1,k2,k3⟩:=qN (st':=[some (.arr 0 e (srt l))]) (k:=0) (v:=0) (o':= .arr 0 e (srt l)) (oi:=oi) (w':=sortWorldK (vT e) (sz e) w oi.b 0 n (srt l).toArray os) hg
     (fun i=>by cases i<;>simp) (Nat.zero_le _) (Nat.le_refl _) rfl (.inr o1) (fun u oi' hu=>(hg.old 0 u oi' hu).2 _ rfl) ⟨by rw [hs];exact f1,f2,f3⟩
     (fun _=> .inr ⟨_,rfl,by unfold obBlk;rw [show g.ob 0 (obVer (.arr 0 e l))=some oi from o1];simp [hz]⟩) rfl rfl rfl (by rw [hheap];simp)
     (fun b hbs hbn=>by
      have hne:oi.b≠b:=fun h=>hbn _ rfl (by unfold obBlk;rw [show g.ob 0 (obVer (.arr 0 e l))=some oi from o1];simp [hz,h])
      rw [hheap,Array.getElem?_append_left (by simpa using hbs),Array.getElem?_modify,if_neg hne])
     (fun _=>⟨_,E,fr,hat,by rw [hps];exact r3,⟨by rw [hps];show (encs e (srt l)).length<=_;rw [qg,hs];exact hle,fun j u hj=>by
      have hj':j<l.length*sz e:=by
       have:=(List.getElem?_eq_some_iff.1 hj).1
       rwa [show qQ (.arr 0 e (srt l))=encs e (srt l) from rfl,qg,hs] at this
      obtain ⟨u',u1,u2⟩:=flat_at (srt l) j (by rw [hs];exact hj')
      have:u'=u:=by
       have hj:(encs e (srt l))[j]? =some u:=hj
       rw [u1] at hj;exact Option.some.inj hj
      subst this
      have hu: ∃k n,u'=T.int k n:=by
       have:=List.mem_of_getElem? u1
       simp only [encs,List.mem_flatten,List.mem_map] at this
       obtain ⟨_,⟨z,_,rfl⟩,hz⟩:=this
       exact hI z u' hz
      obtain ⟨k,n,rfl⟩:=hu
      refine ⟨.int k n, ?_,rfl, .int k n⟩
      unfold putCells
      have hjb:j<blk.size:=by omega
      rw [Array.getElem?_mapIdx,Array.getElem?_eq_getElem hjb]
      simp only [Option.map_some,Nat.zero_le,true_and,Nat.zero_add,Nat.sub_zero]
      rw [if_pos (by rw [hF];exact hj'),u2];rfl⟩,by rw [hps];exact r5⟩)
     (fun o ho=>by
      have:o= .arr 0 e l:=by simpa using ho.symm
      subst this
      exact ⟨0,srt l,rfl⟩)
    exact ⟨_,_,k1,k2 _, .tu [],hK, .tu [] #[] rfl fun i c x hc=>by simp at hc⟩
theorem int_idk (x:Idn): ∀u∈enc .idk x, ∃k n,u=T.int k n:=by
 intro u hu
 have:((enc .idk x).all fun u=>match u with | .int _ _=>true | _=>false)=true:=by kernel_rfl
 have:=List.all_eq_true.1 this u hu
 cases u<;>first | exact ⟨_,_,rfl⟩ | cases this
theorem len_pdq {α:Type} [Inhabited α] {lt:α->α->Bool} (hO:SWO lt) (d:Array α):(pdq lt d 0 d.size (Lib.bitLen d.size) true true).size=d.size:=
 (pdq_sorts lt hO d 0 d.size (Lib.bitLen d.size) true true (Nat.zero_le _) (Nat.le_refl _) (Or.inl rfl)).1.1
theorem sortI_len (l:List Idn):(WD l).length=l.length:=by
 have:=len_pdq swo_id l.toArray
 unfold WD
 simpa using this
theorem agg36: ∀w,(isAgg 36).run Tryz.prog w= .ok true w:=fun w=>by
 unfold isAgg underlying
 simp only [Sem.run_bind,show Tryz.prog.underlying 36=_ from Tryz.underlying36]
 rfl
end Go.Proofs.YtbglndogddddoaaGreatDoor
namespace Go.Proofs.YtbglndogddddoaaGreatDoor
open Go.RowKit
attribute [local irreducible] qW qb
set_option maxRecDepth 100000
def H15:List (Nat×Hint):=[]
def J15:List (Nat×Hint):=[]
abbrev S15:List Sh:=[.ag [.leaf, .leaf, .leaf, .leaf, .leaf]]
abbrev L15:List Lf:=[.str, .str, .int .i64, .sl .dig, .sl .chg]
def F15 (g:prodL L15) (K:Kn):Prop:=
 Wo.pre (g.1,g.2.1,g.2.2.1,g.2.2.2.1,g.2.2.2.2.1,())/\
 bif !decide ((zH g.1 g.2.1 g.2.2.1 g.2.2.2.1 g.2.2.2.2.1).2.2=0)then (
  K (.tu [.ag (enc .dig dz), .int .i64 ((zH g.1 g.2.1 g.2.2.1 g.2.2.2.1 g.2.2.2.2.1).2.2)]) [])
 else (
  sp33.pre ((zH g.1 g.2.1 g.2.2.1 g.2.2.2.1 g.2.2.2.2.1).2.1,())/\
 K (.tu [.ag (enc .dig (Xb ((zH g.1 g.2.1 g.2.2.1 g.2.2.2.1 g.2.2.2.2.1).2.1))), .int .i64 0]) [])
theorem F15_eq (g:prodL L15) (K X:Kn):F15 g K=qW D (qJ [] [(13,true,Wo),(33,true,sp33)]) (qv []) H15 J15 17 [.cell 2 32, .tmp 3] (qq Tryz.f15) (argsT S15 L15 g) [] (settle0 K) X:=by kernel_rfl
theorem F15_ok (g:prodL L15) (K X:Kn) (h:F15 g K):FCalls Tryz.prog 15 (argsT S15 L15 g) [] K X:=
 FCalls.settle0 (qz qh (vN (vV XG (vV sp33_ok vC))) qj rfl Tryz.func15 (c:=qq Tryz.f15) rfl Tryz.ntmps15 Tryz.results15 (by unfold qk;rw [Tryz.func15];kernel_rfl) (Nat.le_of_ble_eq_true (by kernel_rfl)) (c0:=0) (Eq.mp (F15_eq g K X) h))
def H86:List (Nat×Hint):=[]
def J86:List (Nat×Hint):=[(2,⟨[((2,[]),none),((3,[]),none)],[(1, .leaf),(2, .pt 0 0),(3, .pt 1 0),(10, .leaf)],[.el, .el],[.pr .dig, .bool, .el .idk, .el .idk]⟩),(3,⟨[((2,[]),none),((3,[]),none)],[(2, .pt 0 0),(3, .pt 1 0)],[.el, .el],[.el .idk, .el .idk]⟩)]
abbrev S86:List Sh:=[.leaf, .leaf]
abbrev L86:List Lf:=[.el .idk, .pr .dig]
def F86_J4 (K:Kn) (x_3 t_3:Idn):Prop:=
 K (.ag (enc .idk x_3)) []
def qqY (K:Kn) (t_1:Dig) (t2_1:Bool) (x_1 t3_1:Idn):Prop:=
 bif t2_1 then (
  F86_J4 K (⟨t_1,x_1.n⟩:Idn) t3_1)
 else (
  F86_J4 K x_1 t3_1)
def F86 (g:prodL L86) (K:Kn):Prop:=
 True/\
 bif Qt g.1 then (
  qqY K g.2.1 (decide (0<=g.1.n)) g.1 iz)
 else (
  qqY K g.2.1 false g.1 iz)
theorem F86_eq (g:prodL L86) (K X:Kn):F86 g K=qW D (qJ [] [(47,true,sp47)]) (qv []) H86 J86 14 [.cell 3 36] (qq Tryz.f86) (argsT S86 L86 g) [] (settle0 K) X:=by kernel_rfl
theorem F86_ok (g:prodL L86) (K X:Kn) (h:F86 g K):FCalls Tryz.prog 86 (argsT S86 L86 g) [] K X:=
 FCalls.settle0 (qz (Γ:=qJ [] [(47,true,sp47)]) (mu:=qv []) (H:=H86) (J:=J86) qh (qV (rs:=[]) (l:=[(47,true,sp47)]) (fun p hp=>by cases hp) (by intro p hp;simp only [List.mem_cons,List.not_mem_nil,or_false] at hp;subst hp;exact sp47_ok)) qj rfl Tryz.func86 (c:=qq Tryz.f86) rfl Tryz.ntmps86 Tryz.results86 (by unfold qk;rw [Tryz.func86];kernel_rfl) (Nat.le_of_ble_eq_true (by kernel_rfl)) (c0:=0) (Eq.mp (F86_eq g K X) h))
def sp86:Sp:=⟨S86,L86,fun _=>True,fun g=> .ag (enc .idk (jD g.2.1 g.1)),fun _=>none⟩
theorem sp86_ok:sp86.Ok Tryz.prog 86 false:=
 ⟨fun g K X hp h=>F86_ok g K X (by
  have h:K (.ag (enc .idk (jD g.2.1 g.1))) []:=h
  refine ⟨trivial, ?_⟩
  unfold jD at h
  exact QM (J:=fun b=>qqY K g.2.1 b g.1 iz) (f:=fun b=>bif b then (⟨g.2.1,g.1.n⟩:Idn)else g.1) (K:=fun x=>K (.ag (enc .idk x)) []) (fun b h=>by unfold qqY;cases b<;>exact h) h),fun _ _ _=>rfl,fun _=>rfl,by first | exact fun _ _=>⟨rfl,rfl⟩ | (intro h;cases h)⟩
end Go.Proofs.YtbglndogddddoaaGreatDoor
namespace Go.Proofs.YtbglndogddddoaaGreatDoor
open Go.RowKit Go.Lib Go.Shelf Go.Sort
set_option maxRecDepth 100000
theorem size36: ∀w,(Go.sizeOf 36).run Tryz.prog w= .ok 33 w:=fun w=>qO (by rw [jd,show Tryz.prog.info? 36=some Tryz.t36 from Tryz.type36];rfl) w
theorem encVs_one {e:El} (x:ty e) (hI: ∀u∈enc e x, ∃k n,u=T.int k n): ∀v∈vT e x,v.oneCell'=true:=fun v hv=>by
 obtain ⟨u,hu,rfl⟩:=List.mem_map.1 hv
 obtain ⟨k,n,rfl⟩:=hI u hu
 rfl
theorem F87_ok {l:List Idn} {K X:Kn} (hl:l.length<=4194304) (h:K (.tu []) [some (.arr 0 .idk (WD l))]):FCalls Tryz.prog 87 [.oa .idk 0 0, .fn 17 [] []] [some (.arr 0 .idk l)] K X 1:=
 sort_ok (e:= .idk) int_idk (srt:=WD) (by kernel_rfl) (by rfl)
  (fun p cap fv w=>AnyF.slices_SortFunc_none Yu p cap fv w)
  (fun b cap l w hH hb hs=>by
   have eg: ∀args w,(callFunc 17 args).run Tryz.prog w= .ok (.enter 17 args) w:=enters_of Tryz.func17 (by kernel_rfl) rfl
   have:=AnyQ.slices_SortFunc_eq Yu 33 agg36 size36 (vT .idk) (fun x=>rfl) (fun x=>encVs_one x (int_idk x)) idC swo_id 17 #[] b 0 cap l.toArray w eg (fun m os dk hk x y=>cmp17 x y _) hH hb (by show l.length<_;omega)
   exact this.mono fun r w' ⟨e1,n,os,e2⟩=>⟨e1,n,os,by rw [e2];rfl⟩)
  sortI_len (by omega) h
abbrev S87:List Sh:=[.oa .idk 0, .fn 17 [] []]
abbrev O87:List ObSh:=[.arr .idk]
abbrev L87:List Lf:=[.sl .idk]
def rw87:Raw:=⟨S87,O87,L87,1,fun g K _=>pre87 g/\K (.tu []) [some (.arr 0 .idk (WD g.1))]⟩
theorem rw87_ok:rw87.Ok Tryz.prog 87:=fun g K X h=>F87_ok h.1 h.2
theorem exP_size {a m:ByteArray} {t:Int} {ds:List Dig} {cs:List Chg}:(zH a m t ds cs).2.1.size<=65536:=by
 by_cases z:(zH a m t ds cs).2.2=0
 . have h:=exP_ok z
   rw [exP_eq z]
   show (wB (zR a m t (zk ds) cs)).1.size<=65536
   omega
 . have e0:(⟨#[]⟩:ByteArray).size=0:=rfl
   have:(zH a m t ds cs).2.1=⟨#[]⟩:=by
    unfold zH at z ⊢
    cases h1:decide (xF jq a m t ds cs=0)
    . rfl
    . rw [h1] at z
      simp only [Bool.not_true,cond_false] at z ⊢
      unfold Zt at z ⊢
      cases h2:decide ((QJ cs).2=0)
      . rfl
      . rw [h2] at z
        simp only [Bool.not_true,cond_false] at z ⊢
        unfold exP5 at z ⊢
        revert z
        generalize (bif !decide ((wB (zR a m t (zk ds) cs)).2=0)then true else decide (65536< ((wB (zR a m t (zk ds) cs)).1.size:Int)))=b
        intro z
        cases b
        . exact absurd rfl z
        . rfl
   rw [this,e0];omega
theorem F15_is {a m:ByteArray} {t:Int} {ds:List Dig} {cs:List Chg} {K:Kn} (hp:xP a m t ds cs) (h:K (.tu [.ag (enc .dig (Yb a m t ds cs).1), .int .i64 (Yb a m t ds cs).2]) []):F15 (a,m,t,ds,cs,()) K:=by
 unfold F15
 refine ⟨hp, ?_⟩
 unfold Yb at h
 show bif !decide ((zH a m t ds cs).2.2=0)then _ else _
 by_cases z:(zH a m t ds cs).2.2=0
 . rw [decide_eq_true z] at h ⊢
   exact ⟨Nat.le_trans exP_size (by omega),h⟩
 . rw [decide_eq_false z] at h ⊢
   exact h
def sp15:Sp:=⟨S15,L15,fun g=>xP g.1 g.2.1 g.2.2.1 g.2.2.2.1 g.2.2.2.2.1,fun g=> .tu [.ag (enc .dig (Yb g.1 g.2.1 g.2.2.1 g.2.2.2.1 g.2.2.2.2.1).1), .int .i64 (Yb g.1 g.2.1 g.2.2.1 g.2.2.2.1 g.2.2.2.2.1).2],fun _=>none⟩
theorem sp15_ok:sp15.Ok Tryz.prog 15 true:=
 ⟨fun g K X hp h=>F15_ok g K X (F15_is hp h),fun _ _ _=>rfl,fun _=>rfl,fun _ _=>⟨rfl,rfl⟩⟩
end Go.Proofs.YtbglndogddddoaaGreatDoor
namespace Go.Proofs.YtbglndogddddoaaGreatDoor
open Go.RowKit
attribute [local irreducible] qW qb
set_option maxRecDepth 100000
def H44:List (Nat×Hint):=[(9,⟨[((4,[]),none)],[(4, .oa .atm 0),(8, .fn 86 [] [.leaf]),(32, .oa .atm 0),(33, .leaf),(34, .leaf)],[.arr .atm],[.pr .dig, .int .i64, .int .i64, .sl .atm]⟩),(20,⟨[((4,[]),none),((10,[]),none),((11,[]),some .idk)],[(4, .oa .atm 0),(8, .fn 86 [] [.leaf]),(9, .leaf),(10, .pt 1 0),(11, .oa .idk 2),(32, .oa .atm 0),(33, .leaf),(34, .leaf),(74, .leaf),(75, .leaf),(76, .leaf)],[.arr .atm, .el, .arr .idk],[.pr .dig, .int .i64, .int .i64, .int .i64, .sl .idk, .int .i64, .int .i64, .sl .atm, .el .atm, .sl .idk]⟩)]
def J44:List (Nat×Hint):=[(7,⟨[((4,[]),none)],[(4, .oa .atm 0),(7, .leaf)],[.arr .atm],[.pr .dig, .sl .atm]⟩),(14,⟨[((4,[]),none),((10,[]),none)],[(4, .oa .atm 0),(8, .fn 86 [] [.leaf]),(9, .leaf),(10, .pt 1 0),(32, .oa .atm 0),(33, .leaf),(34, .leaf)],[.arr .atm, .el],[.pr .dig, .int .i64, .int .i64, .int .i64, .sl .atm, .el .atm]⟩),(16,⟨[((4,[]),none),((10,[]),none)],[(4, .oa .atm 0),(8, .fn 86 [] [.leaf]),(9, .leaf),(10, .pt 1 0),(32, .oa .atm 0),(33, .leaf),(34, .leaf)],[.arr .atm, .el],[.pr .dig, .int .i64, .int .i64, .int .i64, .sl .atm, .el .atm]⟩),(18,⟨[((4,[]),none),((10,[]),none)],[(4, .oa .atm 0),(8, .fn 86 [] [.leaf]),(9, .leaf),(10, .pt 1 0),(32, .oa .atm 0),(33, .leaf),(34, .leaf)],[.arr .atm, .el],[.pr .dig, .int .i64, .int .i64, .int .i64, .sl .atm, .el .atm]⟩),(25,⟨[((4,[]),none),((10,[]),none)],[(4, .oa .atm 0),(8, .fn 86 [] [.leaf]),(9, .leaf),(10, .pt 1 0),(11, .leaf),(32, .oa .atm 0),(33, .leaf),(34, .leaf)],[.arr .atm, .el],[.pr .dig, .int .i64, .sl .idk, .int .i64, .int .i64, .sl .atm, .el .atm]⟩)]
abbrev S44:List Sh:=[.ag [.leaf, .leaf, .leaf, .leaf, .leaf]]
abbrev L44:List Lf:=[.str, .str, .int .i64, .sl .dig, .sl .chg]
def F44_J16 (K:Kn) (W3:prodL [.pr .dig, .int .i64, .int .i64, .sl .atm]->Prop) (full_14:Dig) (i_14:Int) (over_14:List Idn) (t_14 t2_14:Int) (l_14:List Atm) (x_14:Atm):Prop:=
 0<=i_14/\i_14.toNat<l_14.length/\
 atI l_14 i_14.toNat fun x15=>
 W3 (full_14,t_14,IntKind.i64.wrap (t2_14+1),l_14.set i_14.toNat (⟨x_14.id,x_14.kind,x_14.file,x_14.typ,x_14.parent,x_14.name,x_14.mode,x_14.data,x_14.text,x_14.frm,x_14.til,over_14⟩:Atm),())
def ZO (K:Kn) (W3:prodL [.pr .dig, .int .i64, .int .i64, .sl .atm]->Prop) (W12:prodL [.pr .dig, .int .i64, .int .i64, .int .i64, .sl .idk, .int .i64, .int .i64, .sl .atm, .el .atm, .sl .idk]->Prop) (full_11:Dig) (i_11 t_11 t2_11:Int) (t3_11:List Idn) (t4_11 t5_11:Int) (l_11:List Atm) (x_11:Atm) (over_11:List Idn):Prop:=
 bif decide (t5_11<t4_11)then (
  At t3_11 t5_11 fun u13=>
 True/\
 qP (over_11.length+[(jD full_11 u13)].length) 40 (
 W12 (full_11,i_11,t_11,t2_11,t3_11,t4_11,IntKind.i64.wrap (t5_11+1),l_11,x_11,over_11++[(jD full_11 u13)],())))
 else (
  pre87 (over_11,())/\
 F44_J16 K W3 full_11 i_11 (WD over_11) t_11 t2_11 l_11 x_11)
def F44_L12 (K:Kn) (W3:prodL [.pr .dig, .int .i64, .int .i64, .sl .atm]->Prop) (g:prodL [.pr .dig, .int .i64, .int .i64, .int .i64, .sl .idk, .int .i64, .int .i64, .sl .atm, .el .atm, .sl .idk]):Prop:=
 qX (γ:=prodL [.pr .dig, .int .i64, .int .i64, .int .i64, .sl .idk, .int .i64, .int .i64, .sl .atm, .el .atm, .sl .idk]) (fun V y=>ZO K W3 V y.1 y.2.1 y.2.2.1 y.2.2.2.1 y.2.2.2.2.1 y.2.2.2.2.2.1 y.2.2.2.2.2.2.1 y.2.2.2.2.2.2.2.1 y.2.2.2.2.2.2.2.2.1 y.2.2.2.2.2.2.2.2.2.1) g
def Xl (K:Kn) (W3:prodL [.pr .dig, .int .i64, .int .i64, .sl .atm]->Prop) (full_7:Dig) (i_7 t_7 t2_7:Int) (l_7:List Atm) (x_7:Atm):Prop:=
 F44_L12 K W3 (full_7,i_7,t_7,t2_7,x_7.over,(x_7.over.length:Int),0,l_7,x_7,[],())
def Xs (K:Kn) (W3:prodL [.pr .dig, .int .i64, .int .i64, .sl .atm]->Prop) (full_6:Dig) (i_6 t_6 t2_6:Int) (l_6:List Atm) (x_6:Atm):Prop:=
 bif decide (x_6.kind=6)then (
  True/\
  True/\
  Xl K W3 full_6 i_6 t_6 t2_6 l_6 (⟨x_6.id,x_6.kind,x_6.file,x_6.typ,x_6.parent,x_6.name,x_6.mode,x_6.data,x_6.text,jD full_6 x_6.frm,jD full_6 x_6.til,x_6.over⟩:Atm))
 else (
  Xl K W3 full_6 i_6 t_6 t2_6 l_6 x_6)
def Xm (K:Kn) (W3:prodL [.pr .dig, .int .i64, .int .i64, .sl .atm]->Prop) (full_5:Dig) (i_5 t_5 t2_5:Int) (l_5:List Atm) (x_5:Atm):Prop:=
 bif decide (x_5.kind=2)then (
  True/\
  Xs K W3 full_5 i_5 t_5 t2_5 l_5 (⟨x_5.id,x_5.kind,x_5.file,x_5.typ,jD full_5 x_5.parent,x_5.name,x_5.mode,x_5.data,x_5.text,x_5.frm,x_5.til,x_5.over⟩:Atm))
 else (
  Xs K W3 full_5 i_5 t_5 t2_5 l_5 x_5)
def F44_B3 (K:Kn) (W3:prodL [.pr .dig, .int .i64, .int .i64, .sl .atm]->Prop) (full_2:Dig) (t_2 t2_2:Int) (l_2:List Atm):Prop:=
 bif decide (t2_2<t_2)then (
  0<=t2_2/\t2_2.toNat<l_2.length/\
 atI l_2 t2_2.toNat fun x4=>
 True/\
 bif !decide (x4.kind=7)then (
  True/\
  Xm K W3 full_2 t2_2 t_2 t2_2 l_2 (⟨jD full_2 x4.id,x4.kind,jD full_2 x4.file,x4.typ,x4.parent,x4.name,x4.mode,x4.data,x4.text,x4.frm,x4.til,x4.over⟩:Atm))
 else (
  Xm K W3 full_2 t2_2 t_2 t2_2 l_2 (⟨jD full_2 x4.id,x4.kind,x4.file,x4.typ,x4.parent,x4.name,x4.mode,x4.data,x4.text,x4.frm,x4.til,x4.over⟩:Atm)))
 else (
  K (.tu [.sl false .atm l_2, .int .i64 0]) [])
def F44_L3 (K:Kn) (g:prodL [.pr .dig, .int .i64, .int .i64, .sl .atm]):Prop:=
 qX (γ:=prodL [.pr .dig, .int .i64, .int .i64, .sl .atm]) (fun V y=>F44_B3 K V y.1 y.2.1 y.2.2.1 y.2.2.2.1) g
def F44_J20 (K:Kn) (patch_1:Dig) (l_1:List Atm):Prop:=
 F44_L3 K (patch_1,(l_1.length:Int),0,l_1,())
def F44 (g:prodL L44) (K:Kn):Prop:=
 QO.pre (g.1,g.2.1,g.2.2.1,g.2.2.2.1,g.2.2.2.2.1,())/\
 bif !decide ((zH g.1 g.2.1 g.2.2.1 g.2.2.2.1 g.2.2.2.2.1).2.2=0)then (
  K (.tu [.nil, .int .i64 ((zH g.1 g.2.1 g.2.2.1 g.2.2.2.1 g.2.2.2.2.1).2.2)]) [])
 else (
  sp15.pre (g.1,g.2.1,g.2.2.1,g.2.2.2.1,g.2.2.2.2.1,())/\
 bif !decide ((Yb g.1 g.2.1 g.2.2.1 g.2.2.2.1 g.2.2.2.2.1).2=0)then (
  K (.tu [.nil, .int .i64 ((Yb g.1 g.2.1 g.2.2.1 g.2.2.2.1 g.2.2.2.2.1).2)]) [])
 else (
  F44_J20 K ((Yb g.1 g.2.1 g.2.2.1 g.2.2.2.1 g.2.2.2.2.1).1) ((zH g.1 g.2.1 g.2.2.1 g.2.2.2.1 g.2.2.2.2.1).1)))
theorem F44_eq (g:prodL L44) (K X:Kn):F44 g K=qW D (qJ [(87,rw87)] [(15,true,sp15),(36,false,QO),(86,false,sp86)]) (qv [(87,rw87)]) H44 J44 97 [.tmp 2, .tmp 3] (qq Tryz.f44) (argsT S44 L44 g) [] (settle0 K) X:=by kernel_rfl
theorem F44_ok (g:prodL L44) (K X:Kn) (h:F44 g K):FCalls Tryz.prog 44 (argsT S44 L44 g) [] K X:=
 FCalls.settle0 (qz (Γ:=qJ [(87,rw87)] [(15,true,sp15),(36,false,QO),(86,false,sp86)]) (mu:=qv [(87,rw87)]) (H:=H44) (J:=J44) qh (qV (rs:=[(87,rw87)]) (l:=[(15,true,sp15),(36,false,QO),(86,false,sp86)]) (by intro p hp;simp only [List.mem_cons,List.not_mem_nil,or_false] at hp;subst hp;exact rw87_ok) (by intro p hp;simp only [List.mem_cons,List.not_mem_nil,or_false] at hp;rcases hp with rfl | rfl | rfl<;>first | exact sp15_ok | exact sp36_ok | exact sp86_ok)) qj rfl Tryz.func44 (c:=qq Tryz.f44) rfl Tryz.ntmps44 Tryz.results44 (by unfold qk;rw [Tryz.func44];kernel_rfl) (Nat.le_of_ble_eq_true (by kernel_rfl)) (c0:=0) (Eq.mp (F44_eq g K X) h))
end Go.Proofs.YtbglndogddddoaaGreatDoor
namespace Go.Proofs.YtbglndogddddoaaGreatDoor
open Go.RowKit
set_option maxRecDepth 100000
def lAt (d:Dig) (l:List Atm) (n:Nat):List Atm:=(l.take n).map (cmpA d)++l.drop n
theorem lAt_len (d:Dig) (l:List Atm) (n:Nat):(lAt d l n).length=l.length:=by
 unfold lAt
 rw [List.length_append,List.length_map,List.length_take,List.length_drop];omega
theorem lAt_get (d:Dig) {l:List Atm} {n:Nat} (h:n<l.length):(lAt d l n)[n]'(by rw [lAt_len];exact h)=l[n]:=by
 unfold lAt
 rw [List.getElem_append_right (by simp;omega)]
 simp [List.length_take,Nat.min_eq_left (Nat.le_of_lt h)]
theorem lAt_set (d:Dig) {l:List Atm} {n:Nat} (h:n<l.length):(lAt d l n).set n (cmpA d l[n])=lAt d l (n+1):=by
 unfold lAt
 rw [List.set_append_right _ _ (by simp;omega)]
 simp only [List.length_map,List.length_take,Nat.min_eq_left (Nat.le_of_lt h),Nat.sub_self]
 rw [List.drop_eq_getElem_cons h,List.set_cons_zero,jm h,List.map_append]
 simp
theorem Wx {K:Kn} {W:prodL [.pr .dig, .int .i64, .int .i64, .sl .atm]->Prop} {d:Dig} {i t t2:Int} {l:List Atm} {x:Atm} (hx:x.over.length<=4194304) (hi:0<=i/\i.toNat<l.length)
  (h:W (d,t,IntKind.i64.wrap (t2+1),l.set i.toNat (aJ17 d x),())):Xl K W d i t t2 l x:=by
 unfold Xl F44_L12
 refine qX.map x.over (jD d) (fun n out=>(d,i,t,t2,x.over,(x.over.length:Int),n,l,x,out,())) (by omega) rfl (fun V n hn out ho hV=> ?_) fun V=> ?_
 . show ZO K W V d i t t2 x.over x.over.length n l x out
   unfold ZO
   rw [zq hn,cond_true]
   exact zX hn ⟨trivial,by simp only [List.length_singleton,ho];omega,hV⟩
 . show ZO K W V d i t t2 x.over x.over.length x.over.length l x (x.over.map (jD d))
   unfold ZO
   rw [qG,cond_false]
   refine ⟨by show (x.over.map (jD d)).length<=_;rw [List.length_map];exact hx, ?_⟩
   unfold F44_J16
   exact ⟨hi.1,hi.2,l[i.toNat],jS hi.2,h⟩
theorem VF {K:Kn} {W:prodL [.pr .dig, .int .i64, .int .i64, .sl .atm]->Prop} {d:Dig} {i t t2:Int} {l:List Atm} {x:Atm} (hx:x.over.length<=4194304) (hi:0<=i/\i.toNat<l.length)
  (h:W (d,t,IntKind.i64.wrap (t2+1),l.set i.toNat (aJ18 d x),())):Xs K W d i t t2 l x:=by
 unfold Xs
 unfold aJ18 at h
 cases e:decide (x.kind=6)
 . rw [e] at h;exact Wx hx hi h
 . rw [e] at h;exact ⟨trivial,trivial,Wx (by exact hx) hi h⟩
theorem Vg {K:Kn} {W:prodL [.pr .dig, .int .i64, .int .i64, .sl .atm]->Prop} {d:Dig} {i t t2:Int} {l:List Atm} {x:Atm} (hx:x.over.length<=4194304) (hi:0<=i/\i.toNat<l.length)
  (h:W (d,t,IntKind.i64.wrap (t2+1),l.set i.toNat (aJ19 d x),())):Xm K W d i t t2 l x:=by
 unfold Xm
 unfold aJ19 at h
 cases e:decide (x.kind=2)
 . rw [e] at h;exact VF hx hi h
 . rw [e] at h;exact ⟨trivial,VF (by exact hx) hi h⟩
theorem F44_L3_is {K:Kn} {d:Dig} {l:List Atm} (hl:l.length<=16777216) (hx: ∀x∈l,x.over.length<=4194304) (h:K2 K (l.map (cmpA d),0)):F44_L3 K (d,(l.length:Int),0,l,()):=by
 unfold F44_L3
 refine qX.countTo l.length (fun n=>(d,(l.length:Int),(n:Int),lAt d l n,())) (fun _=>True) (by simp [lAt]) (fun n hn _ W hW=> ?_) trivial
 show F44_B3 K W d l.length n (lAt d l n)
 unfold F44_B3
 have hlen:=lAt_len d l n
 by_cases hlt:n<l.length
 . rw [zq hlt,cond_true]
   have hn':((n:Nat):Int).toNat< (lAt d l n).length:=by omega
   refine ⟨by omega,hn', ?_⟩
   have hW:=hW hlt trivial
   rw [<- lAt_set d hlt, <- jw hlt (by omega)] at hW
   refine ⟨l[n],by rw [toN,jS (show n< (lAt d l n).length by omega),lAt_get d hlt],trivial, ?_⟩
   have hxo:=hx l[n] (List.getElem_mem _)
   generalize l[n]=x at hW hxo
   show bif !decide (x.kind=7)then _ else _
   unfold cmpA at hW
   cases e:decide (x.kind=7)
   . rw [e] at hW
     exact ⟨trivial,Vg (by exact hxo) ⟨by omega,hn'⟩ (by rw [toN];exact hW)⟩
   . rw [e] at hW
     exact Vg (by exact hxo) ⟨by omega,hn'⟩ (by rw [toN];exact hW)
 . have:n=l.length:=by omega
   subst this
   rw [qG,cond_false]
   have:lAt d l l.length=l.map (cmpA d):=by unfold lAt;simp
   rw [this];exact h
theorem madeL_over {c:Chg} {n:Int} {x:Atm} (hx:x∈yE c n):x.over=c.over∨x.over=[]:=by
 unfold yE madK at hx
 split at hx
 case h_5=>
  rcases List.mem_append.1 hx with hx | hx
  . obtain ⟨i,_,rfl⟩:=List.mem_map.1 hx;exact .inr rfl
  . obtain ⟨i,_,rfl⟩:=List.mem_map.1 hx;exact .inr rfl
 case h_8=>cases hx
 all_goals (rw [List.mem_singleton.1 hx];first | exact .inl rfl | exact .inr rfl)
theorem WV {f:Chg->Int} {r:Chg->List Atm->Int} {Q:List Idn->Prop} (h0:Q []): ∀{cs:List Chg} {own:List Atm},(∀c∈cs,Q c.over)->(∀x∈own,Q x.over)-> ∀x∈(wq f r cs own).1,Q x.over
 | [],own,_,h,x,hx=>h x hx
 | c::l,own,hc,h,x,hx=>by
  rw [wq] at hx
  cases e1:decide (f c=0)
  . rw [e1] at hx;cases hx
  rw [e1] at hx
  cases e2:decide (r c own=0)
  . rw [e2] at hx;cases hx
  rw [e2] at hx
  refine WV h0 (fun d hd=>hc d (List.mem_cons_of_mem _ hd)) (fun y hy=> ?_) x hx
  rcases List.mem_append.1 hy with hy | hy
  . exact h y hy
  . rcases madeL_over hy with e | e
    . rw [e];exact hc c (List.mem_cons_self ..)
    . rw [e];exact h0
theorem KW {f:Chg->Int} {r:Chg->List Atm->Int} (hk: ∀c,f c=0->j8 c): ∀{cs:List Chg} {own:List Atm},(wq f r cs own).1.length<=own.length+2*(cs.map qA).sum
 | [],own=>by simp [wq]
 | c::l,own=>by
  rw [wq]
  cases e1:decide (f c=0)
  . simp
  cases e2:decide (r c own=0)
  . simp
  simp only [Bool.not_true,cond_false]
  have h1:=KW (r:=r) hk (cs:=l) (own:=own++yE c own.length)
  have h2:=madeL_le (n:=(own.length:Int)) (hk c (of_decide_eq_true e1))
  rw [List.length_append] at h1
  simp only [List.map_cons,List.sum_cons]
  omega
theorem exP_atoms {a m:ByteArray} {t:Int} {ds:List Dig} {cs:List Chg}:(zH a m t ds cs).1=(QJ cs).1∨(zH a m t ds cs).1=[]:=by
 unfold zH
 cases decide (xF jq a m t ds cs=0)
 . exact .inr rfl
 . simp only [Bool.not_true,cond_false]
   unfold Zt
   cases decide ((QJ cs).2=0)
   . exact .inr rfl
   . simp only [Bool.not_true,cond_false]
     unfold exP5
     generalize (bif !decide ((wB (zR a m t (zk ds) cs)).2=0)then true else decide (65536< ((wB (zR a m t (zk ds) cs)).1.size:Int)))=b
     cases b
     . exact .inl rfl
     . exact .inr rfl
theorem exP_lens {a m:ByteArray} {t:Int} {ds:List Dig} {cs:List Chg} (hp:xP a m t ds cs):(zH a m t ds cs).1.length<=16777216/\ ∀x∈(zH a m t ds cs).1,x.over.length<=4194304:=by
 have h5:=hp.2.2.2.2.1
 rcases exP_atoms (a:=a) (m:=m) (t:=t) (ds:=ds) (cs:=cs)with e | e
 . rw [e]
   refine ⟨?_, ?_⟩
   . have:=KW (f:=zM) (r:=y7) (fun c=>jv) (cs:=cs) (own:=[])
     unfold QJ
     simp only [List.length_nil] at this
     omega
   . exact WV (Q:=fun l=>l.length<=4194304) (by simp) (fun c hc=>(jf (VC h5 hc)).2.2.2.2) (fun x hx=>by cases hx)
 . rw [e]
   exact ⟨by simp,fun x hx=>by cases hx⟩
theorem F44_is {a m:ByteArray} {t:Int} {ds:List Dig} {cs:List Chg} {K:Kn} (hp:xP a m t ds cs) (h:K2 K (yg a m t ds cs)):F44 (a,m,t,ds,cs,()) (xp K):=by
 have hl:=exP_lens hp
 unfold F44
 unfold yg at h
 refine ⟨hp, ?_⟩
 show bif !decide ((zH a m t ds cs).2.2=0)then _ else _
 cases e1:decide ((zH a m t ds cs).2.2=0)
 . rw [e1] at h;exact wkK_nilT h
 rw [e1] at h
 rw [Bool.not_true,cond_false] at h ⊢
 refine ⟨hp, ?_⟩
 show bif !decide ((Yb a m t ds cs).2=0)then _ else _
 cases e2:decide ((Yb a m t ds cs).2=0)
 . rw [e2] at h;exact wkK_nilT h
 rw [e2] at h
 exact F44_L3_is hl.1 hl.2 (xp.same h)
def sp44:Sp:=⟨S44,L44,fun g=>xP g.1 g.2.1 g.2.2.1 g.2.2.2.1 g.2.2.2.2.1,fun g=> .tu [.sl false .atm (yg g.1 g.2.1 g.2.2.1 g.2.2.2.1 g.2.2.2.2.1).1, .int .i64 (yg g.1 g.2.1 g.2.2.1 g.2.2.2.1 g.2.2.2.2.1).2],fun _=>none⟩
theorem sp44_ok:sp44.Ok Tryz.prog 44 false:=
 ⟨fun g K X hp h=>FCalls.weak (F44_ok g (xp K) X (F44_is hp h)),fun _ _ _=>rfl,fun _=>rfl,fun h=>(by cases h)⟩
set_option maxRecDepth 100000
def zt:List Chg:=[⟨1,iz,1,iz,⟨#[]⟩,0,⟨#[]⟩,iz,iz,[],[]⟩,⟨2,iz,0,⟨dz, -1⟩,⟨#[102]⟩,0,⟨#[]⟩,iz,iz,[],[]⟩,⟨5,iz,0,iz,⟨#[]⟩,0,⟨#[]⟩,iz,iz,[⟨#[120]⟩],[]⟩]
def YY:ByteArray:=⟨#[97,110,110]⟩
def greatC (c:Chg):Bool:=bif JB c.lines then true else decide (40< (c.over.length:Int))
def yB (cs:List Chg):Nat:=(cs.map fun c=>c.name.size+c.data.size).sum
def greatT (n:Nat) (ds:List Dig) (cs:List Chg):Bool:=bif decide (3000< (n:Int))then true else bif decide (20< (ds.length:Int))then true else decide (20< (cs.length:Int))
def Jt (a m:ByteArray) (t:Int) (ds:List Dig) (cs:List Chg):Bool:=bif cs.all (fun c=> !greatC c)then greatT (a.size+m.size+yB cs) ds cs else true
end Go.Proofs.YtbglndogddddoaaGreatDoor
namespace Go.Proofs.YtbglndogddddoaaGreatDoor
open Go.RowKit
attribute [local irreducible] qW qb
set_option maxRecDepth 100000
def H25:List (Nat×Hint):=[]
def J25:List (Nat×Hint):=[]
abbrev S25:List Sh:=[.ag [.leaf, .leaf, .leaf, .leaf, .leaf]]
abbrev L25:List Lf:=[.str, .str, .int .i64, .sl .dig, .sl .chg]
def F25 (g:prodL L25) (K:Kn):Prop:=
 sp44.pre (g.1,g.2.1,g.2.2.1,g.2.2.2.1,g.2.2.2.2.1,())/\
 K (.tu [.sl false .atm ((yg g.1 g.2.1 g.2.2.1 g.2.2.2.1 g.2.2.2.2.1).1), .int .i64 ((yg g.1 g.2.1 g.2.2.1 g.2.2.2.1 g.2.2.2.2.1).2)]) []
theorem F25_eq (g:prodL L25) (K X:Kn):F25 g K=qW D (qJ [] [(44,false,sp44)]) (qv []) H25 J25 13 [.tmp 2, .tmp 3] (qq Tryz.f25) (argsT S25 L25 g) [] (settle0 K) X:=by kernel_rfl
theorem F25_ok (g:prodL L25) (K X:Kn) (h:F25 g K):FCalls Tryz.prog 25 (argsT S25 L25 g) [] K X:=
 FCalls.settle0 (qz (Γ:=qJ [] [(44,false,sp44)]) (mu:=qv []) (H:=H25) (J:=J25) qh (qV (rs:=[]) (l:=[(44,false,sp44)]) (fun p hp=>by cases hp) (by intro p hp;simp only [List.mem_cons,List.not_mem_nil,or_false] at hp;subst hp;exact sp44_ok)) qj rfl Tryz.func25 (c:=qq Tryz.f25) rfl Tryz.ntmps25 Tryz.results25 (by unfold qk;rw [Tryz.func25];kernel_rfl) (Nat.le_of_ble_eq_true (by kernel_rfl)) (c0:=0) (Eq.mp (F25_eq g K X) h))
def sp25:Sp:=⟨S25,L25,fun g=>sp44.pre g,fun g=> .tu [.sl false .atm ((yg g.1 g.2.1 g.2.2.1 g.2.2.2.1 g.2.2.2.2.1).1), .int .i64 ((yg g.1 g.2.1 g.2.2.1 g.2.2.2.1 g.2.2.2.2.1).2)],fun _=>none⟩
theorem sp25_ok:sp25.Ok Tryz.prog 25 false:=
 ⟨fun g K X hp h=>F25_ok g K X (by
  have h:K (.tu [.sl false .atm ((yg g.1 g.2.1 g.2.2.1 g.2.2.2.1 g.2.2.2.2.1).1), .int .i64 ((yg g.1 g.2.1 g.2.2.1 g.2.2.2.1 g.2.2.2.2.1).2)]) []:=h
  exact ⟨hp,h⟩),fun _ _ _=>rfl,fun _=>rfl,by first | exact fun _ _=>⟨rfl,rfl⟩ | (intro h;cases h)⟩
def H35:List (Nat×Hint):=[]
def J35:List (Nat×Hint):=[]
abbrev S35:List Sh:=[]
abbrev L35:List Lf:=[]
def F35 (g:prodL L35) (K:Kn):Prop:=
 True/\
 K (.ag [.str (⟨#[97,110,110]⟩:ByteArray), .str (⟨#[]⟩:ByteArray), .int .i64 5, .nil, .sl true .chg [(⟨1,iz,1,iz,(⟨#[]⟩:ByteArray),0,(⟨#[]⟩:ByteArray),iz,iz,[],[]⟩:Chg),(⟨2,iz,0,⟨dz, -1⟩,(⟨#[102]⟩:ByteArray),0,(⟨#[]⟩:ByteArray),iz,iz,[],[]⟩:Chg),(⟨5,iz,0,iz,(⟨#[]⟩:ByteArray),0,(⟨#[]⟩:ByteArray),iz,iz,[(⟨#[120]⟩:ByteArray)],[]⟩:Chg)]]) []
theorem F35_eq (g:prodL L35) (K X:Kn):F35 g K=qW D (qJ [] [(28,false,sp28)]) (qv []) H35 J35 8 [.cell 0 25] (qq Tryz.f35) (argsT S35 L35 g) [] (settle0 K) X:=by kernel_rfl
theorem F35_ok (g:prodL L35) (K X:Kn) (h:F35 g K):FCalls Tryz.prog 35 (argsT S35 L35 g) [] K X:=
 FCalls.settle0 (qz (Γ:=qJ [] [(28,false,sp28)]) (mu:=qv []) (H:=H35) (J:=J35) qh (qV (rs:=[]) (l:=[(28,false,sp28)]) (fun p hp=>by cases hp) (by intro p hp;simp only [List.mem_cons,List.not_mem_nil,or_false] at hp;subst hp;exact sp28_ok)) qj rfl Tryz.func35 (c:=qq Tryz.f35) rfl Tryz.ntmps35 Tryz.results35 (by unfold qk;rw [Tryz.func35];kernel_rfl) (Nat.le_of_ble_eq_true (by kernel_rfl)) (c0:=0) (Eq.mp (F35_eq g K X) h))
def H11:List (Nat×Hint):=[(3,⟨[((1,[]),none)],[(1, .pt 0 0),(3, .leaf),(4, .leaf)],[.cells [.leaf, .leaf, .leaf, .leaf, .leaf]],[.int .i64, .int .i64, .str, .str, .int .i64, .sl .dig, .sl .chg]⟩)]
def J11:List (Nat×Hint):=[(7,⟨[((1,[]),none),((5,[]),none)],[(1, .pt 0 0),(3, .leaf),(4, .leaf),(5, .pt 1 0),(33, .leaf)],[.cells [.leaf, .leaf, .leaf, .leaf, .leaf], .el],[.int .i64, .int .i64, .bool, .str, .str, .int .i64, .sl .dig, .sl .chg, .el .chg]⟩)]
abbrev S11:List Sh:=[.ag [.leaf, .leaf, .leaf, .leaf, .leaf]]
abbrev L11:List Lf:=[.str, .str, .int .i64, .sl .dig, .sl .chg]
def F11_J5 (K:Kn) (W2:prodL [.int .i64, .int .i64, .str, .str, .int .i64, .sl .dig, .sl .chg]->Prop) (n_4 i_4:Int) (t_4:Bool) (p1_4 p2_4:ByteArray) (p3_4:Int) (p4_4:List Dig) (p5_4:List Chg) (c_4:Chg):Prop:=
 bif t_4 then (
  K (.bool true) [])
 else (
  W2 (IntKind.i64.wrap ((IntKind.i64.wrap (n_4+(c_4.name.size:Int)))+(c_4.data.size:Int)),IntKind.i64.wrap (i_4+1),p1_4,p2_4,p3_4,p4_4,p5_4,()))
def WK (K:Kn) (W2:prodL [.int .i64, .int .i64, .str, .str, .int .i64, .sl .dig, .sl .chg]->Prop) (n_1 i_1:Int) (p1_1 p2_1:ByteArray) (p3_1:Int) (p4_1:List Dig) (p5_1:List Chg):Prop:=
 bif decide (i_1< (p5_1.length:Int))then (
  At p5_1 i_1 fun u3=>
 sp34.pre (u3.lines,())/\
 bif JB u3.lines then (
  F11_J5 K W2 n_1 i_1 true p1_1 p2_1 p3_1 p4_1 p5_1 u3)
 else (
  F11_J5 K W2 n_1 i_1 (decide (40< (u3.over.length:Int))) p1_1 p2_1 p3_1 p4_1 p5_1 u3))
 else (
  bif decide (3000<n_1)then (
  K (.bool true) [])
 else (
  bif decide (20< (p4_1.length:Int))then (
   K (.bool true) [])
  else (
   K (.bool (decide (20< (p5_1.length:Int)))) [])))
def F11_L2 (K:Kn) (g:prodL [.int .i64, .int .i64, .str, .str, .int .i64, .sl .dig, .sl .chg]):Prop:=
 qX (γ:=prodL [.int .i64, .int .i64, .str, .str, .int .i64, .sl .dig, .sl .chg]) (fun V y=>WK K V y.1 y.2.1 y.2.2.1 y.2.2.2.1 y.2.2.2.2.1 y.2.2.2.2.2.1 y.2.2.2.2.2.2.1) g
def F11 (g:prodL L11) (K:Kn):Prop:=
 F11_L2 K (IntKind.i64.wrap ((g.1.size:Int)+(g.2.1.size:Int)),0,g.1,g.2.1,g.2.2.1,g.2.2.2.1,g.2.2.2.2.1,())
theorem F11_eq (g:prodL L11) (K X:Kn):F11 g K=qW D (qJ [] [(34,true,sp34)]) (qv []) H11 J11 57 [.tmp 2] (qq Tryz.f11) (argsT S11 L11 g) [] (settle0 K) X:=by kernel_rfl
theorem F11_ok (g:prodL L11) (K X:Kn) (h:F11 g K):FCalls Tryz.prog 11 (argsT S11 L11 g) [] K X:=
 FCalls.settle0 (qz (Γ:=qJ [] [(34,true,sp34)]) (mu:=qv []) (H:=H11) (J:=J11) qh (qV (rs:=[]) (l:=[(34,true,sp34)]) (fun p hp=>by cases hp) (by intro p hp;simp only [List.mem_cons,List.not_mem_nil,or_false] at hp;subst hp;exact sp34_ok)) qj rfl Tryz.func11 (c:=qq Tryz.f11) rfl Tryz.ntmps11 Tryz.results11 (by unfold qk;rw [Tryz.func11];kernel_rfl) (Nat.le_of_ble_eq_true (by kernel_rfl)) (c0:=0) (Eq.mp (F11_eq g K X) h))
end Go.Proofs.YtbglndogddddoaaGreatDoor
namespace Go.Proofs.YtbglndogddddoaaGreatDoor
open Go.RowKit
set_option maxRecDepth 100000
def sp35:Sp:=⟨S35,L35,fun _=>True,fun _=> .ag [.str ⟨#[97,110,110]⟩, .str ⟨#[]⟩, .int .i64 5, .sl false .dig [], .sl false .chg zt],fun _=>none⟩
theorem sp35_ok:sp35.Ok Tryz.prog 35 false:=
 ⟨fun g K X _ h=>FCalls.weak (F35_ok g (xp K) X ⟨trivial,_,za.ag (qt.cons (za.refl _) (qt.cons (za.refl _) (qt.cons (za.refl _) (qt.cons (za.nil .dig) (qt.cons (za.sl true .chg _) qt.nil))))),h⟩),fun _ _ _=>rfl,fun _=>rfl,fun h=>(by cases h)⟩
theorem gsum_take {cs:List Chg} {n:Nat} (h:n<cs.length):yB (cs.take (n+1))=yB (cs.take n)+(cs[n].name.size+cs[n].data.size):=by
 unfold yB
 rw [jm h,List.map_append,List.sum_append];simp
theorem gsum_le {cs:List Chg} (h:(cs.map qA).sum<=4194304) (n:Nat):yB (cs.take n)<=4194304:=by
 have h1: ∀l:List Chg,yB l<=(l.map qA).sum:=fun l=>by
  induction l with
  | nil=>simp [yB]
  | cons c l ih=>
   unfold yB at ih ⊢
   simp only [List.map_cons,List.sum_cons]
   have hb:c.name.size+c.data.size<=qA c:=by unfold qA;omega
   omega
 have e:(cs.map qA).sum=((cs.take n).map qA).sum+((cs.drop n).map qA).sum:=by
  rw [<- List.sum_append, <- List.map_append,List.take_append_drop]
 have:=h1 (cs.take n)
 omega
theorem lines_sumP {c:Chg} (h:qA c<=2097152):sumP c.lines:=by
 unfold sumP
 unfold qA at h
 omega
theorem F11_is {a m:ByteArray} {t:Int} {ds:List Dig} {cs:List Chg} {K:Kn} (hp:xP a m t ds cs) (hp2:(cs.map qA).sum<=2097152) (h:KBo K (Jt a m t ds cs)):F11 (a,m,t,ds,cs,()) K:=by
 obtain ⟨h1,h2,h3,h4,h5,h6⟩:=hp
 have hl:=Vp h5
 unfold F11 F11_L2
 unfold Jt at h
 rw [dec_allO] at h
 refine qX.all cs.length (fun n=>(((a.size+m.size+yB (cs.take n):Nat):Int),(n:Int),a,m,t,ds,cs,())) (fun n=>(cs[n]?).all fun c=> !greatC c) (fun r=>KBo K (bif r then greatT (a.size+m.size+yB cs) ds cs else true)) h (by show (IntKind.i64.wrap ((a.size:Int)+(m.size:Int)),_)=_;rw [w64 (by omega)];simp [yB]) (fun W n hn ht hf=> ?_) fun ht W=> ?_
 . show WK K W ((a.size+m.size+yB (cs.take n):Nat):Int) n a m t ds cs
   unfold WK
   rw [zq hn,cond_true]
   have hm:=List.getElem_mem hn
   have hs:=gsum_le h5 n
   have hs1:=gsum_le h5 (n+1)
   rw [gsum_take hn] at hs1 ht
   simp only [jS hn,Option.all_some] at ht hf
   refine zX hn ⟨lines_sumP (Nat.le_trans (ZN qA hm) hp2), ?_⟩
   generalize cs[n]=c at hs1 ht hf ⊢
   have hJ: ∀b,(b=false->W (((a.size+m.size+(yB (cs.take n)+(c.name.size+c.data.size)):Nat):Int),((n+1:Nat):Int),a,m,t,ds,cs,()))->(b=true->KBo K true)->F11_J5 K W ((a.size+m.size+yB (cs.take n):Nat):Int) n b a m t ds cs c:=by
    intro b hb1 hb2
    unfold F11_J5
    cases b
    . have:=hb1 rfl
      rw [cond_false,jw hn (by omega),w64 (n:=((a.size+m.size+yB (cs.take n):Nat):Int)+(c.name.size:Int)) (by omega),w64 (by omega)]
      rw [show ((a.size+m.size+(yB (cs.take n)+(c.name.size+c.data.size)):Nat):Int)=((a.size+m.size+yB (cs.take n):Nat):Int)+(c.name.size:Int)+(c.data.size:Int)by omega] at this
      exact this
    . exact hb2 rfl
   unfold greatC at ht hf
   cases e:JB c.lines
   . rw [e] at ht hf
     exact hJ _ (fun e2=>ht (by rw [e2];rfl)) (fun e2=>hf (by rw [e2];rfl))
   . rw [e] at hf
     exact hJ true (fun e=>by cases e) (fun _=>hf rfl)
 . show WK K W ((a.size+m.size+yB (cs.take cs.length):Nat):Int) cs.length a m t ds cs
   unfold WK
   rw [qG,cond_false,List.take_length]
   have ht:KBo K (greatT (a.size+m.size+yB cs) ds cs):=ht
   unfold greatT at ht
   exact xj (K:=KBo K) id (xj (K:=KBo K) id id) ht
def sp11:Sp:=⟨S11,L11,fun g=>xP g.1 g.2.1 g.2.2.1 g.2.2.2.1 g.2.2.2.2.1/\(g.2.2.2.2.1.map qA).sum<=2097152,fun g=> .bool (Jt g.1 g.2.1 g.2.2.1 g.2.2.2.1 g.2.2.2.2.1),fun _=>none⟩
theorem sp11_ok:sp11.Ok Tryz.prog 11 true:=
 ⟨fun g K X hp h=>F11_ok g K X (F11_is hp.1 hp.2 h),fun _ _ _=>rfl,fun _=>rfl,fun _ _=>⟨rfl,rfl⟩⟩
theorem chgsS:QJ zt=([⟨Jk 0,1,Jk 0,1,iz,⟨#[]⟩,0,⟨#[]⟩,⟨#[]⟩,iz,iz,[]⟩,⟨Jk 1,2,iz,0,⟨dz, -1⟩,⟨#[102]⟩,0,⟨#[]⟩,⟨#[]⟩,iz,iz,[]⟩,
 ⟨Jk 2,5,iz,0,iz,⟨#[]⟩,0,⟨#[]⟩,⟨#[120]⟩,iz,iz,[]⟩,⟨Jk 3,6,iz,0,iz,⟨#[]⟩,0,⟨#[]⟩,⟨#[]⟩,iz,Jk 2,[]⟩,⟨Jk 4,6,iz,0,iz,⟨#[]⟩,0,⟨#[]⟩,⟨#[]⟩,Jk 2,iz,[]⟩],0):=by kernel_rfl
theorem headS:xF jq YY ⟨#[]⟩ 5 [] zt=0:=by kernel_rfl
theorem num1 {n:Nat} (h:n<10):qC (n:Int)=qY ⟨#[UInt8.ofNat (48+n)]⟩:=by
 unfold qC ki
 rw [if_neg (by omega),decB_one h];rfl
theorem numM:qC (-1)=qY ⟨#[45,49]⟩:=by
 unfold qC ki
 rw [if_neg (by omega)]
 show (⟨false,wg (-1),[]⟩:Sx)=_
 have:wg (-1)=⟨#[45,49]⟩:=by
  unfold wg Lib.itoa
  rw [if_pos (by omega),show (-1:Int).natAbs=1 from rfl,Lib.decDigits_one (by omega)];rfl
 rw [this];rfl
def smallX:Sx:=ql [qY Q9,qY YY,qY ⟨#[]⟩,qY ⟨#[53]⟩,ql [],ql [
 ql [qY ⟨#[49]⟩,qY ⟨#[49]⟩],
 ql [qY ⟨#[50]⟩,ql [qY ⟨#[]⟩,qY ⟨#[48]⟩],ql [qY ⟨#[]⟩,qY ⟨#[45,49]⟩],qY ⟨#[102]⟩,ql []],
 ql [qY ⟨#[53]⟩,ql [qY ⟨#[]⟩,qY ⟨#[48]⟩],ql [qY ⟨#[]⟩,qY ⟨#[48]⟩],ql [qY ⟨#[]⟩,qY ⟨#[48]⟩],ql [qY ⟨#[120]⟩]]]]
theorem patS:zR YY ⟨#[]⟩ 5 (zk []) zt=smallX:=by
 have n0:=num1 (n:=0) (by omega)
 have n1:=num1 (n:=1) (by omega)
 have n2:=num1 (n:=2) (by omega)
 have n5:=num1 (n:=5) (by omega)
 have hz:Xa dz=qY ⟨#[]⟩:=by kernel_rfl
 have i0:qI iz=ql [qY ⟨#[]⟩,qY ⟨#[48]⟩]:=by
  show ql [Xa dz,qC ((0:Nat):Int)]=_
  rw [hz,n0];rfl
 have iM:qI ⟨dz, -1⟩=ql [qY ⟨#[]⟩,qY ⟨#[45,49]⟩]:=by
  show ql [Xa dz,qC (-1)]=_
  rw [hz,numM]
 have e:zR YY ⟨#[]⟩ 5 (zk []) zt=ql [qY Q9,qY YY,qY ⟨#[]⟩,qC ((5:Nat):Int),ql [],ql [
  ql [qC ((1:Nat):Int),qC ((1:Nat):Int)],
  ql [qC ((2:Nat):Int),qI iz,qI ⟨dz, -1⟩,qY ⟨#[102]⟩,ql []],
  ql [qC ((5:Nat):Int),qI iz,qI iz,qI iz,ql [qY ⟨#[120]⟩]]]]:=rfl
 rw [e,n1,n2,n5,i0,iM];rfl
theorem jB {s:ByteArray} (n:Nat) (hs:s.size=n) (hn:n<10):yo (qY s)=⟨#[UInt8.ofNat (48+n)]⟩++⟨#[58]⟩++s:=by
 unfold qY
 rw [yo,if_pos rfl,hs,decB_one hn]
theorem enc_list (l:List Sx):yo (ql l)=WT l ⟨#[40]⟩++⟨#[41]⟩:=by
 unfold ql
 rw [yo,if_neg (by simp)]
def vI:ByteArray:=⟨#[40,54,58,113,117,105,108,116,49,51,58,97,110,110,48,58,49,58,53,40,41,40,40,49,58,49,49,58,49,41,40,49,58,50,40,48,58,49,58,48,41,40,48,58,50,58,45,49,41,49,58,102,40,41,41,40,49,58,53,40,48,58,49,58,48,41,40,48,58,49,58,48,41,40,48,58,49,58,48,41,40,49,58,120,41,41,41,41]⟩
theorem encS:yo smallX=vI:=by
 unfold smallX
 simp only [enc_list,WT,jB (s:=Q9) 6 rfl (by omega),jB (s:=YY) 3 rfl (by omega),jB (s:=⟨#[]⟩) 0 rfl (by omega),jB (s:=⟨#[48]⟩) 1 rfl (by omega),jB (s:=⟨#[49]⟩) 1 rfl (by omega),jB (s:=⟨#[50]⟩) 1 rfl (by omega),jB (s:=⟨#[53]⟩) 1 rfl (by omega),jB (s:=⟨#[102]⟩) 1 rfl (by omega),jB (s:=⟨#[120]⟩) 1 rfl (by omega),jB (s:=⟨#[45,49]⟩) 2 rfl (by omega)]
 rfl
theorem enTS:wB (zR YY ⟨#[]⟩ 5 (zk []) zt)=(vI,0):=by
 rw [patS]
 have h:JT smallX=0:=by kernel_rfl
 unfold wB
 rw [if_pos h,encS]
end Go.Proofs.YtbglndogddddoaaGreatDoor
