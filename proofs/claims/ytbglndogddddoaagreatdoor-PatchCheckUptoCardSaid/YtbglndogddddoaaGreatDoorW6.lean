import Derived.Test.YtbglndogddddoaaGreatDoorW5
set_option linter.unusedVariables false
set_option linter.unusedSimpArgs false
set_option linter.unusedSectionVars false
namespace Go.Proofs.YtbglndogddddoaaGreatDoor
open Go.RowKit
set_option maxRecDepth 100000
theorem zi (x:Sx):(⟨x.isList,x.atom,x.list⟩:Sx)=x:=by cases x;rfl
def jc (d:Dig):Sx:=qE (bif zq d dz then ⟨#[]⟩else XH d)
def ql (x:Idn):Sx:=zZ [jc x.patch,qV x.n]
def qr (l:List Idn):Sx:=zZ (l.map ql)
def yW (l:List ByteArray):Sx:=zZ (l.map qE)
def zO (k:Nat) (c:Chg):List Sx:=match k with
 | 1=>[qV c.typ]
 | 2=>[ql c.file,ql c.parent,qE c.name,qr c.over]
 | 3=>[ql c.file,qV c.mode,qr c.over]
 | 4=>[ql c.file,qE c.data,qr c.over]
 | 5=>[ql c.file,ql c.after,ql c.before,yW c.lines]
 | 6=>[ql c.file,ql c.after,ql c.before,qr c.over]
 | 7=>[qr c.over]
 | _=>[]
def chX (c:Chg):Sx:=zZ (qV c.kind::zO c.kind.toNat c)
def Yh:ByteArray:=⟨#[113,117,105,108,116,49]⟩
def zE (a m:ByteArray) (t:Int) (D:List Sx) (cs:List Chg):Sx:=zZ [qE Yh,qE a,qE m,qV t,zZ D,zZ (cs.map chX)]
def encQ (a m:ByteArray) (t:Int) (ds:List Dig) (cs:List Chg):ByteArray×Int:=
 bif (bif !decide ((xu (zE a m t (ds.map jc) cs)).2=0)then true else decide (65536< ((xu (zE a m t (ds.map jc) cs)).1.size:Int)))then (⟨#[]⟩,4)else ((xu (zE a m t (ds.map jc) cs)).1,0)
def tblL:List (Int×ByteArray×Nat):=[(1,⟨#[]⟩,160),(2,⟨#[]⟩,161),(3,⟨#[]⟩,164),(4,⟨#[]⟩,165),(5,⟨#[]⟩,166),(6,⟨#[]⟩,168),(7,⟨#[]⟩,169)]
def chW (c:Chg):Prop:=jk c.typ/\jk c.mode/\jk c.file.n/\jk c.parent.n/\jk c.after.n/\jk c.before.n/\ ∀x∈c.over,jk x.n
def ovP (l:List Idn):Prop:=l.length<=4194304/\ ∀x∈l,jk x.n
theorem QO {c:Chg} (hp:wm c) (hw:chW c):ovP c.over:=⟨(zk hp).2.2.2.2,hw.2.2.2.2.2.2⟩
theorem bk_digX (d:Dig):xF (jc d)<=35:=by
 unfold jc
 rw [ko]
 cases zq d dz
 . rw [cond_false,Kr];omega
 . have:(⟨#[]⟩:ByteArray).size=0:=rfl
   rw [cond_true,this];omega
theorem WK {x:Idn} (h:jk x.n):xF (ql x)<=62:=by
 have h1:=bk_digX x.patch
 have h2:=Z2 h
 unfold ql
 rw [wU]
 simp only [zn]
 omega
theorem YZ {α:Type} (f:α->Sx) (m:Nat): ∀(l:List α),(∀x∈l,xF (f x)<=m)->zn (l.map f)<=m*l.length
 | [],_=>by simp [zn]
 | x::l,h=>by
  have h1:=h x (List.mem_cons_self ..)
  have h2:=YZ f m l fun y hy=>h y (List.mem_cons_of_mem _ hy)
  simp only [List.map_cons,zn,List.length_cons,Nat.mul_succ]
  omega
theorem bk_overX {l:List Idn} (h:ovP l):xF (qr l)<=62*l.length+3:=by
 unfold qr
 rw [wU]
 have:=YZ ql 62 l fun x hx=>WK (h.2 x hx)
 omega
theorem bk_linesX (l:List ByteArray):xF (yW l)<=3*(l.map z6).sum+3:=by
 unfold yW
 rw [wU]
 have:zn (l.map qE)<=3*(l.map z6).sum:=by
  induction l with
  | nil=>simp [zn]
  | cons s l ih=>
   simp only [List.map_cons,zn,List.sum_cons,ko,z6] at ih ⊢
   omega
 omega
theorem bk_chX {c:Chg} (hp:wm c) (hw:chW c) (hk:jk c.kind):xF (chX c)<=5*qf c+300:=by
 have ho:=bk_overX (QO hp hw)
 have hl:=bk_linesX c.lines
 obtain ⟨w1,w2,w3,w4,w5,w6,w7⟩:=hw
 have e:=v6 yZ 33 c.over fun x _=>Nat.le_refl _
 have h3:=WK w3
 have h4:=WK w4
 have h5:=WK w5
 have h6:=WK w6
 have h1:=Z2 w1
 have h2:=Z2 w2
 have hk:=Z2 hk
 have hb:qf c=(c.name.size+1)+(c.data.size+1)+((c.lines.map z6).sum+1)+((c.over.map yZ).sum+1)+135:=rfl
 unfold chX
 rw [wU]
 unfold zO
 split<;>simp only [zn,ko]<;>omega
end Go.Proofs.YtbglndogddddoaaGreatDoor
namespace Go.Proofs.YtbglndogddddoaaGreatDoor
open Go.RowKit
attribute [local irreducible] qJ qh
set_option maxRecDepth 100000
def H118n:List (Nat×Hint):=[]
def J118n:List (Nat×Hint):=[]
abbrev S118n:List Sh:=[.nil]
abbrev XY:List Lf:=[]
abbrev O118n:List ObSh:=[]
def F118n (g:prodL XY) (K:Kn):Prop:=
 K (.ag [.bool true, .str (⟨#[]⟩:ByteArray), .nil]) []
theorem F118n_eq (g:prodL XY) (K X:Kn):F118n g K=qJ D (qk [] []) (qx []) H118n J118n 5 [.cell 2 85] (qz Tryz.f118) (argsT S118n XY g) (qe S118n O118n XY g) (settle0 K) X 0:=by kernel_rfl
theorem F118n_ok (g:prodL XY) (K X:Kn) (h:F118n g K):FCalls Tryz.prog 118 (argsT S118n XY g) (qe S118n O118n XY g) K X 0:=
 FCalls.settle0 (qq (Γ:=qk [] []) (mu:=qx []) (H:=H118n) (J:=J118n) qW (jx jv) qj rfl Tryz.func118 (c:=qz Tryz.f118) rfl Tryz.ntmps118 Tryz.results118 (by unfold qv;rw [Tryz.func118];kernel_rfl) (Nat.le_of_ble_eq_true (by kernel_rfl)) (c0:=0) (Eq.mp (F118n_eq g K X) h))
def ju:Raw:=⟨S118n,O118n,XY,0,fun g K _=>F118n g K⟩
theorem JL:ju.Ok Tryz.prog 118:=fun g K X h=>F118n_ok g K X h
def H121:List (Nat×Hint):=[]
def J121:List (Nat×Hint):=[]
abbrev S121:List Sh:=[.leaf]
abbrev L121:List Lf:=[.int .i64]
def F121 (g:prodL L121) (K:Kn):Prop:=
 Kg.pre (g.1,())/\
 K (.ag [.bool (((vX g.1).1).isList), .str (((vX g.1).1).atom), .sl false .sexp (((vX g.1).1).list)]) []
theorem F121_eq (g:prodL L121) (K X:Kn):F121 g K=qJ D (qk [] [(170,false,Kg)]) (qx []) H121 J121 11 [.cell 2 85] (qz Tryz.f121) (argsT S121 L121 g) [] (settle0 K) X:=by kernel_rfl
theorem F121_ok (g:prodL L121) (K X:Kn) (h:F121 g K):FCalls Tryz.prog 121 (argsT S121 L121 g) [] K X:=
 FCalls.settle0 (qq (Γ:=qk [] [(170,false,Kg)]) (mu:=qx []) (H:=H121) (J:=J121) qW (qX (rs:=[]) (l:=[(170,false,Kg)]) (fun p hp=>by cases hp) (by intro p hp;simp only [List.mem_cons,List.not_mem_nil,or_false] at hp;subst hp;exact sp170_ok)) qj rfl Tryz.func121 (c:=qz Tryz.f121) rfl Tryz.ntmps121 Tryz.results121 (by unfold qv;rw [Tryz.func121];kernel_rfl) (Nat.le_of_ble_eq_true (by kernel_rfl)) (c0:=0) (Eq.mp (F121_eq g K X) h))
def H79:List (Nat×Hint):=[]
def J79:List (Nat×Hint):=[]
abbrev S79:List Sh:=[.leaf]
abbrev L79:List Lf:=[.int .i64]
def F79 (g:prodL L79) (K:Kn):Prop:=
 sp133.pre (g.1,())/\
 K (.ag [.bool (((vX g.1).1).isList), .str (((vX g.1).1).atom), .sl false .sexp (((vX g.1).1).list)]) []
theorem F79_eq (g:prodL L79) (K X:Kn):F79 g K=qJ D (qk [] [(133,false,sp133)]) (qx []) H79 J79 11 [.cell 2 85] (qz Tryz.f79) (argsT S79 L79 g) [] (settle0 K) X:=by kernel_rfl
theorem F79_ok (g:prodL L79) (K X:Kn) (h:F79 g K):FCalls Tryz.prog 79 (argsT S79 L79 g) [] K X:=
 FCalls.settle0 (qq (Γ:=qk [] [(133,false,sp133)]) (mu:=qx []) (H:=H79) (J:=J79) qW (qX (rs:=[]) (l:=[(133,false,sp133)]) (fun p hp=>by cases hp) (by intro p hp;simp only [List.mem_cons,List.not_mem_nil,or_false] at hp;subst hp;exact sp133_ok)) qj rfl Tryz.func79 (c:=qz Tryz.f79) rfl Tryz.ntmps79 Tryz.results79 (by unfold qv;rw [Tryz.func79];kernel_rfl) (Nat.le_of_ble_eq_true (by kernel_rfl)) (c0:=0) (Eq.mp (F79_eq g K X) h))
def H128:List (Nat×Hint):=[]
def J128:List (Nat×Hint):=[]
abbrev S128:List Sh:=[.leaf]
abbrev L128:List Lf:=[.el .dig]
def F128 (g:prodL L128) (K:Kn):Prop:=
 K (.str (XH g.1)) []
theorem F128_eq (g:prodL L128) (K X:Kn):F128 g K=qJ D (qk [] []) (qx []) H128 J128 5 [.tmp 2] (qz Tryz.f128) (argsT S128 L128 g) [] (settle0 K) X:=by kernel_rfl
theorem F128_ok (g:prodL L128) (K X:Kn) (h:F128 g K):FCalls Tryz.prog 128 (argsT S128 L128 g) [] K X:=
 FCalls.settle0 (qq qW (jx jv) qj rfl Tryz.func128 (c:=qz Tryz.f128) rfl Tryz.ntmps128 Tryz.results128 (by unfold qv;rw [Tryz.func128];kernel_rfl) (Nat.le_of_ble_eq_true (by kernel_rfl)) (c0:=0) (Eq.mp (F128_eq g K X) h))
def sp128:Sp:=⟨S128,L128,fun _=>True,fun g=> .str (XH g.1),fun _=>none⟩
theorem sp128_ok:sp128.Ok Tryz.prog 128 true:=
 ⟨fun g K X hp h=>F128_ok g K X h,fun _ _ _=>rfl,fun _=>rfl,by first | exact fun _ _=>⟨rfl,rfl⟩ | (intro h;cases h)⟩
def H74:List (Nat×Hint):=[]
def J74:List (Nat×Hint):=[]
abbrev S74:List Sh:=[.leaf]
abbrev L74:List Lf:=[.el .dig]
def F74 (g:prodL L74) (K:Kn):Prop:=
 True/\
 bif zq g.1 dz then (
  True/\
  K (.ag [.bool false, .str (⟨#[]⟩:ByteArray), .nil]) [])
 else (
  True/\
 True/\
 K (.ag [.bool false, .str (XH g.1), .nil]) [])
theorem F74_eq (g:prodL L74) (K X:Kn):F74 g K=qJ D (qk [] [(78,false,sp78),(123,true,Ql),(128,true,sp128)]) (qx []) H74 J74 9 [.cell 2 85] (qz Tryz.f74) (argsT S74 L74 g) [] (settle0 K) X:=by kernel_rfl
theorem F74_ok (g:prodL L74) (K X:Kn) (h:F74 g K):FCalls Tryz.prog 74 (argsT S74 L74 g) [] K X:=
 FCalls.settle0 (qq qW (jx (zj Ji (zj yR (zj sp128_ok jv)))) qj rfl Tryz.func74 (c:=qz Tryz.f74) rfl Tryz.ntmps74 Tryz.results74 (by unfold qv;rw [Tryz.func74];kernel_rfl) (Nat.le_of_ble_eq_true (by kernel_rfl)) (c0:=0) (Eq.mp (F74_eq g K X) h))
def H120:List (Nat×Hint):=[]
def J120:List (Nat×Hint):=[]
abbrev S120:List Sh:=[]
abbrev qzs:List Lf:=[]
abbrev O120:List ObSh:=[]
def F120 (g:prodL qzs) (K:Kn):Prop:=
 K (.mp 0) [some (.cells [.fents false [(1,(⟨#[]⟩:ByteArray),160),(2,(⟨#[]⟩:ByteArray),161),(3,(⟨#[]⟩:ByteArray),164),(4,(⟨#[]⟩:ByteArray),165),(5,(⟨#[]⟩:ByteArray),166),(6,(⟨#[]⟩:ByteArray),168),(7,(⟨#[]⟩:ByteArray),169)]])]
theorem F120_eq (g:prodL qzs) (K X:Kn):F120 g K=qJ D (qk [] []) (qx []) H120 J120 3 [.tmp 0] (qz Tryz.f120) (argsT S120 qzs g) (qe S120 O120 qzs g) (settleD (qe S120 O120 qzs g).length 0 K) X 0:=by kernel_rfl
theorem F120_ok (g:prodL qzs) (K X:Kn) (h:F120 g K):FCalls Tryz.prog 120 (argsT S120 qzs g) (qe S120 O120 qzs g) K X 0:=
 FCalls.settleD (qq (Γ:=qk [] []) (mu:=qx []) (H:=H120) (J:=J120) qW (jx jv) qj rfl Tryz.func120 (c:=qz Tryz.f120) rfl Tryz.ntmps120 (rs:=[.tmp 0]) Tryz.results120 (by unfold qv;rw [Tryz.func120];kernel_rfl) (Nat.le_of_ble_eq_true (by kernel_rfl)) (X:=X) (c0:=0) (Eq.mp (F120_eq g K X) h))
def H167:List (Nat×Hint):=[(3,⟨[((2,[]),none),((3,[]),none),((3,[2]),some .sexp)],[(2, .pt 0 0),(3, .pt 1 0),(7, .leaf),(8, .leaf),(9, .leaf)],[.cells [.leaf, .leaf, .nil], .cells [.leaf, .leaf, .oa .sexp 2], .arr .sexp],[.sl .str, .int .i64, .int .i64, .bool, .str, .bool, .str, .sl .sexp]⟩)]
def J167:List (Nat×Hint):=[]
abbrev S167:List Sh:=[.leaf]
abbrev L167:List Lf:=[.sl .str]
def Zl (K:Kn) (W6:prodL [.sl .str, .int .i64, .int .i64, .bool, .str, .bool, .str, .sl .sexp]->Prop) (t_5:List ByteArray) (t2_5 t3_5:Int) (t1_5:Bool) (t22_5:ByteArray) (x1_5:Bool) (x2_5:ByteArray) (x_5:List Sx):Prop:=
 bif decide (t3_5<t2_5)then (
  At t_5 t3_5 fun u7=>
 True/\
 qn (x_5.length+[(⟨false,u7,[]⟩:Sx)].length) 48 (
 W6 (t_5,t2_5,IntKind.i64.wrap (t3_5+1),t1_5,t22_5,x1_5,x2_5,x_5++[(⟨false,u7,[]⟩:Sx)],())))
 else (
  K (.ag [.bool x1_5, .str x2_5, .sl false .sexp x_5]) [])
def F167_L6 (K:Kn) (g:prodL [.sl .str, .int .i64, .int .i64, .bool, .str, .bool, .str, .sl .sexp]):Prop:=
 qQ (γ:=prodL [.sl .str, .int .i64, .int .i64, .bool, .str, .bool, .str, .sl .sexp]) (fun V y=>Zl K V y.1 y.2.1 y.2.2.1 y.2.2.2.1 y.2.2.2.2.1 y.2.2.2.2.2.1 y.2.2.2.2.2.2.1 y.2.2.2.2.2.2.2.1) g
def F167 (g:prodL L167) (K:Kn):Prop:=
 let g1:prodL []:=(());
 F167_L6 K (g.1,(g.1.length:Int),0,false,(⟨#[]⟩:ByteArray),true,(⟨#[]⟩:ByteArray),[],())
theorem F167_eq (g:prodL L167) (K X:Kn):F167 g K=qJ D (qk [(118,ju)] [(119,false,yH)]) (qx [(118,ju)]) H167 J167 22 [.cell 2 85] (qz Tryz.f167) (argsT S167 L167 g) [] (settle0 K) X:=by kernel_rfl
theorem F167_ok (g:prodL L167) (K X:Kn) (h:F167 g K):FCalls Tryz.prog 167 (argsT S167 L167 g) [] K X:=
 FCalls.settle0 (qq (Γ:=qk [(118,ju)] [(119,false,yH)]) (mu:=qx [(118,ju)]) (H:=H167) (J:=J167) qW (qX (rs:=[(118,ju)]) (l:=[(119,false,yH)]) (by intro p hp;simp only [List.mem_cons,List.not_mem_nil,or_false] at hp;subst hp;exact JL) (by intro p hp;simp only [List.mem_cons,List.not_mem_nil,or_false] at hp;subst hp;exact kY)) qj rfl Tryz.func167 (c:=qz Tryz.f167) rfl Tryz.ntmps167 Tryz.results167 (by unfold qv;rw [Tryz.func167];kernel_rfl) (Nat.le_of_ble_eq_true (by kernel_rfl)) (c0:=0) (Eq.mp (F167_eq g K X) h))
end Go.Proofs.YtbglndogddddoaaGreatDoor
namespace Go.Proofs.YtbglndogddddoaaGreatDoor
open Go.RowKit
set_option maxRecDepth 100000
theorem wkX {K:Kn} {b:Bool} {s:ByteArray} {f:Bool} {l:List Sx} {st:St} (h:K (.ag [.bool b, .str s, .sl false .sexp l]) st):xa K (.ag [.bool b, .str s, .sl f .sexp l]) st:=
 ⟨_,zr.ag (qP.cons (zr.refl _) (qP.cons (zr.refl _) (qP.cons (zr.sl f .sexp l) qP.nil))),h⟩
theorem wkX0 {K:Kn} {b:Bool} {s:ByteArray} {st:St} (h:K (.ag [.bool b, .str s, .sl false .sexp []]) st):xa K (.ag [.bool b, .str s, .nil]) st:=
 ⟨_,zr.ag (qP.cons (zr.refl _) (qP.cons (zr.refl _) (qP.cons (zr.nil .sexp) qP.nil))),h⟩
def xA:Sp:=⟨S121,L121,fun g=>jk g.1,fun g=> .ag (enc .sexp (qV g.1)),fun _=>none⟩
theorem Z9:xA.Ok Tryz.prog 121 false:=
 ⟨fun g K X hp h=>F121_ok g K X ⟨hp,h⟩,fun _ _ _=>rfl,fun _=>rfl,fun h=>(by cases h)⟩
def xf:Sp:=⟨S79,L79,fun g=>jk g.1,fun g=> .ag (enc .sexp (qV g.1)),fun _=>none⟩
theorem vk:xf.Ok Tryz.prog 79 false:=
 ⟨fun g K X hp h=>F79_ok g K X ⟨hp,h⟩,fun _ _ _=>rfl,fun _=>rfl,fun h=>(by cases h)⟩
def sp120:Sp:=⟨S120,qzs,fun _=>True,fun _=> .mp 0,fun _=>some (.cells [.fents false tblL])⟩
theorem sp120_ok:sp120.Ok Tryz.prog 120 false:=
 ⟨fun g K X _ h=>F120_ok g K X h,fun _ _ _=>rfl,fun _=>rfl,fun h=>(by cases h)⟩
theorem F74_is {d:Dig} {K:Kn} (h:K (.ag (enc .sexp (jc d))) []):F74 (d,()) (xa K):=by
 unfold F74
 refine ⟨trivial, ?_⟩
 show bif zq d dz then _ else _
 unfold jc at h
 cases c:zq d dz
 . rw [c] at h;exact ⟨trivial,trivial,wkX0 h⟩
 . rw [c] at h;exact ⟨trivial,wkX0 h⟩
def sp74:Sp:=⟨S74,L74,fun _=>True,fun g=> .ag (enc .sexp (jc g.1)),fun _=>none⟩
theorem sp74_ok:sp74.Ok Tryz.prog 74 false:=
 ⟨fun g K X _ h=>FCalls.weak (F74_ok g (xa K) X (F74_is h)),fun _ _ _=>rfl,fun _=>rfl,fun h=>(by cases h)⟩
theorem F167_is {l:List ByteArray} {K:Kn} (hl:l.length<=4194304) (h:K (.ag (enc .sexp (yW l))) []):F167 (l,()) K:=by
 unfold F167
 refine qQ.map l qE (fun n out=>(l,(l.length:Int),n,false,⟨#[]⟩,true,⟨#[]⟩,out,())) (by omega) rfl (fun W n hn out ho hW=> ?_) fun W=> ?_
 . show Zl K W l l.length n false ⟨#[]⟩ true ⟨#[]⟩ out
   unfold Zl
   rw [qo hn,cond_true]
   exact qB hn ⟨trivial,by simp only [List.length_singleton,ho];omega,hW⟩
 . show Zl K W l l.length l.length false ⟨#[]⟩ true ⟨#[]⟩ (l.map qE)
   unfold Zl
   rw [qg,cond_false];exact h
def sp167:Sp:=⟨S167,L167,fun g=>g.1.length<=4194304,fun g=> .ag (enc .sexp (yW g.1)),fun _=>none⟩
theorem sp167_ok:sp167.Ok Tryz.prog 167 false:=
 ⟨fun g K X hp h=>F167_ok g K X (F167_is hp h),fun _ _ _=>rfl,fun _=>rfl,fun h=>(by cases h)⟩
end Go.Proofs.YtbglndogddddoaaGreatDoor
namespace Go.Proofs.YtbglndogddddoaaGreatDoor
open Go.RowKit
attribute [local irreducible] qJ qh
set_option maxRecDepth 100000
def H162:List (Nat×Hint):=[]
def J162:List (Nat×Hint):=[]
abbrev S162:List Sh:=[.leaf]
abbrev L162:List Lf:=[.el .idk]
def F162 (g:prodL L162) (K:Kn):Prop:=
 True/\
 bif QC g.1 then (
  True/\
  xA.pre (g.1.n,())/\
  let g1:prodL [.sl .sexp]:=([(⟨false,(⟨#[]⟩:ByteArray),[]⟩:Sx),(⟨(qV g.1.n).isList,(qV g.1.n).atom,(qV g.1.n).list⟩:Sx)],());
  K (.ag [.bool true, .str (⟨#[]⟩:ByteArray), .sl true .sexp g1.1]) [])
 else (
  True/\
 xA.pre (g.1.n,())/\
 let g2:prodL [.sl .sexp]:=([(⟨false,XH g.1.patch,[]⟩:Sx),(⟨(qV g.1.n).isList,(qV g.1.n).atom,(qV g.1.n).list⟩:Sx)],());
 K (.ag [.bool true, .str (⟨#[]⟩:ByteArray), .sl true .sexp g2.1]) [])
theorem F162_eq (g:prodL L162) (K X:Kn):F162 g K=qJ D (qk [(118,ki)] [(47,true,sp47),(119,false,yH),(121,false,xA)]) (qx [(118,ki)]) H162 J162 20 [.cell 2 85] (qz Tryz.f162) (argsT S162 L162 g) [] (settle0 K) X:=by kernel_rfl
theorem F162_ok (g:prodL L162) (K X:Kn) (h:F162 g K):FCalls Tryz.prog 162 (argsT S162 L162 g) [] K X:=
 FCalls.settle0 (qq (Γ:=qk [(118,ki)] [(47,true,sp47),(119,false,yH),(121,false,xA)]) (mu:=qx [(118,ki)]) (H:=H162) (J:=J162) qW (qX (rs:=[(118,ki)]) (l:=[(47,true,sp47),(119,false,yH),(121,false,xA)]) (by intro p hp;simp only [List.mem_cons,List.not_mem_nil,or_false] at hp;subst hp;exact rw118_ok) (by intro p hp;simp only [List.mem_cons,List.not_mem_nil,or_false] at hp;rcases hp with rfl | rfl | rfl<;>first | exact sp47_ok | exact kY | exact Z9)) qj rfl Tryz.func162 (c:=qz Tryz.f162) rfl Tryz.ntmps162 Tryz.results162 (by unfold qv;rw [Tryz.func162];kernel_rfl) (Nat.le_of_ble_eq_true (by kernel_rfl)) (c0:=0) (Eq.mp (F162_eq g K X) h))
def H129:List (Nat×Hint):=[]
def J129:List (Nat×Hint):=[]
abbrev S129:List Sh:=[.leaf]
abbrev L129:List Lf:=[.el .idk]
def F129 (g:prodL L129) (K:Kn):Prop:=
 True/\
 xf.pre (g.1.n,())/\
 True/\
 K (.ag [.bool true, .str (⟨#[]⟩:ByteArray), .sl false .sexp [(⟨(jc g.1.patch).isList,(jc g.1.patch).atom,(jc g.1.patch).list⟩:Sx),(⟨(qV g.1.n).isList,(qV g.1.n).atom,(qV g.1.n).list⟩:Sx)]]) []
theorem F129_eq (g:prodL L129) (K X:Kn):F129 g K=qJ D (qk [] [(74,false,sp74),(77,false,yM),(79,false,xf)]) (qx []) H129 J129 11 [.cell 2 85] (qz Tryz.f129) (argsT S129 L129 g) [] (settle0 K) X:=by kernel_rfl
theorem F129_ok (g:prodL L129) (K X:Kn) (h:F129 g K):FCalls Tryz.prog 129 (argsT S129 L129 g) [] K X:=
 FCalls.settle0 (qq qW (jx (zj sp74_ok (zj xt (zj vk jv)))) qj rfl Tryz.func129 (c:=qz Tryz.f129) rfl Tryz.ntmps129 Tryz.results129 (by unfold qv;rw [Tryz.func129];kernel_rfl) (Nat.le_of_ble_eq_true (by kernel_rfl)) (c0:=0) (Eq.mp (F129_eq g K X) h))
end Go.Proofs.YtbglndogddddoaaGreatDoor
namespace Go.Proofs.YtbglndogddddoaaGreatDoor
open Go.RowKit
set_option maxRecDepth 100000
theorem F162_is {x:Idn} {K:Kn} (hp:jk x.n) (h:K (.ag (enc .sexp (ql x))) []):F162 (x,()) (xa K):=by
 unfold F162
 simp only [zi]
 refine ⟨trivial, ?_⟩
 unfold ql jc at h
 unfold QC
 cases c:zq x.patch dz
 . rw [c] at h;exact ⟨trivial,hp,wkX h⟩
 . rw [c] at h;exact ⟨trivial,hp,wkX h⟩
def xx:Sp:=⟨S162,L162,fun g=>jk g.1.n,fun g=> .ag (enc .sexp (ql g.1)),fun _=>none⟩
theorem wB:xx.Ok Tryz.prog 162 false:=
 ⟨fun g K X hp h=>FCalls.weak (F162_ok g (xa K) X (F162_is hp h)),fun _ _ _=>rfl,fun _=>rfl,fun h=>(by cases h)⟩
theorem F129_is {x:Idn} {K:Kn} (hp:jk x.n) (h:K (.ag (enc .sexp (ql x))) []):F129 (x,()) K:=by
 unfold F129
 simp only [zi]
 exact ⟨trivial,hp,trivial,h⟩
def jf:Sp:=⟨S129,L129,fun g=>jk g.1.n,fun g=> .ag (enc .sexp (ql g.1)),fun _=>none⟩
theorem wN:jf.Ok Tryz.prog 129 false:=
 ⟨fun g K X hp h=>F129_ok g K X (F129_is hp h),fun _ _ _=>rfl,fun _=>rfl,fun h=>(by cases h)⟩
end Go.Proofs.YtbglndogddddoaaGreatDoor
namespace Go.Proofs.YtbglndogddddoaaGreatDoor
open Go.RowKit
attribute [local irreducible] qJ qh
set_option maxRecDepth 100000
def H163:List (Nat×Hint):=[(3,⟨[((2,[]),none),((3,[]),none),((3,[2]),some .sexp)],[(2, .pt 0 0),(3, .pt 1 0),(7, .leaf),(8, .leaf),(9, .leaf)],[.cells [.leaf, .leaf, .nil], .cells [.leaf, .leaf, .oa .sexp 2], .arr .sexp],[.sl .idk, .int .i64, .int .i64, .bool, .str, .bool, .str, .sl .sexp]⟩)]
def J163:List (Nat×Hint):=[]
abbrev S163:List Sh:=[.leaf]
abbrev L163:List Lf:=[.sl .idk]
def ZU (K:Kn) (W6:prodL [.sl .idk, .int .i64, .int .i64, .bool, .str, .bool, .str, .sl .sexp]->Prop) (t_5:List Idn) (t2_5 t3_5:Int) (t1_5:Bool) (t22_5:ByteArray) (x1_5:Bool) (x2_5:ByteArray) (x_5:List Sx):Prop:=
 bif decide (t3_5<t2_5)then (
  At t_5 t3_5 fun u7=>
 xx.pre (u7,())/\
 qn (x_5.length+[(⟨(ql u7).isList,(ql u7).atom,(ql u7).list⟩:Sx)].length) 48 (
 W6 (t_5,t2_5,IntKind.i64.wrap (t3_5+1),t1_5,t22_5,x1_5,x2_5,x_5++[(⟨(ql u7).isList,(ql u7).atom,(ql u7).list⟩:Sx)],())))
 else (
  K (.ag [.bool x1_5, .str x2_5, .sl false .sexp x_5]) [])
def F163_L6 (K:Kn) (g:prodL [.sl .idk, .int .i64, .int .i64, .bool, .str, .bool, .str, .sl .sexp]):Prop:=
 qQ (γ:=prodL [.sl .idk, .int .i64, .int .i64, .bool, .str, .bool, .str, .sl .sexp]) (fun V y=>ZU K V y.1 y.2.1 y.2.2.1 y.2.2.2.1 y.2.2.2.2.1 y.2.2.2.2.2.1 y.2.2.2.2.2.2.1 y.2.2.2.2.2.2.2.1) g
def F163 (g:prodL L163) (K:Kn):Prop:=
 let g1:prodL []:=(());
 F163_L6 K (g.1,(g.1.length:Int),0,false,(⟨#[]⟩:ByteArray),true,(⟨#[]⟩:ByteArray),[],())
theorem F163_eq (g:prodL L163) (K X:Kn):F163 g K=qJ D (qk [(118,ju)] [(162,false,xx)]) (qx [(118,ju)]) H163 J163 22 [.cell 2 85] (qz Tryz.f163) (argsT S163 L163 g) [] (settle0 K) X:=by kernel_rfl
theorem F163_ok (g:prodL L163) (K X:Kn) (h:F163 g K):FCalls Tryz.prog 163 (argsT S163 L163 g) [] K X:=
 FCalls.settle0 (qq (Γ:=qk [(118,ju)] [(162,false,xx)]) (mu:=qx [(118,ju)]) (H:=H163) (J:=J163) qW (qX (rs:=[(118,ju)]) (l:=[(162,false,xx)]) (by intro p hp;simp only [List.mem_cons,List.not_mem_nil,or_false] at hp;subst hp;exact JL) (by intro p hp;simp only [List.mem_cons,List.not_mem_nil,or_false] at hp;subst hp;exact wB)) qj rfl Tryz.func163 (c:=qz Tryz.f163) rfl Tryz.ntmps163 Tryz.results163 (by unfold qv;rw [Tryz.func163];kernel_rfl) (Nat.le_of_ble_eq_true (by kernel_rfl)) (c0:=0) (Eq.mp (F163_eq g K X) h))
def H130:List (Nat×Hint):=[(3,⟨[((2,[]),none),((3,[]),some .sexp)],[(0, .leaf),(2, .pt 0 0),(3, .oa .sexp 1),(4, .leaf)],[.cells [.leaf, .leaf, .nil], .arr .sexp],[.sl .idk, .int .i64, .bool, .str, .sl .sexp]⟩)]
def J130:List (Nat×Hint):=[(6,⟨[((2,[]),none)],[(2, .pt 0 0),(3, .leaf)],[.cells [.leaf, .leaf, .nil]],[.sl .sexp, .bool, .str]⟩)]
abbrev S130:List Sh:=[.leaf]
abbrev L130:List Lf:=[.sl .idk]
def F130_J8 (K:Kn) (out_7:List Sx) (t1_7:Bool) (t2_7:ByteArray):Prop:=
 True/\
 K (.ag [.bool true, .str (⟨#[]⟩:ByteArray), .sl false .sexp out_7]) []
def Jw (K:Kn) (W5:prodL [.sl .idk, .int .i64, .bool, .str, .sl .sexp]->Prop) (l_4:List Idn) (i_4:Int) (t1_4:Bool) (t2_4:ByteArray) (out_4:List Sx):Prop:=
 bif decide (i_4< (l_4.length:Int))then (
  At l_4 i_4 fun u6=>
 jf.pre (u6,())/\
 qn (out_4.length+[(⟨(ql u6).isList,(ql u6).atom,(ql u6).list⟩:Sx)].length) 48 (
 W5 (l_4,IntKind.i64.wrap (i_4+1),t1_4,t2_4,out_4++[(⟨(ql u6).isList,(ql u6).atom,(ql u6).list⟩:Sx)],())))
 else (
  F130_J8 K out_4 t1_4 t2_4)
def F130_L5 (K:Kn) (g:prodL [.sl .idk, .int .i64, .bool, .str, .sl .sexp]):Prop:=
 qQ (γ:=prodL [.sl .idk, .int .i64, .bool, .str, .sl .sexp]) (fun V y=>Jw K V y.1 y.2.1 y.2.2.1 y.2.2.2.1 y.2.2.2.2.1) g
def F130 (g:prodL L130) (K:Kn):Prop:=
 F130_L5 K (g.1,0,false,(⟨#[]⟩:ByteArray),[],())
theorem F130_eq (g:prodL L130) (K X:Kn):F130 g K=qJ D (qk [] [(77,false,yM),(129,false,jf)]) (qx []) H130 J130 22 [.cell 2 85] (qz Tryz.f130) (argsT S130 L130 g) [] (settle0 K) X:=by kernel_rfl
theorem F130_ok (g:prodL L130) (K X:Kn) (h:F130 g K):FCalls Tryz.prog 130 (argsT S130 L130 g) [] K X:=
 FCalls.settle0 (qq qW (jx (zj xt (zj wN jv))) qj rfl Tryz.func130 (c:=qz Tryz.f130) rfl Tryz.ntmps130 Tryz.results130 (by unfold qv;rw [Tryz.func130];kernel_rfl) (Nat.le_of_ble_eq_true (by kernel_rfl)) (c0:=0) (Eq.mp (F130_eq g K X) h))
end Go.Proofs.YtbglndogddddoaaGreatDoor
namespace Go.Proofs.YtbglndogddddoaaGreatDoor
open Go.RowKit
set_option maxRecDepth 100000
theorem F163_is {l:List Idn} {K:Kn} (hp:ovP l) (h:K (.ag (enc .sexp (qr l))) []):F163 (l,()) K:=by
 obtain ⟨hl,hi⟩:=hp
 unfold F163
 refine qQ.map l ql (fun n out=>(l,(l.length:Int),n,false,⟨#[]⟩,true,⟨#[]⟩,out,())) (by omega) rfl (fun W n hn out ho hW=> ?_) fun W=> ?_
 . show ZU K W l l.length n false ⟨#[]⟩ true ⟨#[]⟩ out
   unfold ZU
   rw [qo hn,cond_true]
   simp only [zi]
   exact qB hn ⟨hi _ (List.getElem_mem _),by simp only [List.length_singleton,ho];omega,hW⟩
 . show ZU K W l l.length l.length false ⟨#[]⟩ true ⟨#[]⟩ (l.map ql)
   unfold ZU
   rw [qg,cond_false];exact h
def wu:Sp:=⟨S163,L163,fun g=>ovP g.1,fun g=> .ag (enc .sexp (qr g.1)),fun _=>none⟩
theorem kE:wu.Ok Tryz.prog 163 false:=
 ⟨fun g K X hp h=>F163_ok g K X (F163_is hp h),fun _ _ _=>rfl,fun _=>rfl,fun h=>(by cases h)⟩
theorem F130_is {l:List Idn} {K:Kn} (hp:ovP l) (h:K (.ag (enc .sexp (qr l))) []):F130 (l,()) K:=by
 obtain ⟨hl,hi⟩:=hp
 unfold F130
 refine qQ.map l ql (fun n out=>(l,n,false,⟨#[]⟩,out,())) (by omega) rfl (fun W n hn out ho hW=> ?_) fun W=> ?_
 . show Jw K W l n false ⟨#[]⟩ out
   unfold Jw
   rw [qo hn,cond_true]
   simp only [zi]
   exact qB hn ⟨hi _ (List.getElem_mem _),by simp only [List.length_singleton,ho];omega,hW⟩
 . show Jw K W l l.length false ⟨#[]⟩ (l.map ql)
   unfold Jw
   rw [qg,cond_false];exact ⟨trivial,h⟩
def vj:Sp:=⟨S130,L130,fun g=>ovP g.1,fun g=> .ag (enc .sexp (qr g.1)),fun _=>none⟩
theorem kb:vj.Ok Tryz.prog 130 false:=
 ⟨fun g K X hp h=>F130_ok g K X (F130_is hp h),fun _ _ _=>rfl,fun _=>rfl,fun h=>(by cases h)⟩
end Go.Proofs.YtbglndogddddoaaGreatDoor
namespace Go.Proofs.YtbglndogddddoaaGreatDoor
open Go.RowKit
attribute [local irreducible] qJ qh
set_option maxRecDepth 100000
def H160:List (Nat×Hint):=[]
def J160:List (Nat×Hint):=[]
abbrev S160:List Sh:=[.leaf]
abbrev L160:List Lf:=[.el .chg]
def F160 (g:prodL L160) (K:Kn):Prop:=
 xA.pre (g.1.typ,())/\
 K (.sl true .sexp [(⟨(qV g.1.typ).isList,(qV g.1.typ).atom,(qV g.1.typ).list⟩:Sx)]) []
theorem F160_eq (g:prodL L160) (K X:Kn):F160 g K=qJ D (qk [] [(121,false,xA)]) (qx []) H160 J160 7 [.tmp 2] (qz Tryz.f160) (argsT S160 L160 g) [] (settle0 K) X:=by kernel_rfl
theorem F160_ok (g:prodL L160) (K X:Kn) (h:F160 g K):FCalls Tryz.prog 160 (argsT S160 L160 g) [] K X:=
 FCalls.settle0 (qq (Γ:=qk [] [(121,false,xA)]) (mu:=qx []) (H:=H160) (J:=J160) qW (qX (rs:=[]) (l:=[(121,false,xA)]) (fun p hp=>by cases hp) (by intro p hp;simp only [List.mem_cons,List.not_mem_nil,or_false] at hp;subst hp;exact Z9)) qj rfl Tryz.func160 (c:=qz Tryz.f160) rfl Tryz.ntmps160 Tryz.results160 (by unfold qv;rw [Tryz.func160];kernel_rfl) (Nat.le_of_ble_eq_true (by kernel_rfl)) (c0:=0) (Eq.mp (F160_eq g K X) h))
def H161:List (Nat×Hint):=[]
def J161:List (Nat×Hint):=[]
abbrev S161:List Sh:=[.leaf]
abbrev L161:List Lf:=[.el .chg]
def F161 (g:prodL L161) (K:Kn):Prop:=
 xx.pre (g.1.file,())/\
 xx.pre (g.1.parent,())/\
 True/\
 wu.pre (g.1.over,())/\
 K (.sl true .sexp [(⟨(ql g.1.file).isList,(ql g.1.file).atom,(ql g.1.file).list⟩:Sx),(⟨(ql g.1.parent).isList,(ql g.1.parent).atom,(ql g.1.parent).list⟩:Sx),(⟨false,g.1.name,[]⟩:Sx),(⟨(qr g.1.over).isList,(qr g.1.over).atom,(qr g.1.over).list⟩:Sx)]) []
theorem F161_eq (g:prodL L161) (K X:Kn):F161 g K=qJ D (qk [] [(119,false,yH),(162,false,xx),(163,false,wu)]) (qx []) H161 J161 16 [.tmp 2] (qz Tryz.f161) (argsT S161 L161 g) [] (settle0 K) X:=by kernel_rfl
theorem F161_ok (g:prodL L161) (K X:Kn) (h:F161 g K):FCalls Tryz.prog 161 (argsT S161 L161 g) [] K X:=
 FCalls.settle0 (qq qW (jx (zj kY (zj wB (zj kE jv)))) qj rfl Tryz.func161 (c:=qz Tryz.f161) rfl Tryz.ntmps161 Tryz.results161 (by unfold qv;rw [Tryz.func161];kernel_rfl) (Nat.le_of_ble_eq_true (by kernel_rfl)) (c0:=0) (Eq.mp (F161_eq g K X) h))
def H164:List (Nat×Hint):=[]
def J164:List (Nat×Hint):=[]
abbrev S164:List Sh:=[.leaf]
abbrev L164:List Lf:=[.el .chg]
def F164 (g:prodL L164) (K:Kn):Prop:=
 xx.pre (g.1.file,())/\
 xA.pre (g.1.mode,())/\
 wu.pre (g.1.over,())/\
 K (.sl true .sexp [(⟨(ql g.1.file).isList,(ql g.1.file).atom,(ql g.1.file).list⟩:Sx),(⟨(qV g.1.mode).isList,(qV g.1.mode).atom,(qV g.1.mode).list⟩:Sx),(⟨(qr g.1.over).isList,(qr g.1.over).atom,(qr g.1.over).list⟩:Sx)]) []
theorem F164_eq (g:prodL L164) (K X:Kn):F164 g K=qJ D (qk [] [(121,false,xA),(162,false,xx),(163,false,wu)]) (qx []) H164 J164 13 [.tmp 2] (qz Tryz.f164) (argsT S164 L164 g) [] (settle0 K) X:=by kernel_rfl
theorem F164_ok (g:prodL L164) (K X:Kn) (h:F164 g K):FCalls Tryz.prog 164 (argsT S164 L164 g) [] K X:=
 FCalls.settle0 (qq qW (jx (zj Z9 (zj wB (zj kE jv)))) qj rfl Tryz.func164 (c:=qz Tryz.f164) rfl Tryz.ntmps164 Tryz.results164 (by unfold qv;rw [Tryz.func164];kernel_rfl) (Nat.le_of_ble_eq_true (by kernel_rfl)) (c0:=0) (Eq.mp (F164_eq g K X) h))
def H165:List (Nat×Hint):=[]
def J165:List (Nat×Hint):=[]
abbrev S165:List Sh:=[.leaf]
abbrev L165:List Lf:=[.el .chg]
def F165 (g:prodL L165) (K:Kn):Prop:=
 xx.pre (g.1.file,())/\
 True/\
 wu.pre (g.1.over,())/\
 K (.sl true .sexp [(⟨(ql g.1.file).isList,(ql g.1.file).atom,(ql g.1.file).list⟩:Sx),(⟨false,g.1.data,[]⟩:Sx),(⟨(qr g.1.over).isList,(qr g.1.over).atom,(qr g.1.over).list⟩:Sx)]) []
theorem F165_eq (g:prodL L165) (K X:Kn):F165 g K=qJ D (qk [] [(119,false,yH),(162,false,xx),(163,false,wu)]) (qx []) H165 J165 13 [.tmp 2] (qz Tryz.f165) (argsT S165 L165 g) [] (settle0 K) X:=by kernel_rfl
theorem F165_ok (g:prodL L165) (K X:Kn) (h:F165 g K):FCalls Tryz.prog 165 (argsT S165 L165 g) [] K X:=
 FCalls.settle0 (qq qW (jx (zj kY (zj wB (zj kE jv)))) qj rfl Tryz.func165 (c:=qz Tryz.f165) rfl Tryz.ntmps165 Tryz.results165 (by unfold qv;rw [Tryz.func165];kernel_rfl) (Nat.le_of_ble_eq_true (by kernel_rfl)) (c0:=0) (Eq.mp (F165_eq g K X) h))
def H166:List (Nat×Hint):=[]
def J166:List (Nat×Hint):=[]
abbrev S166:List Sh:=[.leaf]
abbrev L166:List Lf:=[.el .chg]
def F166 (g:prodL L166) (K:Kn):Prop:=
 xx.pre (g.1.file,())/\
 xx.pre (g.1.after,())/\
 xx.pre (g.1.before,())/\
 sp167.pre (g.1.lines,())/\
 K (.sl true .sexp [(⟨(ql g.1.file).isList,(ql g.1.file).atom,(ql g.1.file).list⟩:Sx),(⟨(ql g.1.after).isList,(ql g.1.after).atom,(ql g.1.after).list⟩:Sx),(⟨(ql g.1.before).isList,(ql g.1.before).atom,(ql g.1.before).list⟩:Sx),(⟨(yW g.1.lines).isList,(yW g.1.lines).atom,(yW g.1.lines).list⟩:Sx)]) []
theorem F166_eq (g:prodL L166) (K X:Kn):F166 g K=qJ D (qk [] [(162,false,xx),(167,false,sp167)]) (qx []) H166 J166 16 [.tmp 2] (qz Tryz.f166) (argsT S166 L166 g) [] (settle0 K) X:=by kernel_rfl
theorem F166_ok (g:prodL L166) (K X:Kn) (h:F166 g K):FCalls Tryz.prog 166 (argsT S166 L166 g) [] K X:=
 FCalls.settle0 (qq qW (jx (zj wB (zj sp167_ok jv))) qj rfl Tryz.func166 (c:=qz Tryz.f166) rfl Tryz.ntmps166 Tryz.results166 (by unfold qv;rw [Tryz.func166];kernel_rfl) (Nat.le_of_ble_eq_true (by kernel_rfl)) (c0:=0) (Eq.mp (F166_eq g K X) h))
def H168:List (Nat×Hint):=[]
def J168:List (Nat×Hint):=[]
abbrev S168:List Sh:=[.leaf]
abbrev L168:List Lf:=[.el .chg]
def F168 (g:prodL L168) (K:Kn):Prop:=
 xx.pre (g.1.file,())/\
 xx.pre (g.1.after,())/\
 xx.pre (g.1.before,())/\
 wu.pre (g.1.over,())/\
 K (.sl true .sexp [(⟨(ql g.1.file).isList,(ql g.1.file).atom,(ql g.1.file).list⟩:Sx),(⟨(ql g.1.after).isList,(ql g.1.after).atom,(ql g.1.after).list⟩:Sx),(⟨(ql g.1.before).isList,(ql g.1.before).atom,(ql g.1.before).list⟩:Sx),(⟨(qr g.1.over).isList,(qr g.1.over).atom,(qr g.1.over).list⟩:Sx)]) []
theorem F168_eq (g:prodL L168) (K X:Kn):F168 g K=qJ D (qk [] [(162,false,xx),(163,false,wu)]) (qx []) H168 J168 16 [.tmp 2] (qz Tryz.f168) (argsT S168 L168 g) [] (settle0 K) X:=by kernel_rfl
theorem F168_ok (g:prodL L168) (K X:Kn) (h:F168 g K):FCalls Tryz.prog 168 (argsT S168 L168 g) [] K X:=
 FCalls.settle0 (qq qW (jx (zj wB (zj kE jv))) qj rfl Tryz.func168 (c:=qz Tryz.f168) rfl Tryz.ntmps168 Tryz.results168 (by unfold qv;rw [Tryz.func168];kernel_rfl) (Nat.le_of_ble_eq_true (by kernel_rfl)) (c0:=0) (Eq.mp (F168_eq g K X) h))
def H169:List (Nat×Hint):=[]
def J169:List (Nat×Hint):=[]
abbrev S169:List Sh:=[.leaf]
abbrev L169:List Lf:=[.el .chg]
def F169 (g:prodL L169) (K:Kn):Prop:=
 wu.pre (g.1.over,())/\
 K (.sl true .sexp [(⟨(qr g.1.over).isList,(qr g.1.over).atom,(qr g.1.over).list⟩:Sx)]) []
theorem F169_eq (g:prodL L169) (K X:Kn):F169 g K=qJ D (qk [] [(163,false,wu)]) (qx []) H169 J169 7 [.tmp 2] (qz Tryz.f169) (argsT S169 L169 g) [] (settle0 K) X:=by kernel_rfl
theorem F169_ok (g:prodL L169) (K X:Kn) (h:F169 g K):FCalls Tryz.prog 169 (argsT S169 L169 g) [] K X:=
 FCalls.settle0 (qq (Γ:=qk [] [(163,false,wu)]) (mu:=qx []) (H:=H169) (J:=J169) qW (qX (rs:=[]) (l:=[(163,false,wu)]) (fun p hp=>by cases hp) (by intro p hp;simp only [List.mem_cons,List.not_mem_nil,or_false] at hp;subst hp;exact kE)) qj rfl Tryz.func169 (c:=qz Tryz.f169) rfl Tryz.ntmps169 Tryz.results169 (by unfold qv;rw [Tryz.func169];kernel_rfl) (Nat.le_of_ble_eq_true (by kernel_rfl)) (c0:=0) (Eq.mp (F169_eq g K X) h))
def H75k1:List (Nat×Hint):=[]
def J75k1:List (Nat×Hint):=[(25,⟨[((2,[]),none)],[(2, .pt 0 0),(3, .leaf)],[.cells [.leaf, .leaf, .nil]],[.sl .sexp, .bool, .str]⟩)]
abbrev S75k1:List Sh:=[.leaf]
abbrev Xh:List Lf:=[.el .chg]
def kv75k1 (g:prodL Xh):prodL Xh:=(⟨1,g.1.file,g.1.typ,g.1.parent,g.1.name,g.1.mode,g.1.data,g.1.after,g.1.before,g.1.lines,g.1.over⟩,g.2)
def F75k1_J2 (K:Kn) (out_1:List Sx) (t1_1:Bool) (t2_1:ByteArray):Prop:=
 True/\
 K (.ag [.bool true, .str (⟨#[]⟩:ByteArray), .sl false .sexp out_1]) []
def F75k1 (g:prodL Xh) (K:Kn):Prop:=
 xf.pre (1,())/\
 xf.pre (g.1.typ,())/\
 xy (0< [(⟨(qV g.1.typ).isList,(qV g.1.typ).atom,(qV g.1.typ).list⟩:Sx)].length) (qn ([(⟨(qV 1).isList,(qV 1).atom,(qV 1).list⟩:Sx)].length+[(⟨(qV g.1.typ).isList,(qV g.1.typ).atom,(qV g.1.typ).list⟩:Sx)].length) 48 (
 F75k1_J2 K ([(⟨(qV 1).isList,(qV 1).atom,(qV 1).list⟩:Sx)]++[(⟨(qV g.1.typ).isList,(qV g.1.typ).atom,(qV g.1.typ).list⟩:Sx)]) false (⟨#[]⟩:ByteArray)))
theorem F75k1_eq (g:prodL Xh) (K X:Kn):F75k1 g K=qJ D (qk [] [(77,false,yM),(79,false,xf)]) (qx []) H75k1 J75k1 109 [.cell 2 85] (qz Tryz.f75) (argsT S75k1 Xh (kv75k1 g)) [] (settle0 K) X:=by kernel_rfl
theorem F75k1_ok (g:prodL Xh) (K X:Kn) (h:F75k1 g K):FCalls Tryz.prog 75 (argsT S75k1 Xh (kv75k1 g)) [] K X:=
 FCalls.settle0 (qq (Γ:=qk [] [(77,false,yM),(79,false,xf)]) (mu:=qx []) (H:=H75k1) (J:=J75k1) qW (jx (zj xt (zj vk jv))) qj rfl Tryz.func75 (c:=qz Tryz.f75) rfl Tryz.ntmps75 Tryz.results75 (by unfold qv;rw [Tryz.func75];kernel_rfl) (Nat.le_of_ble_eq_true (by kernel_rfl)) (c0:=0) (Eq.mp (F75k1_eq g K X) h))
def H75k2:List (Nat×Hint):=[]
def J75k2:List (Nat×Hint):=[(25,⟨[((2,[]),none)],[(2, .pt 0 0),(3, .leaf)],[.cells [.leaf, .leaf, .nil]],[.sl .sexp, .bool, .str]⟩)]
abbrev S75k2:List Sh:=[.leaf]
abbrev YY:List Lf:=[.el .chg]
def kv75k2 (g:prodL YY):prodL YY:=(⟨2,g.1.file,g.1.typ,g.1.parent,g.1.name,g.1.mode,g.1.data,g.1.after,g.1.before,g.1.lines,g.1.over⟩,g.2)
def F75k2_J2 (K:Kn) (out_1:List Sx) (t1_1:Bool) (t2_1:ByteArray):Prop:=
 True/\
 K (.ag [.bool true, .str (⟨#[]⟩:ByteArray), .sl false .sexp out_1]) []
def F75k2 (g:prodL YY) (K:Kn):Prop:=
 xf.pre (2,())/\
 jf.pre (g.1.file,())/\
 xy (0< [(⟨(ql g.1.file).isList,(ql g.1.file).atom,(ql g.1.file).list⟩:Sx)].length) (qn ([(⟨(qV 2).isList,(qV 2).atom,(qV 2).list⟩:Sx)].length+[(⟨(ql g.1.file).isList,(ql g.1.file).atom,(ql g.1.file).list⟩:Sx)].length) 48 (
 jf.pre (g.1.parent,())/\
 True/\
 qn (([(⟨(qV 2).isList,(qV 2).atom,(qV 2).list⟩:Sx)]++[(⟨(ql g.1.file).isList,(ql g.1.file).atom,(ql g.1.file).list⟩:Sx)]).length+[(⟨(ql g.1.parent).isList,(ql g.1.parent).atom,(ql g.1.parent).list⟩:Sx),(⟨false,g.1.name,[]⟩:Sx)].length) 48 (
 vj.pre (g.1.over,())/\
 qn ((([(⟨(qV 2).isList,(qV 2).atom,(qV 2).list⟩:Sx)]++[(⟨(ql g.1.file).isList,(ql g.1.file).atom,(ql g.1.file).list⟩:Sx)])++[(⟨(ql g.1.parent).isList,(ql g.1.parent).atom,(ql g.1.parent).list⟩:Sx),(⟨false,g.1.name,[]⟩:Sx)]).length+[(⟨(qr g.1.over).isList,(qr g.1.over).atom,(qr g.1.over).list⟩:Sx)].length) 48 (
 F75k2_J2 K ((([(⟨(qV 2).isList,(qV 2).atom,(qV 2).list⟩:Sx)]++[(⟨(ql g.1.file).isList,(ql g.1.file).atom,(ql g.1.file).list⟩:Sx)])++[(⟨(ql g.1.parent).isList,(ql g.1.parent).atom,(ql g.1.parent).list⟩:Sx),(⟨false,g.1.name,[]⟩:Sx)])++[(⟨(qr g.1.over).isList,(qr g.1.over).atom,(qr g.1.over).list⟩:Sx)]) false (⟨#[]⟩:ByteArray)))))
theorem F75k2_eq (g:prodL YY) (K X:Kn):F75k2 g K=qJ D (qk [] [(77,false,yM),(78,false,sp78),(79,false,xf),(129,false,jf),(130,false,vj)]) (qx []) H75k2 J75k2 109 [.cell 2 85] (qz Tryz.f75) (argsT S75k2 YY (kv75k2 g)) [] (settle0 K) X:=by kernel_rfl
theorem F75k2_ok (g:prodL YY) (K X:Kn) (h:F75k2 g K):FCalls Tryz.prog 75 (argsT S75k2 YY (kv75k2 g)) [] K X:=
 FCalls.settle0 (qq (Γ:=qk [] [(77,false,yM),(78,false,sp78),(79,false,xf),(129,false,jf),(130,false,vj)]) (mu:=qx []) (H:=H75k2) (J:=J75k2) qW (jx (zj xt (zj Ji (zj vk (zj wN (zj kb jv)))))) qj rfl Tryz.func75 (c:=qz Tryz.f75) rfl Tryz.ntmps75 Tryz.results75 (by unfold qv;rw [Tryz.func75];kernel_rfl) (Nat.le_of_ble_eq_true (by kernel_rfl)) (c0:=0) (Eq.mp (F75k2_eq g K X) h))
def H75k3:List (Nat×Hint):=[]
def J75k3:List (Nat×Hint):=[(25,⟨[((2,[]),none)],[(2, .pt 0 0),(3, .leaf)],[.cells [.leaf, .leaf, .nil]],[.sl .sexp, .bool, .str]⟩)]
abbrev S75k3:List Sh:=[.leaf]
abbrev Wp:List Lf:=[.el .chg]
def kv75k3 (g:prodL Wp):prodL Wp:=(⟨3,g.1.file,g.1.typ,g.1.parent,g.1.name,g.1.mode,g.1.data,g.1.after,g.1.before,g.1.lines,g.1.over⟩,g.2)
def F75k3_J2 (K:Kn) (out_1:List Sx) (t1_1:Bool) (t2_1:ByteArray):Prop:=
 True/\
 K (.ag [.bool true, .str (⟨#[]⟩:ByteArray), .sl false .sexp out_1]) []
def F75k3 (g:prodL Wp) (K:Kn):Prop:=
 xf.pre (3,())/\
 jf.pre (g.1.file,())/\
 xy (0< [(⟨(ql g.1.file).isList,(ql g.1.file).atom,(ql g.1.file).list⟩:Sx)].length) (qn ([(⟨(qV 3).isList,(qV 3).atom,(qV 3).list⟩:Sx)].length+[(⟨(ql g.1.file).isList,(ql g.1.file).atom,(ql g.1.file).list⟩:Sx)].length) 48 (
 xf.pre (g.1.mode,())/\
 qn (([(⟨(qV 3).isList,(qV 3).atom,(qV 3).list⟩:Sx)]++[(⟨(ql g.1.file).isList,(ql g.1.file).atom,(ql g.1.file).list⟩:Sx)]).length+[(⟨(qV g.1.mode).isList,(qV g.1.mode).atom,(qV g.1.mode).list⟩:Sx)].length) 48 (
 vj.pre (g.1.over,())/\
 qn ((([(⟨(qV 3).isList,(qV 3).atom,(qV 3).list⟩:Sx)]++[(⟨(ql g.1.file).isList,(ql g.1.file).atom,(ql g.1.file).list⟩:Sx)])++[(⟨(qV g.1.mode).isList,(qV g.1.mode).atom,(qV g.1.mode).list⟩:Sx)]).length+[(⟨(qr g.1.over).isList,(qr g.1.over).atom,(qr g.1.over).list⟩:Sx)].length) 48 (
 F75k3_J2 K ((([(⟨(qV 3).isList,(qV 3).atom,(qV 3).list⟩:Sx)]++[(⟨(ql g.1.file).isList,(ql g.1.file).atom,(ql g.1.file).list⟩:Sx)])++[(⟨(qV g.1.mode).isList,(qV g.1.mode).atom,(qV g.1.mode).list⟩:Sx)])++[(⟨(qr g.1.over).isList,(qr g.1.over).atom,(qr g.1.over).list⟩:Sx)]) false (⟨#[]⟩:ByteArray)))))
theorem F75k3_eq (g:prodL Wp) (K X:Kn):F75k3 g K=qJ D (qk [] [(77,false,yM),(79,false,xf),(129,false,jf),(130,false,vj)]) (qx []) H75k3 J75k3 109 [.cell 2 85] (qz Tryz.f75) (argsT S75k3 Wp (kv75k3 g)) [] (settle0 K) X:=by kernel_rfl
theorem F75k3_ok (g:prodL Wp) (K X:Kn) (h:F75k3 g K):FCalls Tryz.prog 75 (argsT S75k3 Wp (kv75k3 g)) [] K X:=
 FCalls.settle0 (qq (Γ:=qk [] [(77,false,yM),(79,false,xf),(129,false,jf),(130,false,vj)]) (mu:=qx []) (H:=H75k3) (J:=J75k3) qW (jx (zj xt (zj vk (zj wN (zj kb jv))))) qj rfl Tryz.func75 (c:=qz Tryz.f75) rfl Tryz.ntmps75 Tryz.results75 (by unfold qv;rw [Tryz.func75];kernel_rfl) (Nat.le_of_ble_eq_true (by kernel_rfl)) (c0:=0) (Eq.mp (F75k3_eq g K X) h))
def H75k4:List (Nat×Hint):=[]
def J75k4:List (Nat×Hint):=[(25,⟨[((2,[]),none)],[(2, .pt 0 0),(3, .leaf)],[.cells [.leaf, .leaf, .nil]],[.sl .sexp, .bool, .str]⟩)]
abbrev S75k4:List Sh:=[.leaf]
abbrev V3:List Lf:=[.el .chg]
def kv75k4 (g:prodL V3):prodL V3:=(⟨4,g.1.file,g.1.typ,g.1.parent,g.1.name,g.1.mode,g.1.data,g.1.after,g.1.before,g.1.lines,g.1.over⟩,g.2)
def F75k4_J2 (K:Kn) (out_1:List Sx) (t1_1:Bool) (t2_1:ByteArray):Prop:=
 True/\
 K (.ag [.bool true, .str (⟨#[]⟩:ByteArray), .sl false .sexp out_1]) []
def F75k4 (g:prodL V3) (K:Kn):Prop:=
 xf.pre (4,())/\
 jf.pre (g.1.file,())/\
 xy (0< [(⟨(ql g.1.file).isList,(ql g.1.file).atom,(ql g.1.file).list⟩:Sx)].length) (qn ([(⟨(qV 4).isList,(qV 4).atom,(qV 4).list⟩:Sx)].length+[(⟨(ql g.1.file).isList,(ql g.1.file).atom,(ql g.1.file).list⟩:Sx)].length) 48 (
 True/\
 qn (([(⟨(qV 4).isList,(qV 4).atom,(qV 4).list⟩:Sx)]++[(⟨(ql g.1.file).isList,(ql g.1.file).atom,(ql g.1.file).list⟩:Sx)]).length+[(⟨false,g.1.data,[]⟩:Sx)].length) 48 (
 vj.pre (g.1.over,())/\
 qn ((([(⟨(qV 4).isList,(qV 4).atom,(qV 4).list⟩:Sx)]++[(⟨(ql g.1.file).isList,(ql g.1.file).atom,(ql g.1.file).list⟩:Sx)])++[(⟨false,g.1.data,[]⟩:Sx)]).length+[(⟨(qr g.1.over).isList,(qr g.1.over).atom,(qr g.1.over).list⟩:Sx)].length) 48 (
 F75k4_J2 K ((([(⟨(qV 4).isList,(qV 4).atom,(qV 4).list⟩:Sx)]++[(⟨(ql g.1.file).isList,(ql g.1.file).atom,(ql g.1.file).list⟩:Sx)])++[(⟨false,g.1.data,[]⟩:Sx)])++[(⟨(qr g.1.over).isList,(qr g.1.over).atom,(qr g.1.over).list⟩:Sx)]) false (⟨#[]⟩:ByteArray)))))
theorem F75k4_eq (g:prodL V3) (K X:Kn):F75k4 g K=qJ D (qk [] [(77,false,yM),(78,false,sp78),(79,false,xf),(129,false,jf),(130,false,vj)]) (qx []) H75k4 J75k4 109 [.cell 2 85] (qz Tryz.f75) (argsT S75k4 V3 (kv75k4 g)) [] (settle0 K) X:=by kernel_rfl
theorem F75k4_ok (g:prodL V3) (K X:Kn) (h:F75k4 g K):FCalls Tryz.prog 75 (argsT S75k4 V3 (kv75k4 g)) [] K X:=
 FCalls.settle0 (qq (Γ:=qk [] [(77,false,yM),(78,false,sp78),(79,false,xf),(129,false,jf),(130,false,vj)]) (mu:=qx []) (H:=H75k4) (J:=J75k4) qW (jx (zj xt (zj Ji (zj vk (zj wN (zj kb jv)))))) qj rfl Tryz.func75 (c:=qz Tryz.f75) rfl Tryz.ntmps75 Tryz.results75 (by unfold qv;rw [Tryz.func75];kernel_rfl) (Nat.le_of_ble_eq_true (by kernel_rfl)) (c0:=0) (Eq.mp (F75k4_eq g K X) h))
def H75k5:List (Nat×Hint):=[(19,⟨[((1,[]),none),((2,[]),none),((3,[]),none),((4,[]),some .sexp)],[(1, .pt 0 0),(2, .pt 1 0),(3, .oa .sexp 2),(4, .oa .sexp 3),(5, .leaf)],[.el, .cells [.leaf, .leaf, .nil], .arr .sexp, .arr .sexp],[.int .i64, .el .chg, .bool, .str, .sl .sexp, .sl .sexp]⟩)]
def J75k5:List (Nat×Hint):=[(22,⟨[((2,[]),none),((3,[]),none)],[(2, .pt 0 0),(3, .oa .sexp 1),(4, .leaf)],[.cells [.leaf, .leaf, .nil], .arr .sexp],[.sl .sexp, .bool, .str, .sl .sexp]⟩),(25,⟨[((2,[]),none)],[(2, .pt 0 0),(3, .leaf)],[.cells [.leaf, .leaf, .nil]],[.sl .sexp, .bool, .str]⟩)]
abbrev S75k5:List Sh:=[.leaf]
abbrev Wq:List Lf:=[.el .chg]
def Yl (g:prodL Wq):prodL Wq:=(⟨5,g.1.file,g.1.typ,g.1.parent,g.1.name,g.1.mode,g.1.data,g.1.after,g.1.before,g.1.lines,g.1.over⟩,g.2)
def F75k5_J10 (K:Kn) (out_9:List Sx) (t1_9:Bool) (t2_9:ByteArray):Prop:=
 True/\
 K (.ag [.bool true, .str (⟨#[]⟩:ByteArray), .sl false .sexp out_9]) []
def F75k5_J8 (K:Kn) (l_7:List Sx) (t1_7:Bool) (t2_7:ByteArray) (out_7:List Sx):Prop:=
 True/\
 qn (out_7.length+[(⟨true,(⟨#[]⟩:ByteArray),l_7⟩:Sx)].length) 48 (
 F75k5_J10 K (out_7++[(⟨true,(⟨#[]⟩:ByteArray),l_7⟩:Sx)]) t1_7 t2_7)
def kQ (K:Kn) (W5:prodL [.int .i64, .el .chg, .bool, .str, .sl .sexp, .sl .sexp]->Prop) (i_4:Int) (c_4:Chg) (t1_4:Bool) (t2_4:ByteArray) (out_4:List Sx) (l_4:List Sx):Prop:=
 bif decide (i_4< (c_4.lines.length:Int))then (
  At c_4.lines i_4 fun u6=>
 True/\
 qn (l_4.length+[(⟨false,u6,[]⟩:Sx)].length) 48 (
 W5 (IntKind.i64.wrap (i_4+1),c_4,t1_4,t2_4,out_4,l_4++[(⟨false,u6,[]⟩:Sx)],())))
 else (
  F75k5_J8 K l_4 t1_4 t2_4 out_4)
def F75k5_L5 (K:Kn) (g:prodL [.int .i64, .el .chg, .bool, .str, .sl .sexp, .sl .sexp]):Prop:=
 qQ (γ:=prodL [.int .i64, .el .chg, .bool, .str, .sl .sexp, .sl .sexp]) (fun V y=>kQ K V y.1 y.2.1 y.2.2.1 y.2.2.2.1 y.2.2.2.2.1 y.2.2.2.2.2.1) g
def F75k5 (g:prodL Wq) (K:Kn):Prop:=
 xf.pre (5,())/\
 jf.pre (g.1.file,())/\
 xy (0< [(⟨(ql g.1.file).isList,(ql g.1.file).atom,(ql g.1.file).list⟩:Sx)].length) (qn ([(⟨(qV 5).isList,(qV 5).atom,(qV 5).list⟩:Sx)].length+[(⟨(ql g.1.file).isList,(ql g.1.file).atom,(ql g.1.file).list⟩:Sx)].length) 48 (
 jf.pre (g.1.after,())/\
 jf.pre (g.1.before,())/\
 qn (([(⟨(qV 5).isList,(qV 5).atom,(qV 5).list⟩:Sx)]++[(⟨(ql g.1.file).isList,(ql g.1.file).atom,(ql g.1.file).list⟩:Sx)]).length+[(⟨(ql g.1.after).isList,(ql g.1.after).atom,(ql g.1.after).list⟩:Sx),(⟨(ql g.1.before).isList,(ql g.1.before).atom,(ql g.1.before).list⟩:Sx)].length) 48 (
 F75k5_L5 K (0,(⟨5,g.1.file,g.1.typ,g.1.parent,g.1.name,g.1.mode,g.1.data,g.1.after,g.1.before,g.1.lines,g.1.over⟩:Chg),false,(⟨#[]⟩:ByteArray),([(⟨(qV 5).isList,(qV 5).atom,(qV 5).list⟩:Sx)]++[(⟨(ql g.1.file).isList,(ql g.1.file).atom,(ql g.1.file).list⟩:Sx)])++[(⟨(ql g.1.after).isList,(ql g.1.after).atom,(ql g.1.after).list⟩:Sx),(⟨(ql g.1.before).isList,(ql g.1.before).atom,(ql g.1.before).list⟩:Sx)],[],()))))
theorem F75k5_eq (g:prodL Wq) (K X:Kn):F75k5 g K=qJ D (qk [] [(77,false,yM),(78,false,sp78),(79,false,xf),(129,false,jf)]) (qx []) H75k5 J75k5 109 [.cell 2 85] (qz Tryz.f75) (argsT S75k5 Wq (Yl g)) [] (settle0 K) X:=by kernel_rfl
theorem F75k5_ok (g:prodL Wq) (K X:Kn) (h:F75k5 g K):FCalls Tryz.prog 75 (argsT S75k5 Wq (Yl g)) [] K X:=
 FCalls.settle0 (qq (Γ:=qk [] [(77,false,yM),(78,false,sp78),(79,false,xf),(129,false,jf)]) (mu:=qx []) (H:=H75k5) (J:=J75k5) qW (jx (zj xt (zj Ji (zj vk (zj wN jv))))) qj rfl Tryz.func75 (c:=qz Tryz.f75) rfl Tryz.ntmps75 Tryz.results75 (by unfold qv;rw [Tryz.func75];kernel_rfl) (Nat.le_of_ble_eq_true (by kernel_rfl)) (c0:=0) (Eq.mp (F75k5_eq g K X) h))
def H75k6:List (Nat×Hint):=[]
def J75k6:List (Nat×Hint):=[(25,⟨[((2,[]),none)],[(2, .pt 0 0),(3, .leaf)],[.cells [.leaf, .leaf, .nil]],[.sl .sexp, .bool, .str]⟩)]
abbrev S75k6:List Sh:=[.leaf]
abbrev WE:List Lf:=[.el .chg]
def kv75k6 (g:prodL WE):prodL WE:=(⟨6,g.1.file,g.1.typ,g.1.parent,g.1.name,g.1.mode,g.1.data,g.1.after,g.1.before,g.1.lines,g.1.over⟩,g.2)
def F75k6_J2 (K:Kn) (out_1:List Sx) (t1_1:Bool) (t2_1:ByteArray):Prop:=
 True/\
 K (.ag [.bool true, .str (⟨#[]⟩:ByteArray), .sl false .sexp out_1]) []
def F75k6 (g:prodL WE) (K:Kn):Prop:=
 xf.pre (6,())/\
 jf.pre (g.1.file,())/\
 xy (0< [(⟨(ql g.1.file).isList,(ql g.1.file).atom,(ql g.1.file).list⟩:Sx)].length) (qn ([(⟨(qV 6).isList,(qV 6).atom,(qV 6).list⟩:Sx)].length+[(⟨(ql g.1.file).isList,(ql g.1.file).atom,(ql g.1.file).list⟩:Sx)].length) 48 (
 jf.pre (g.1.after,())/\
 jf.pre (g.1.before,())/\
 qn (([(⟨(qV 6).isList,(qV 6).atom,(qV 6).list⟩:Sx)]++[(⟨(ql g.1.file).isList,(ql g.1.file).atom,(ql g.1.file).list⟩:Sx)]).length+[(⟨(ql g.1.after).isList,(ql g.1.after).atom,(ql g.1.after).list⟩:Sx),(⟨(ql g.1.before).isList,(ql g.1.before).atom,(ql g.1.before).list⟩:Sx)].length) 48 (
 vj.pre (g.1.over,())/\
 qn ((([(⟨(qV 6).isList,(qV 6).atom,(qV 6).list⟩:Sx)]++[(⟨(ql g.1.file).isList,(ql g.1.file).atom,(ql g.1.file).list⟩:Sx)])++[(⟨(ql g.1.after).isList,(ql g.1.after).atom,(ql g.1.after).list⟩:Sx),(⟨(ql g.1.before).isList,(ql g.1.before).atom,(ql g.1.before).list⟩:Sx)]).length+[(⟨(qr g.1.over).isList,(qr g.1.over).atom,(qr g.1.over).list⟩:Sx)].length) 48 (
 F75k6_J2 K ((([(⟨(qV 6).isList,(qV 6).atom,(qV 6).list⟩:Sx)]++[(⟨(ql g.1.file).isList,(ql g.1.file).atom,(ql g.1.file).list⟩:Sx)])++[(⟨(ql g.1.after).isList,(ql g.1.after).atom,(ql g.1.after).list⟩:Sx),(⟨(ql g.1.before).isList,(ql g.1.before).atom,(ql g.1.before).list⟩:Sx)])++[(⟨(qr g.1.over).isList,(qr g.1.over).atom,(qr g.1.over).list⟩:Sx)]) false (⟨#[]⟩:ByteArray)))))
theorem F75k6_eq (g:prodL WE) (K X:Kn):F75k6 g K=qJ D (qk [] [(77,false,yM),(79,false,xf),(129,false,jf),(130,false,vj)]) (qx []) H75k6 J75k6 109 [.cell 2 85] (qz Tryz.f75) (argsT S75k6 WE (kv75k6 g)) [] (settle0 K) X:=by kernel_rfl
theorem F75k6_ok (g:prodL WE) (K X:Kn) (h:F75k6 g K):FCalls Tryz.prog 75 (argsT S75k6 WE (kv75k6 g)) [] K X:=
 FCalls.settle0 (qq (Γ:=qk [] [(77,false,yM),(79,false,xf),(129,false,jf),(130,false,vj)]) (mu:=qx []) (H:=H75k6) (J:=J75k6) qW (jx (zj xt (zj vk (zj wN (zj kb jv))))) qj rfl Tryz.func75 (c:=qz Tryz.f75) rfl Tryz.ntmps75 Tryz.results75 (by unfold qv;rw [Tryz.func75];kernel_rfl) (Nat.le_of_ble_eq_true (by kernel_rfl)) (c0:=0) (Eq.mp (F75k6_eq g K X) h))
def H75k7:List (Nat×Hint):=[]
def J75k7:List (Nat×Hint):=[(25,⟨[((2,[]),none)],[(2, .pt 0 0),(3, .leaf)],[.cells [.leaf, .leaf, .nil]],[.sl .sexp, .bool, .str]⟩)]
abbrev S75k7:List Sh:=[.leaf]
abbrev Yq:List Lf:=[.el .chg]
def kv75k7 (g:prodL Yq):prodL Yq:=(⟨7,g.1.file,g.1.typ,g.1.parent,g.1.name,g.1.mode,g.1.data,g.1.after,g.1.before,g.1.lines,g.1.over⟩,g.2)
def F75k7_J2 (K:Kn) (out_1:List Sx) (t1_1:Bool) (t2_1:ByteArray):Prop:=
 True/\
 K (.ag [.bool true, .str (⟨#[]⟩:ByteArray), .sl false .sexp out_1]) []
def F75k7 (g:prodL Yq) (K:Kn):Prop:=
 xf.pre (7,())/\
 vj.pre (g.1.over,())/\
 xy (0< [(⟨(qr g.1.over).isList,(qr g.1.over).atom,(qr g.1.over).list⟩:Sx)].length) (qn ([(⟨(qV 7).isList,(qV 7).atom,(qV 7).list⟩:Sx)].length+[(⟨(qr g.1.over).isList,(qr g.1.over).atom,(qr g.1.over).list⟩:Sx)].length) 48 (
 F75k7_J2 K ([(⟨(qV 7).isList,(qV 7).atom,(qV 7).list⟩:Sx)]++[(⟨(qr g.1.over).isList,(qr g.1.over).atom,(qr g.1.over).list⟩:Sx)]) false (⟨#[]⟩:ByteArray)))
theorem F75k7_eq (g:prodL Yq) (K X:Kn):F75k7 g K=qJ D (qk [] [(77,false,yM),(79,false,xf),(130,false,vj)]) (qx []) H75k7 J75k7 109 [.cell 2 85] (qz Tryz.f75) (argsT S75k7 Yq (kv75k7 g)) [] (settle0 K) X:=by kernel_rfl
theorem F75k7_ok (g:prodL Yq) (K X:Kn) (h:F75k7 g K):FCalls Tryz.prog 75 (argsT S75k7 Yq (kv75k7 g)) [] K X:=
 FCalls.settle0 (qq (Γ:=qk [] [(77,false,yM),(79,false,xf),(130,false,vj)]) (mu:=qx []) (H:=H75k7) (J:=J75k7) qW (jx (zj xt (zj vk (zj kb jv)))) qj rfl Tryz.func75 (c:=qz Tryz.f75) rfl Tryz.ntmps75 Tryz.results75 (by unfold qv;rw [Tryz.func75];kernel_rfl) (Nat.le_of_ble_eq_true (by kernel_rfl)) (c0:=0) (Eq.mp (F75k7_eq g K X) h))
end Go.Proofs.YtbglndogddddoaaGreatDoor
namespace Go.Proofs.YtbglndogddddoaaGreatDoor
open Go.RowKit
set_option maxRecDepth 100000
def sp160:Sp:=⟨S160,L160,fun g=>wm g.1/\chW g.1,fun g=> .sl false .sexp (zO 1 g.1),fun _=>none⟩
theorem sp160_ok:sp160.Ok Tryz.prog 160 false:=
 ⟨fun g K X hp h=>FCalls.weak (F160_ok g (xa K) X (by obtain ⟨hp,w1,w2,w3,w4,w5,w6,w7⟩:=hp;unfold F160;simp only [zi];exact ⟨w1,xa.sl h⟩)),fun _ _ _=>rfl,fun _=>rfl,fun h=>(by cases h)⟩
def KH:Sp:=⟨S161,L161,fun g=>wm g.1/\chW g.1,fun g=> .sl false .sexp (zO 2 g.1),fun _=>none⟩
theorem sp161_ok:KH.Ok Tryz.prog 161 false:=
 ⟨fun g K X hp h=>FCalls.weak (F161_ok g (xa K) X (by have ho:=QO hp.1 hp.2;obtain ⟨hp,w1,w2,w3,w4,w5,w6,w7⟩:=hp;unfold F161;simp only [zi];exact ⟨w3,w4,trivial,ho,xa.sl h⟩)),fun _ _ _=>rfl,fun _=>rfl,fun h=>(by cases h)⟩
def qqv:Sp:=⟨S164,L164,fun g=>wm g.1/\chW g.1,fun g=> .sl false .sexp (zO 3 g.1),fun _=>none⟩
theorem sp164_ok:qqv.Ok Tryz.prog 164 false:=
 ⟨fun g K X hp h=>FCalls.weak (F164_ok g (xa K) X (by have ho:=QO hp.1 hp.2;obtain ⟨hp,w1,w2,w3,w4,w5,w6,w7⟩:=hp;unfold F164;simp only [zi];exact ⟨w3,w2,ho,xa.sl h⟩)),fun _ _ _=>rfl,fun _=>rfl,fun h=>(by cases h)⟩
def K8:Sp:=⟨S165,L165,fun g=>wm g.1/\chW g.1,fun g=> .sl false .sexp (zO 4 g.1),fun _=>none⟩
theorem sp165_ok:K8.Ok Tryz.prog 165 false:=
 ⟨fun g K X hp h=>FCalls.weak (F165_ok g (xa K) X (by have ho:=QO hp.1 hp.2;obtain ⟨hp,w1,w2,w3,w4,w5,w6,w7⟩:=hp;unfold F165;simp only [zi];exact ⟨w3,trivial,ho,xa.sl h⟩)),fun _ _ _=>rfl,fun _=>rfl,fun h=>(by cases h)⟩
def K4:Sp:=⟨S166,L166,fun g=>wm g.1/\chW g.1,fun g=> .sl false .sexp (zO 5 g.1),fun _=>none⟩
theorem sp166_ok:K4.Ok Tryz.prog 166 false:=
 ⟨fun g K X hp h=>FCalls.weak (F166_ok g (xa K) X (by have hl:=(zk hp.1).2.2.1;obtain ⟨hp,w1,w2,w3,w4,w5,w6,w7⟩:=hp;unfold F166;simp only [zi];exact ⟨w3,w5,w6,hl,xa.sl h⟩)),fun _ _ _=>rfl,fun _=>rfl,fun h=>(by cases h)⟩
def Ky:Sp:=⟨S168,L168,fun g=>wm g.1/\chW g.1,fun g=> .sl false .sexp (zO 6 g.1),fun _=>none⟩
theorem sp168_ok:Ky.Ok Tryz.prog 168 false:=
 ⟨fun g K X hp h=>FCalls.weak (F168_ok g (xa K) X (by have ho:=QO hp.1 hp.2;obtain ⟨hp,w1,w2,w3,w4,w5,w6,w7⟩:=hp;unfold F168;simp only [zi];exact ⟨w3,w5,w6,ho,xa.sl h⟩)),fun _ _ _=>rfl,fun _=>rfl,fun h=>(by cases h)⟩
def qqX:Sp:=⟨S169,L169,fun g=>wm g.1/\chW g.1,fun g=> .sl false .sexp (zO 7 g.1),fun _=>none⟩
theorem sp169_ok:qqX.Ok Tryz.prog 169 false:=
 ⟨fun g K X hp h=>FCalls.weak (F169_ok g (xa K) X (by have ho:=QO hp.1 hp.2;unfold F169;simp only [zi];exact ⟨ho,xa.sl h⟩)),fun _ _ _=>rfl,fun _=>rfl,fun h=>(by cases h)⟩
theorem F75k5_is {c:Chg} {K:Kn} (hp:wm c) (hw:chW c) (h:K (.ag (enc .sexp (zZ [qV 5,ql c.file,ql c.after,ql c.before,yW c.lines]))) []):F75k5 (c,()) K:=by
 have hl:=(zk hp).2.2.1
 obtain ⟨w1,w2,w3,w4,w5,w6,w7⟩:=hw
 unfold F75k5
 simp only [zi]
 refine ⟨⟨by decide,by decide⟩,w3,Nat.le_of_ble_eq_true rfl,Nat.le_of_ble_eq_true rfl,w5,w6,Nat.le_of_ble_eq_true rfl, ?_⟩
 unfold F75k5_L5
 refine qQ.map c.lines qE (fun n out=>(n,(Yl (c,())).1,false,⟨#[]⟩,[qV 5,ql c.file,ql c.after,ql c.before],out,())) (by omega) rfl (fun W n hn out ho hW=> ?_) fun W=> ?_
 . show kQ K W n (Yl (c,())).1 false ⟨#[]⟩ [qV 5,ql c.file,ql c.after,ql c.before] out
   unfold kQ
   show bif decide ((n:Int) < (c.lines.length:Int))then _ else _
   rw [qo hn,cond_true]
   exact qB hn ⟨trivial,by simp only [List.length_singleton,ho];omega,hW⟩
 . show kQ K W c.lines.length (Yl (c,())).1 false ⟨#[]⟩ [qV 5,ql c.file,ql c.after,ql c.before] (c.lines.map qE)
   unfold kQ
   show bif decide ((c.lines.length:Int) < (c.lines.length:Int))then _ else _
   rw [qg,cond_false]
   exact ⟨trivial,Nat.le_of_ble_eq_true rfl,trivial,h⟩
def sp75:Sp:=⟨S75k1,Xh,fun g=>wm g.1/\chW g.1/\zN g.1,fun g=> .ag (enc .sexp (chX g.1)),fun _=>none⟩
theorem sp75_ok:sp75.Ok Tryz.prog 75 false:=
 ⟨fun g K X hp h=>by
  obtain ⟨⟨kind,file,typ,parent,name,mode,data,after,before,lines,over⟩,⟨⟩⟩:=g
  obtain ⟨hp,hw,hk⟩:=hp
  have ho:=QO hp hw
  have hw':=hw
  obtain ⟨w1,w2,w3,w4,w5,w6,w7⟩:=hw'
  have hk1:(1:Int)<=kind/\kind<=7:=hk
  have:kind=1∨kind=2∨kind=3∨kind=4∨kind=5∨kind=6∨kind=7:=by omega
  rcases this with rfl | rfl | rfl | rfl | rfl | rfl | rfl
  . refine F75k1_ok (⟨1,file,typ,parent,name,mode,data,after,before,lines,over⟩,()) K X ?_
    unfold F75k1;simp only [zi]
    exact ⟨⟨by decide,by decide⟩,w1,Nat.le_of_ble_eq_true rfl,Nat.le_of_ble_eq_true rfl,trivial,h⟩
  . refine F75k2_ok (⟨2,file,typ,parent,name,mode,data,after,before,lines,over⟩,()) K X ?_
    unfold F75k2;simp only [zi]
    exact ⟨⟨by decide,by decide⟩,w3,Nat.le_of_ble_eq_true rfl,Nat.le_of_ble_eq_true rfl,w4,trivial,Nat.le_of_ble_eq_true rfl,ho,Nat.le_of_ble_eq_true rfl,trivial,h⟩
  . refine F75k3_ok (⟨3,file,typ,parent,name,mode,data,after,before,lines,over⟩,()) K X ?_
    unfold F75k3;simp only [zi]
    exact ⟨⟨by decide,by decide⟩,w3,Nat.le_of_ble_eq_true rfl,Nat.le_of_ble_eq_true rfl,w2,Nat.le_of_ble_eq_true rfl,ho,Nat.le_of_ble_eq_true rfl,trivial,h⟩
  . refine F75k4_ok (⟨4,file,typ,parent,name,mode,data,after,before,lines,over⟩,()) K X ?_
    unfold F75k4;simp only [zi]
    exact ⟨⟨by decide,by decide⟩,w3,Nat.le_of_ble_eq_true rfl,Nat.le_of_ble_eq_true rfl,trivial,Nat.le_of_ble_eq_true rfl,ho,Nat.le_of_ble_eq_true rfl,trivial,h⟩
  . exact F75k5_ok (⟨5,file,typ,parent,name,mode,data,after,before,lines,over⟩,()) K X (F75k5_is hp hw h)
  . refine F75k6_ok (⟨6,file,typ,parent,name,mode,data,after,before,lines,over⟩,()) K X ?_
    unfold F75k6;simp only [zi]
    exact ⟨⟨by decide,by decide⟩,w3,Nat.le_of_ble_eq_true rfl,Nat.le_of_ble_eq_true rfl,w5,w6,Nat.le_of_ble_eq_true rfl,ho,Nat.le_of_ble_eq_true rfl,trivial,h⟩
  . refine F75k7_ok (⟨7,file,typ,parent,name,mode,data,after,before,lines,over⟩,()) K X ?_
    unfold F75k7;simp only [zi]
    exact ⟨⟨by decide,by decide⟩,ho,Nat.le_of_ble_eq_true rfl,Nat.le_of_ble_eq_true rfl,trivial,h⟩,fun _ _ _=>rfl,fun _=>rfl,fun h=>(by cases h)⟩
end Go.Proofs.YtbglndogddddoaaGreatDoor
namespace Go.Proofs.YtbglndogddddoaaGreatDoor
open Go.RowKit
attribute [local irreducible] qJ qh
set_option maxRecDepth 100000
def H70:List (Nat×Hint):=[(3,⟨[((1,[]),none),((4,[]),none),((5,[]),none),((4,[2]),some .sexp)],[(1, .pt 0 0),(4, .pt 1 0),(5, .pt 2 0),(15, .leaf),(16, .leaf),(17, .leaf)],[.cells [.leaf, .leaf, .leaf, .leaf, .leaf], .cells [.leaf, .leaf, .oa .sexp 3], .cells [.leaf, .leaf, .nil], .arr .sexp],[.sl .dig, .int .i64, .int .i64, .str, .str, .int .i64, .sl .dig, .sl .chg, .bool, .str, .bool, .str, .sl .sexp]⟩),(9,⟨[((1,[]),none),((4,[]),none),((5,[]),none),((8,[]),none),((4,[2]),none),((5,[2]),some .sexp)],[(1, .pt 0 0),(4, .pt 1 0),(5, .pt 2 0),(8, .mp 3),(32, .leaf),(33, .leaf),(34, .leaf)],[.cells [.leaf, .leaf, .leaf, .leaf, .leaf], .cells [.leaf, .leaf, .oa .sexp 4], .cells [.leaf, .leaf, .oa .sexp 5], .cells [.fe [(1,160),(2,161),(3,164),(4,165),(5,166),(6,168),(7,169)]], .arr .sexp, .arr .sexp],[.sl .chg, .int .i64, .int .i64, .str, .str, .int .i64, .sl .dig, .sl .chg, .bool, .str, .bool, .str, .sl .sexp, .sl .sexp]⟩)]
def J70:List (Nat×Hint):=[(13,⟨[((1,[]),none),((4,[]),none),((5,[]),none),((8,[]),none),((11,[]),none),((4,[2]),none),((5,[2]),none)],[(1, .pt 0 0),(4, .pt 1 0),(5, .pt 2 0),(8, .mp 3),(11, .pt 4 0),(32, .leaf),(33, .leaf),(34, .leaf)],[.cells [.leaf, .leaf, .leaf, .leaf, .leaf], .cells [.leaf, .leaf, .oa .sexp 5], .cells [.leaf, .leaf, .oa .sexp 6], .cells [.fe [(1,160),(2,161),(3,164),(4,165),(5,166),(6,168),(7,169)]], .cells [.leaf, .leaf, .leaf], .arr .sexp, .arr .sexp],[.sl .chg, .int .i64, .int .i64, .str, .str, .int .i64, .sl .dig, .sl .chg, .bool, .str, .bool, .str, .bool, .str, .sl .sexp, .sl .sexp, .sl .sexp]⟩),(15,⟨[((1,[]),none),((4,[]),none),((5,[]),none)],[(1, .pt 0 0),(4, .pt 1 0),(5, .pt 2 0)],[.cells [.leaf, .leaf, .leaf, .leaf, .leaf], .cells [.leaf, .leaf, .leaf], .cells [.leaf, .leaf, .leaf]],[.str, .str, .int .i64, .sl .dig, .sl .chg, .bool, .str, .sl .sexp, .bool, .str, .sl .sexp]⟩)]
abbrev S70:List Sh:=[.ag [.leaf, .leaf, .leaf, .leaf, .leaf]]
abbrev L70:List Lf:=[.str, .str, .int .i64, .sl .dig, .sl .chg]
def F70_J23 (K:Kn) (p1_21 p2_21:ByteArray) (p3_21:Int) (p4_21:List Dig) (p5_21:List Chg) (deps1_21:Bool) (deps2_21:ByteArray) (deps3_21:List Sx) (changes1_21:Bool) (changes2_21:ByteArray) (changes3_21:List Sx):Prop:=
 True/\
 True/\
 True/\
 xA.pre (p3_21,())/\
 let g22:prodL [.sl .sexp]:=([(⟨false,(⟨#[113,117,105,108,116,49]⟩:ByteArray),[]⟩:Sx),(⟨false,p1_21,[]⟩:Sx),(⟨false,p2_21,[]⟩:Sx),(⟨(qV p3_21).isList,(qV p3_21).atom,(qV p3_21).list⟩:Sx),(⟨deps1_21,deps2_21,deps3_21⟩:Sx),(⟨changes1_21,changes2_21,changes3_21⟩:Sx)],());
 sp122.pre (true,(⟨#[]⟩:ByteArray),g22.1,())/\
 K (.tu [.str ((xu ⟨true,(⟨#[]⟩:ByteArray),g22.1⟩).1), .int .i64 ((xu ⟨true,(⟨#[]⟩:ByteArray),g22.1⟩).2)]) []
def zw (K:Kn) (W16:prodL [.sl .chg, .int .i64, .int .i64, .str, .str, .int .i64, .sl .dig, .sl .chg, .bool, .str, .bool, .str, .sl .sexp, .sl .sexp]->Prop) (t_19:List Chg) (t2_19 t3_19:Int) (p1_19 p2_19:ByteArray) (p3_19:Int) (p4_19:List Dig) (p5_19:List Chg) (deps1_19:Bool) (deps2_19:ByteArray) (changes1_19:Bool) (changes2_19:ByteArray) (x1_19:Bool) (x2_19:ByteArray) (x3_19:List Sx) (deps_19:List Sx) (changes_19:List Sx):Prop:=
 qn (changes_19.length+[(⟨x1_19,x2_19,x3_19⟩:Sx)].length) 48 (
 W16 (t_19,t2_19,IntKind.i64.wrap (t3_19+1),p1_19,p2_19,p3_19,p4_19,p5_19,deps1_19,deps2_19,changes1_19,changes2_19,deps_19,changes_19++[(⟨x1_19,x2_19,x3_19⟩:Sx)],()))
def ZK (K:Kn) (W16:prodL [.sl .chg, .int .i64, .int .i64, .str, .str, .int .i64, .sl .dig, .sl .chg, .bool, .str, .bool, .str, .sl .sexp, .sl .sexp]->Prop) (t_15:List Chg) (t2_15 t3_15:Int) (p1_15 p2_15:ByteArray) (p3_15:Int) (p4_15:List Dig) (p5_15:List Chg) (deps1_15:Bool) (deps2_15:ByteArray) (changes1_15:Bool) (changes2_15:ByteArray) (deps_15:List Sx) (changes_15:List Sx):Prop:=
 bif decide (t3_15<t2_15)then (
  At t_15 t3_15 fun u17=>
 xA.pre (u17.kind,())/\
 let g18:prodL [.sl .sexp]:=([(⟨(qV u17.kind).isList,(qV u17.kind).atom,(qV u17.kind).list⟩:Sx)],());
 bif decide (u17.kind=1)then (
  sp160.pre (u17,())/\
  bif decide ((zO 1 u17).length=0)then (
   zw K W16 t_15 t2_15 t3_15 p1_15 p2_15 p3_15 p4_15 p5_15 deps1_15 deps2_15 changes1_15 changes2_15 true (⟨#[]⟩:ByteArray) g18.1 deps_15 changes_15)
  else (
   xy (0< (zO 1 u17).length) (qn (g18.1.length+(zO 1 u17).length) 48 (
   zw K W16 t_15 t2_15 t3_15 p1_15 p2_15 p3_15 p4_15 p5_15 deps1_15 deps2_15 changes1_15 changes2_15 true (⟨#[]⟩:ByteArray) (g18.1++(zO 1 u17)) deps_15 changes_15))))
 else (
  bif decide (u17.kind=2)then (
   KH.pre (u17,())/\
   bif decide ((zO 2 u17).length=0)then (
    zw K W16 t_15 t2_15 t3_15 p1_15 p2_15 p3_15 p4_15 p5_15 deps1_15 deps2_15 changes1_15 changes2_15 true (⟨#[]⟩:ByteArray) g18.1 deps_15 changes_15)
   else (
    xy (0< (zO 2 u17).length) (qn (g18.1.length+(zO 2 u17).length) 48 (
    zw K W16 t_15 t2_15 t3_15 p1_15 p2_15 p3_15 p4_15 p5_15 deps1_15 deps2_15 changes1_15 changes2_15 true (⟨#[]⟩:ByteArray) (g18.1++(zO 2 u17)) deps_15 changes_15))))
  else (
   bif decide (u17.kind=3)then (
    qqv.pre (u17,())/\
    bif decide ((zO 3 u17).length=0)then (
     zw K W16 t_15 t2_15 t3_15 p1_15 p2_15 p3_15 p4_15 p5_15 deps1_15 deps2_15 changes1_15 changes2_15 true (⟨#[]⟩:ByteArray) g18.1 deps_15 changes_15)
    else (
     xy (0< (zO 3 u17).length) (qn (g18.1.length+(zO 3 u17).length) 48 (
     zw K W16 t_15 t2_15 t3_15 p1_15 p2_15 p3_15 p4_15 p5_15 deps1_15 deps2_15 changes1_15 changes2_15 true (⟨#[]⟩:ByteArray) (g18.1++(zO 3 u17)) deps_15 changes_15))))
   else (
    bif decide (u17.kind=4)then (
     K8.pre (u17,())/\
     bif decide ((zO 4 u17).length=0)then (
      zw K W16 t_15 t2_15 t3_15 p1_15 p2_15 p3_15 p4_15 p5_15 deps1_15 deps2_15 changes1_15 changes2_15 true (⟨#[]⟩:ByteArray) g18.1 deps_15 changes_15)
     else (
      xy (0< (zO 4 u17).length) (qn (g18.1.length+(zO 4 u17).length) 48 (
      zw K W16 t_15 t2_15 t3_15 p1_15 p2_15 p3_15 p4_15 p5_15 deps1_15 deps2_15 changes1_15 changes2_15 true (⟨#[]⟩:ByteArray) (g18.1++(zO 4 u17)) deps_15 changes_15))))
    else (
     bif decide (u17.kind=5)then (
      K4.pre (u17,())/\
      bif decide ((zO 5 u17).length=0)then (
       zw K W16 t_15 t2_15 t3_15 p1_15 p2_15 p3_15 p4_15 p5_15 deps1_15 deps2_15 changes1_15 changes2_15 true (⟨#[]⟩:ByteArray) g18.1 deps_15 changes_15)
      else (
       xy (0< (zO 5 u17).length) (qn (g18.1.length+(zO 5 u17).length) 48 (
       zw K W16 t_15 t2_15 t3_15 p1_15 p2_15 p3_15 p4_15 p5_15 deps1_15 deps2_15 changes1_15 changes2_15 true (⟨#[]⟩:ByteArray) (g18.1++(zO 5 u17)) deps_15 changes_15))))
     else (
      bif decide (u17.kind=6)then (
       Ky.pre (u17,())/\
       bif decide ((zO 6 u17).length=0)then (
        zw K W16 t_15 t2_15 t3_15 p1_15 p2_15 p3_15 p4_15 p5_15 deps1_15 deps2_15 changes1_15 changes2_15 true (⟨#[]⟩:ByteArray) g18.1 deps_15 changes_15)
       else (
        xy (0< (zO 6 u17).length) (qn (g18.1.length+(zO 6 u17).length) 48 (
        zw K W16 t_15 t2_15 t3_15 p1_15 p2_15 p3_15 p4_15 p5_15 deps1_15 deps2_15 changes1_15 changes2_15 true (⟨#[]⟩:ByteArray) (g18.1++(zO 6 u17)) deps_15 changes_15))))
      else (
       bif decide (u17.kind=7)then (
        qqX.pre (u17,())/\
        bif decide ((zO 7 u17).length=0)then (
         zw K W16 t_15 t2_15 t3_15 p1_15 p2_15 p3_15 p4_15 p5_15 deps1_15 deps2_15 changes1_15 changes2_15 true (⟨#[]⟩:ByteArray) g18.1 deps_15 changes_15)
        else (
         xy (0< (zO 7 u17).length) (qn (g18.1.length+(zO 7 u17).length) 48 (
         zw K W16 t_15 t2_15 t3_15 p1_15 p2_15 p3_15 p4_15 p5_15 deps1_15 deps2_15 changes1_15 changes2_15 true (⟨#[]⟩:ByteArray) (g18.1++(zO 7 u17)) deps_15 changes_15))))
       else (
        False))))))))
 else (
  F70_J23 K p1_15 p2_15 p3_15 p4_15 p5_15 deps1_15 deps2_15 deps_15 changes1_15 changes2_15 changes_15)
def F70_L16 (K:Kn) (g:prodL [.sl .chg, .int .i64, .int .i64, .str, .str, .int .i64, .sl .dig, .sl .chg, .bool, .str, .bool, .str, .sl .sexp, .sl .sexp]):Prop:=
 qQ (γ:=prodL [.sl .chg, .int .i64, .int .i64, .str, .str, .int .i64, .sl .dig, .sl .chg, .bool, .str, .bool, .str, .sl .sexp, .sl .sexp]) (fun V y=>ZK K V y.1 y.2.1 y.2.2.1 y.2.2.2.1 y.2.2.2.2.1 y.2.2.2.2.2.1 y.2.2.2.2.2.2.1 y.2.2.2.2.2.2.2.1 y.2.2.2.2.2.2.2.2.1 y.2.2.2.2.2.2.2.2.2.1 y.2.2.2.2.2.2.2.2.2.2.1 y.2.2.2.2.2.2.2.2.2.2.2.1 y.2.2.2.2.2.2.2.2.2.2.2.2.1 y.2.2.2.2.2.2.2.2.2.2.2.2.2.1) g
def YX (K:Kn) (W7:prodL [.sl .dig, .int .i64, .int .i64, .str, .str, .int .i64, .sl .dig, .sl .chg, .bool, .str, .bool, .str, .sl .sexp]->Prop) (t_6:List Dig) (t2_6 t3_6:Int) (p1_6 p2_6:ByteArray) (p3_6:Int) (p4_6:List Dig) (p5_6:List Chg) (deps1_6:Bool) (deps2_6:ByteArray) (changes1_6:Bool) (changes2_6:ByteArray) (deps_6:List Sx):Prop:=
 bif decide (t3_6<t2_6)then (
  At t_6 t3_6 fun u8=>
 True/\
 qn (deps_6.length+[(⟨false,XH u8,[]⟩:Sx)].length) 48 (
 W7 (t_6,t2_6,IntKind.i64.wrap (t3_6+1),p1_6,p2_6,p3_6,p4_6,p5_6,deps1_6,deps2_6,changes1_6,changes2_6,deps_6++[(⟨false,XH u8,[]⟩:Sx)],())))
 else (
  True/\
 F70_L16 K (p5_6,(p5_6.length:Int),0,p1_6,p2_6,p3_6,p4_6,p5_6,deps1_6,deps2_6,changes1_6,changes2_6,deps_6,[],()))
def F70_L7 (K:Kn) (g:prodL [.sl .dig, .int .i64, .int .i64, .str, .str, .int .i64, .sl .dig, .sl .chg, .bool, .str, .bool, .str, .sl .sexp]):Prop:=
 qQ (γ:=prodL [.sl .dig, .int .i64, .int .i64, .str, .str, .int .i64, .sl .dig, .sl .chg, .bool, .str, .bool, .str, .sl .sexp]) (fun V y=>YX K V y.1 y.2.1 y.2.2.1 y.2.2.2.1 y.2.2.2.2.1 y.2.2.2.2.2.1 y.2.2.2.2.2.2.1 y.2.2.2.2.2.2.2.1 y.2.2.2.2.2.2.2.2.1 y.2.2.2.2.2.2.2.2.2.1 y.2.2.2.2.2.2.2.2.2.2.1 y.2.2.2.2.2.2.2.2.2.2.2.1 y.2.2.2.2.2.2.2.2.2.2.2.2.1) g
def F70 (g:prodL L70) (K:Kn):Prop:=
 let g1:prodL []:=(());
 let g2:prodL []:=(());
 F70_L7 K (g.2.2.2.1,(g.2.2.2.1.length:Int),0,g.1,g.2.1,g.2.2.1,g.2.2.2.1,g.2.2.2.2.1,true,(⟨#[]⟩:ByteArray),true,(⟨#[]⟩:ByteArray),[],())
theorem F70_eq (g:prodL L70) (K X:Kn):F70 g K=qJ D (qk [(118,ki),(118,ju)] [(119,false,yH),(120,false,sp120),(121,false,xA),(122,true,sp122),(160,false,sp160),(161,false,KH),(164,false,qqv),(165,false,K8),(166,false,K4),(168,false,Ky),(169,false,qqX)]) (qx [(118,ki),(118,ju)]) H70 J70 77 [.tmp 2, .tmp 3] (qz Tryz.f70) (argsT S70 L70 g) [] (settle0 K) X:=by kernel_rfl
theorem F70_ok (g:prodL L70) (K X:Kn) (h:F70 g K):FCalls Tryz.prog 70 (argsT S70 L70 g) [] K X:=
 FCalls.settle0 (qq (Γ:=qk [(118,ki),(118,ju)] [(119,false,yH),(120,false,sp120),(121,false,xA),(122,true,sp122),(160,false,sp160),(161,false,KH),(164,false,qqv),(165,false,K8),(166,false,K4),(168,false,Ky),(169,false,qqX)]) (mu:=qx [(118,ki),(118,ju)]) (H:=H70) (J:=J70) qW (qX (rs:=[(118,ki),(118,ju)]) (l:=[(119,false,yH),(120,false,sp120),(121,false,xA),(122,true,sp122),(160,false,sp160),(161,false,KH),(164,false,qqv),(165,false,K8),(166,false,K4),(168,false,Ky),(169,false,qqX)]) (by intro p hp;simp only [List.mem_cons,List.not_mem_nil,or_false] at hp;rcases hp with rfl | rfl<;>first | exact rw118_ok | exact JL) (by intro p hp;simp only [List.mem_cons,List.not_mem_nil,or_false] at hp;rcases hp with rfl | rfl | rfl | rfl | rfl | rfl | rfl | rfl | rfl | rfl | rfl<;>first | exact kY | exact sp120_ok | exact Z9 | exact sp122_ok | exact sp160_ok | exact sp161_ok | exact sp164_ok | exact sp165_ok | exact sp166_ok | exact sp168_ok | exact sp169_ok)) qj rfl Tryz.func70 (c:=qz Tryz.f70) rfl Tryz.ntmps70 Tryz.results70 (by unfold qv;rw [Tryz.func70];kernel_rfl) (Nat.le_of_ble_eq_true (by kernel_rfl)) (c0:=0) (Eq.mp (F70_eq g K X) h))
def H38:List (Nat×Hint):=[(3,⟨[((1,[]),none),((4,[]),some .sexp)],[(1, .pt 0 0),(4, .oa .sexp 1),(5, .nil),(6, .leaf)],[.cells [.leaf, .leaf, .leaf, .leaf, .leaf], .arr .sexp],[.int .i64, .str, .str, .int .i64, .sl .dig, .sl .chg, .sl .sexp]⟩),(7,⟨[((1,[]),none),((4,[]),none),((5,[]),some .sexp)],[(1, .pt 0 0),(4, .oa .sexp 1),(5, .oa .sexp 2),(7, .leaf)],[.cells [.leaf, .leaf, .leaf, .leaf, .leaf], .arr .sexp, .arr .sexp],[.int .i64, .str, .str, .int .i64, .sl .dig, .sl .chg, .sl .sexp, .sl .sexp]⟩)]
def J38:List (Nat×Hint):=[(10,⟨[((1,[]),none)],[(1, .pt 0 0),(4, .leaf),(5, .leaf)],[.cells [.leaf, .leaf, .leaf, .leaf, .leaf]],[.sl .sexp, .sl .sexp, .str, .str, .int .i64, .sl .dig, .sl .chg]⟩),(12,⟨[],[(8, .leaf),(70, .leaf)],[],[.str, .bool]⟩)]
abbrev S38:List Sh:=[.ag [.leaf, .leaf, .leaf, .leaf, .leaf]]
abbrev L38:List Lf:=[.str, .str, .int .i64, .sl .dig, .sl .chg]
def Jy (K:Kn) (s_14:ByteArray) (t_14:Bool):Prop:=
 bif t_14 then (
  K (.tu [.str (⟨#[]⟩:ByteArray), .int .i64 4]) [])
 else (
  K (.tu [.str s_14, .int .i64 0]) [])
def F38_J16 (K:Kn) (l_13:List Sx) (m_13:List Sx) (p1_13 p2_13:ByteArray) (p3_13:Int) (p4_13:List Dig) (p5_13:List Chg):Prop:=
 True/\
 True/\
 True/\
 xf.pre (p3_13,())/\
 True/\
 True/\
 True/\
 sp76.pre (true,(⟨#[]⟩:ByteArray),[(⟨false,(⟨#[113,117,105,108,116,49]⟩:ByteArray),[]⟩:Sx),(⟨false,p1_13,[]⟩:Sx),(⟨false,p2_13,[]⟩:Sx),(⟨(qV p3_13).isList,(qV p3_13).atom,(qV p3_13).list⟩:Sx),(⟨true,(⟨#[]⟩:ByteArray),l_13⟩:Sx),(⟨true,(⟨#[]⟩:ByteArray),m_13⟩:Sx)],())/\
 bif !decide ((xu ⟨true,(⟨#[]⟩:ByteArray),[(⟨false,(⟨#[113,117,105,108,116,49]⟩:ByteArray),[]⟩:Sx),(⟨false,p1_13,[]⟩:Sx),(⟨false,p2_13,[]⟩:Sx),(⟨(qV p3_13).isList,(qV p3_13).atom,(qV p3_13).list⟩:Sx),(⟨true,(⟨#[]⟩:ByteArray),l_13⟩:Sx),(⟨true,(⟨#[]⟩:ByteArray),m_13⟩:Sx)]⟩).2=0)then (
  Jy K ((xu ⟨true,(⟨#[]⟩:ByteArray),[(⟨false,(⟨#[113,117,105,108,116,49]⟩:ByteArray),[]⟩:Sx),(⟨false,p1_13,[]⟩:Sx),(⟨false,p2_13,[]⟩:Sx),(⟨(qV p3_13).isList,(qV p3_13).atom,(qV p3_13).list⟩:Sx),(⟨true,(⟨#[]⟩:ByteArray),l_13⟩:Sx),(⟨true,(⟨#[]⟩:ByteArray),m_13⟩:Sx)]⟩).1) true)
 else (
  Jy K ((xu ⟨true,(⟨#[]⟩:ByteArray),[(⟨false,(⟨#[113,117,105,108,116,49]⟩:ByteArray),[]⟩:Sx),(⟨false,p1_13,[]⟩:Sx),(⟨false,p2_13,[]⟩:Sx),(⟨(qV p3_13).isList,(qV p3_13).atom,(qV p3_13).list⟩:Sx),(⟨true,(⟨#[]⟩:ByteArray),l_13⟩:Sx),(⟨true,(⟨#[]⟩:ByteArray),m_13⟩:Sx)]⟩).1) (decide (65536< (((xu ⟨true,(⟨#[]⟩:ByteArray),[(⟨false,(⟨#[113,117,105,108,116,49]⟩:ByteArray),[]⟩:Sx),(⟨false,p1_13,[]⟩:Sx),(⟨false,p2_13,[]⟩:Sx),(⟨(qV p3_13).isList,(qV p3_13).atom,(qV p3_13).list⟩:Sx),(⟨true,(⟨#[]⟩:ByteArray),l_13⟩:Sx),(⟨true,(⟨#[]⟩:ByteArray),m_13⟩:Sx)]⟩).1).size:Int))))
def ZB (K:Kn) (W11:prodL [.int .i64, .str, .str, .int .i64, .sl .dig, .sl .chg, .sl .sexp, .sl .sexp]->Prop) (i_10:Int) (p1_10 p2_10:ByteArray) (p3_10:Int) (p4_10:List Dig) (p5_10:List Chg) (l_10:List Sx) (m_10:List Sx):Prop:=
 bif decide (i_10< (p5_10.length:Int))then (
  At p5_10 i_10 fun u12=>
 sp75.pre (u12,())/\
 qn (m_10.length+[(⟨(chX u12).isList,(chX u12).atom,(chX u12).list⟩:Sx)].length) 48 (
 W11 (IntKind.i64.wrap (i_10+1),p1_10,p2_10,p3_10,p4_10,p5_10,l_10,m_10++[(⟨(chX u12).isList,(chX u12).atom,(chX u12).list⟩:Sx)],())))
 else (
  F38_J16 K l_10 m_10 p1_10 p2_10 p3_10 p4_10 p5_10)
def F38_L11 (K:Kn) (g:prodL [.int .i64, .str, .str, .int .i64, .sl .dig, .sl .chg, .sl .sexp, .sl .sexp]):Prop:=
 qQ (γ:=prodL [.int .i64, .str, .str, .int .i64, .sl .dig, .sl .chg, .sl .sexp, .sl .sexp]) (fun V y=>ZB K V y.1 y.2.1 y.2.2.1 y.2.2.2.1 y.2.2.2.2.1 y.2.2.2.2.2.1 y.2.2.2.2.2.2.1 y.2.2.2.2.2.2.2.1) g
def YV (K:Kn) (W5:prodL [.int .i64, .str, .str, .int .i64, .sl .dig, .sl .chg, .sl .sexp]->Prop) (i_4:Int) (p1_4 p2_4:ByteArray) (p3_4:Int) (p4_4:List Dig) (p5_4:List Chg) (l_4:List Sx):Prop:=
 bif decide (i_4< (p4_4.length:Int))then (
  At p4_4 i_4 fun u6=>
 True/\
 qn (l_4.length+[(⟨(jc u6).isList,(jc u6).atom,(jc u6).list⟩:Sx)].length) 48 (
 W5 (IntKind.i64.wrap (i_4+1),p1_4,p2_4,p3_4,p4_4,p5_4,l_4++[(⟨(jc u6).isList,(jc u6).atom,(jc u6).list⟩:Sx)],())))
 else (
  F38_L11 K (0,p1_4,p2_4,p3_4,p4_4,p5_4,l_4,[],()))
def F38_L5 (K:Kn) (g:prodL [.int .i64, .str, .str, .int .i64, .sl .dig, .sl .chg, .sl .sexp]):Prop:=
 qQ (γ:=prodL [.int .i64, .str, .str, .int .i64, .sl .dig, .sl .chg, .sl .sexp]) (fun V y=>YV K V y.1 y.2.1 y.2.2.1 y.2.2.2.1 y.2.2.2.2.1 y.2.2.2.2.2.1 y.2.2.2.2.2.2.1) g
def F38 (g:prodL L38) (K:Kn):Prop:=
 F38_L5 K (0,g.1,g.2.1,g.2.2.1,g.2.2.2.1,g.2.2.2.2.1,[],())
theorem F38_eq (g:prodL L38) (K X:Kn):F38 g K=qJ D (qk [] [(74,false,sp74),(75,false,sp75),(76,true,sp76),(77,false,yM),(78,false,sp78),(79,false,xf)]) (qx []) H38 J38 72 [.tmp 2, .tmp 3] (qz Tryz.f38) (argsT S38 L38 g) [] (settle0 K) X:=by kernel_rfl
theorem F38_ok (g:prodL L38) (K X:Kn) (h:F38 g K):FCalls Tryz.prog 38 (argsT S38 L38 g) [] K X:=
 FCalls.settle0 (qq qW (jx (zj sp74_ok (zj sp75_ok (zj sp76_ok (zj xt (zj Ji (zj vk jv))))))) qj rfl Tryz.func38 (c:=qz Tryz.f38) rfl Tryz.ntmps38 Tryz.results38 (by unfold qv;rw [Tryz.func38];kernel_rfl) (Nat.le_of_ble_eq_true (by kernel_rfl)) (c0:=0) (Eq.mp (F38_eq g K X) h))
end Go.Proofs.YtbglndogddddoaaGreatDoor
namespace Go.Proofs.YtbglndogddddoaaGreatDoor
open Go.RowKit
set_option maxRecDepth 100000
def paP (a m:ByteArray) (t:Int) (ds:List Dig) (cs:List Chg):Prop:=
 jk t/\a.size<=4194304/\m.size<=4194304/\ds.length<=4194304/\(cs.map qf).sum<=4194304/\ ∀c∈cs,chW c/\zN c
theorem kx {cs:List Chg} (h:(cs.map qf).sum<=4194304) {c:Chg} (hc:c∈cs):wm c:=Nat.le_trans (Zu qf hc) h
theorem yg {cs:List Chg} (h:(cs.map qf).sum<=4194304):cs.length<=40000:=by
 have:=v6 qf 135 cs fun c _=>by unfold qf;omega
 omega
theorem kind_int {c:Chg} (h:zN c):jk c.kind:=⟨by have:=h.1;omega,by have:=h.2;omega⟩
theorem bk_chs: ∀{cs:List Chg},(∀c∈cs,wm c/\chW c/\zN c)->zn (cs.map chX)<=5*(cs.map qf).sum+300*cs.length
 | [],_=>by simp [zn]
 | c::cs,h=>by
  obtain ⟨h1,h2,h3⟩:=h c (List.mem_cons_self ..)
  have:=bk_chX h1 h2 (kind_int h3)
  have:=bk_chs fun c hc=>h c (List.mem_cons_of_mem _ hc)
  simp only [List.map_cons,zn,List.sum_cons,List.length_cons]
  omega
theorem bk_patX {a m:ByteArray} {t:Int} {ds:List Dig} {cs:List Chg} (hp:paP a m t ds cs) (f:Dig->Sx) (hf: ∀d,xF (f d)<=35):xF (zE a m t (ds.map f) cs)<=vf:=by
 obtain ⟨h1,h2,h3,h4,h5,h6⟩:=hp
 have e1:=bk_chs fun c hc=>⟨kx h5 hc,h6 c hc⟩
 have e2:=yg h5
 have e3:=YZ f 35 ds fun d _=>hf d
 have e4:=Z2 h1
 have e5:Yh.size=6:=rfl
 have e6:vf=1073741824:=rfl
 unfold zE
 rw [wU]
 simp only [zn,ko,wU,e5]
 omega
theorem QM {w:Sx} {l:List Sx} (J:List Sx->Prop) (hl:l.length<=4294967295) (h:J (w::l)):bif decide (l.length=0)then J [w] else xy (0<l.length) (qn ([w].length+l.length) 48 (J ([w]++l))):=by
 by_cases e:l.length=0
 . rw [decide_eq_true e,cond_true]
   rwa [List.length_eq_zero_iff.1 e] at h
 . rw [decide_eq_false e,cond_false]
   exact ⟨by omega,by simp only [List.length_singleton];omega,h⟩
theorem F70_L16_is {a m:ByteArray} {t:Int} {ds:List Dig} {cs:List Chg} {K:Kn} {D:List Sx} (hp:paP a m t ds cs)
  (h:F70_J23 K a m t ds cs true ⟨#[]⟩ D true ⟨#[]⟩ (cs.map chX)):F70_L16 K (cs,(cs.length:Int),0,a,m,t,ds,cs,true,⟨#[]⟩,true,⟨#[]⟩,D,[],()):=by
 obtain ⟨h1,h2,h3,h4,h5,h6⟩:=hp
 have hl:=yg h5
 unfold F70_L16
 refine qQ.map cs chX (fun n out=>(cs,(cs.length:Int),n,a,m,t,ds,cs,true,⟨#[]⟩,true,⟨#[]⟩,D,out,())) (by omega) rfl (fun W n hn out ho hW=> ?_) fun W=> ?_
 . show ZK K W cs cs.length n a m t ds cs true ⟨#[]⟩ true ⟨#[]⟩ D out
   unfold ZK
   rw [qo hn,cond_true]
   have hm:=List.getElem_mem hn
   have hc:=kx h5 hm
   obtain ⟨hw,hk⟩:=h6 _ hm
   refine qB hn ⟨kind_int hk, ?_⟩
   simp only [zi]
   have hfl: ∀k,(zO k cs[n]).length<=4294967295:=fun k=>by unfold zO;split<;>simp
   have hJ: ∀l,qV cs[n].kind::zO cs[n].kind.toNat cs[n]=l->zw K W cs cs.length n a m t ds cs true ⟨#[]⟩ true ⟨#[]⟩ true ⟨#[]⟩ l D out:=by
    rintro l rfl
    unfold zw
    exact ⟨by simp only [List.length_singleton,ho];omega,hW⟩
   generalize cs[n]=u at hm hc hw hk hW hfl hJ ⊢
   obtain ⟨kind,file,typ,parent,name,mode,data,after,before,lines,over⟩:=u
   have hk1:(1:Int)<=kind/\kind<=7:=hk
   have:kind=1∨kind=2∨kind=3∨kind=4∨kind=5∨kind=6∨kind=7:=by omega
   rcases this with rfl | rfl | rfl | rfl | rfl | rfl | rfl
   . exact ⟨⟨hc,hw⟩,QM (fun l=>zw K W cs cs.length n a m t ds cs true ⟨#[]⟩ true ⟨#[]⟩ true ⟨#[]⟩ l D out) (hfl 1) (hJ _ rfl)⟩
   . show KH.pre _/\_
     exact ⟨⟨hc,hw⟩,QM (fun l=>zw K W cs cs.length n a m t ds cs true ⟨#[]⟩ true ⟨#[]⟩ true ⟨#[]⟩ l D out) (hfl 2) (hJ _ rfl)⟩
   . show qqv.pre _/\_
     exact ⟨⟨hc,hw⟩,QM (fun l=>zw K W cs cs.length n a m t ds cs true ⟨#[]⟩ true ⟨#[]⟩ true ⟨#[]⟩ l D out) (hfl 3) (hJ _ rfl)⟩
   . show K8.pre _/\_
     exact ⟨⟨hc,hw⟩,QM (fun l=>zw K W cs cs.length n a m t ds cs true ⟨#[]⟩ true ⟨#[]⟩ true ⟨#[]⟩ l D out) (hfl 4) (hJ _ rfl)⟩
   . show K4.pre _/\_
     exact ⟨⟨hc,hw⟩,QM (fun l=>zw K W cs cs.length n a m t ds cs true ⟨#[]⟩ true ⟨#[]⟩ true ⟨#[]⟩ l D out) (hfl 5) (hJ _ rfl)⟩
   . show Ky.pre _/\_
     exact ⟨⟨hc,hw⟩,QM (fun l=>zw K W cs cs.length n a m t ds cs true ⟨#[]⟩ true ⟨#[]⟩ true ⟨#[]⟩ l D out) (hfl 6) (hJ _ rfl)⟩
   . show qqX.pre _/\_
     exact ⟨⟨hc,hw⟩,QM (fun l=>zw K W cs cs.length n a m t ds cs true ⟨#[]⟩ true ⟨#[]⟩ true ⟨#[]⟩ l D out) (hfl 7) (hJ _ rfl)⟩
 . show ZK K W cs cs.length cs.length a m t ds cs true ⟨#[]⟩ true ⟨#[]⟩ D (cs.map chX)
   unfold ZK
   rw [qg,cond_false];exact h
def jt (ds:List Dig):List Sx:=ds.map fun d=>qE (XH d)
theorem F70_is {a m:ByteArray} {t:Int} {ds:List Dig} {cs:List Chg} {K:Kn} (hp:paP a m t ds cs) (h:K (.tu [.str (xu (zE a m t (jt ds) cs)).1, .int .i64 (xu (zE a m t (jt ds) cs)).2]) []):F70 (a,m,t,ds,cs,()) K:=by
 have hl:=hp.2.2.2.1
 unfold F70
 show F70_L7 K _
 unfold F70_L7
 refine qQ.map ds (fun d=>qE (XH d)) (fun n out=>(ds,(ds.length:Int),n,a,m,t,ds,cs,true,⟨#[]⟩,true,⟨#[]⟩,out,())) (by omega) rfl (fun W n hn out ho hW=> ?_) fun W=> ?_
 . show YX K W ds ds.length n a m t ds cs true ⟨#[]⟩ true ⟨#[]⟩ out
   unfold YX
   rw [qo hn,cond_true]
   exact qB hn ⟨trivial,by simp only [List.length_singleton,ho];omega,hW⟩
 . show YX K W ds ds.length ds.length a m t ds cs true ⟨#[]⟩ true ⟨#[]⟩ (ds.map fun d=>qE (XH d))
   unfold YX
   rw [qg,cond_false]
   refine ⟨trivial,F70_L16_is hp ?_⟩
   unfold F70_J23
   simp only [zi]
   exact ⟨trivial,trivial,trivial,hp.1,⟨bk_patX hp (fun d=>qE (XH d)) fun d=>by rw [ko,Kr];omega,encode_ok⟩,h⟩
def sp70:Sp:=⟨S70,L70,fun g=>paP g.1 g.2.1 g.2.2.1 g.2.2.2.1 g.2.2.2.2.1,fun g=> .tu [.str (xu (zE g.1 g.2.1 g.2.2.1 (jt g.2.2.2.1) g.2.2.2.2.1)).1, .int .i64 (xu (zE g.1 g.2.1 g.2.2.1 (jt g.2.2.2.1) g.2.2.2.2.1)).2],fun _=>none⟩
theorem sp70_ok:sp70.Ok Tryz.prog 70 true:=
 ⟨fun g K X hp h=>F70_ok g K X (F70_is hp h),fun _ _ _=>rfl,fun _=>rfl,fun _ _=>⟨rfl,rfl⟩⟩
theorem F38_is {a m:ByteArray} {t:Int} {ds:List Dig} {cs:List Chg} {K:Kn} (hp:paP a m t ds cs) (h:K (.tu [.str (encQ a m t ds cs).1, .int .i64 (encQ a m t ds cs).2]) []):F38 (a,m,t,ds,cs,()) K:=by
 have hb:=bk_patX hp jc bk_digX
 obtain ⟨h1,h2,h3,h4,h5,h6⟩:=hp
 have hl:=yg h5
 unfold F38 F38_L5
 refine qQ.map ds jc (fun n out=>(n,a,m,t,ds,cs,out,())) (by omega) rfl (fun W n hn out ho hW=> ?_) fun W=> ?_
 . show YV K W n a m t ds cs out
   unfold YV
   rw [qo hn,cond_true]
   simp only [zi]
   exact qB hn ⟨trivial,by simp only [List.length_singleton,ho];omega,hW⟩
 . show YV K W ds.length a m t ds cs (ds.map jc)
   unfold YV
   rw [qg,cond_false]
   unfold F38_L11
   refine qQ.map cs chX (fun n out=>(n,a,m,t,ds,cs,ds.map jc,out,())) (by omega) rfl (fun W n hn out ho hW=> ?_) fun W=> ?_
   . show ZB K W n a m t ds cs (ds.map jc) out
     unfold ZB
     rw [qo hn,cond_true]
     simp only [zi]
     have hm:=List.getElem_mem hn
     exact qB hn ⟨⟨kx h5 hm,(h6 _ hm).1,(h6 _ hm).2⟩,by simp only [List.length_singleton,ho];omega,hW⟩
   . show ZB K W cs.length a m t ds cs (ds.map jc) (cs.map chX)
     unfold ZB
     rw [qg,cond_false]
     unfold F38_J16
     simp only [zi]
     refine ⟨trivial,trivial,trivial,h1,trivial,trivial,trivial,hb, ?_⟩
     have hJ: ∀b,K (.tu [.str (bif b then ((⟨#[]⟩:ByteArray),(4:Int))else ((xu (zE a m t (ds.map jc) cs)).1,0)).1, .int .i64 (bif b then ((⟨#[]⟩:ByteArray),(4:Int))else ((xu (zE a m t (ds.map jc) cs)).1,0)).2]) []->Jy K (xu (zE a m t (ds.map jc) cs)).1 b:=by
      intro b h
      unfold Jy
      cases b
      . exact h
      . exact h
     exact xO (J:=Jy K (xu (zE a m t (ds.map jc) cs)).1) (f:=fun b=>bif b then ((⟨#[]⟩:ByteArray),(4:Int))else ((xu (zE a m t (ds.map jc) cs)).1,0)) (K:=fun r=>K (.tu [.str r.1, .int .i64 r.2]) []) hJ h
def sp38:Sp:=⟨S38,L38,fun g=>paP g.1 g.2.1 g.2.2.1 g.2.2.2.1 g.2.2.2.2.1,fun g=> .tu [.str (encQ g.1 g.2.1 g.2.2.1 g.2.2.2.1 g.2.2.2.2.1).1, .int .i64 (encQ g.1 g.2.1 g.2.2.1 g.2.2.2.1 g.2.2.2.2.1).2],fun _=>none⟩
theorem sp38_ok:sp38.Ok Tryz.prog 38 true:=
 ⟨fun g K X hp h=>F38_ok g K X (F38_is hp h),fun _ _ _=>rfl,fun _=>rfl,fun _ _=>⟨rfl,rfl⟩⟩
set_option maxRecDepth 100000
def overK (k:Int):Int:=match wx .ment (.int .i64 k) (yO .ment (.int .i64 6) ((⟨6,6⟩:Ment):Ment) (yO .ment (.int .i64 4) ((⟨4,4⟩:Ment):Ment) (yO .ment (.int .i64 3) ((⟨3,3⟩:Ment):Ment) (yO .ment (.int .i64 2) ((⟨2,2⟩:Ment):Ment) ([]:List Ment)))))with | some x=>x.val | none=>0
def fitDa (x:Atm):Bool:=bif decide (x.kind=1)then (bif decide (x.typ=2)then true else decide (x.typ=3))else false
def fitTx (x:Atm):Bool:=bif decide (x.kind=1)then decide (x.typ=1)else false
def fitDi (x:Atm):Bool:=bif decide (x.kind=1)then decide (x.typ=4)else false
def WQ (x:Atm) (c:Chg):Bool:=bif qs x.id c.file then true else bif decide (x.kind=5)then qs x.file c.file else false
def We (x:Atm) (c:Chg):Bool:=bif decide (c.kind=7)then true else bif decide (x.kind=overK c.kind)then qs x.file c.file else false
def fitFd:Fd->Atm->Bool
 | .file,x=>decide (x.kind=1)
 | .data,x=>fitDa x
 | .txt,x=>fitTx x
 | .dir,x=>fitDi x
 | .fin c,x=>WQ x c
 | .sup c,x=>We x c
def qqE (c:Chg):List Rfn:=c.over.map fun x=>⟨x,Fd.sup c⟩
def rL17 (c:Chg) (t:Bool) (out:List Rfn):List Rfn:=bif t then (out++[⟨c.after,Fd.fin c⟩])++[⟨c.before,Fd.fin c⟩]++qqE c else out++qqE c
def rL24 (c:Chg) (out:List Rfn):List Rfn:=rL17 c (bif decide (c.kind=5)then true else decide (c.kind=6)) out
def rL12 (c:Chg) (t:Bool) (out:List Rfn):List Rfn:=bif t then rL24 c (out++[⟨c.parent,Fd.dir⟩])else rL24 c out
def qzY (c:Chg) (out:List Rfn):List Rfn:=rL12 c (bif decide (c.kind=2)then !(qs c.parent ⟨dz, -1⟩)else false) out
def rL7 (c:Chg) (t:Bool):List Rfn:=bif t then qzY c [⟨c.file,Fd.txt⟩] else qzY c []
def rL8 (c:Chg) (k:Int) (t:Bool):List Rfn:=bif t then qzY c [⟨c.file,Fd.file⟩] else bif decide (k=4)then qzY c [⟨c.file,Fd.data⟩] else rL7 c (bif decide (k=5)then true else decide (k=6))
def jj (c:Chg):List Rfn:=rL8 c c.kind (bif decide (c.kind=2)then true else decide (c.kind=3))
def yN (own:List Atm) (r:Rfn):Int:=
 bif (bif decide (r.id.n<0)then true else bif (bif QC r.id then decide ((own.length:Int)<=r.id.n)else false)then true else decide (100000<=r.id.n))then 7 else
 bif (bif QC r.id then !(fitFd r.fits (own.getD r.id.n.toNat az))else false)then 8 else 0
def ZJ (t:Bool) (c:Chg):Int:=bif (bif t then true else bif decide (c.kind=5)then (bif qs c.after c.before then !(qs c.after c.file)else false)else false)then 1 else 0
def Ze (t:Bool) (c:Chg):Int:=bif t then 20 else ZJ (bif decide (c.kind=6)then qs c.after c.before else false) c
def Jf (c:Chg):Int:=Ze (bif decide (c.kind=2)then qs c.parent c.file else false) c
def yD (c:Chg) (own:List Atm):Int:=bif !decide (errs ((jj c).map (yN own))=0)then errs ((jj c).map (yN own))else Jf c
def QE (n:Int):Idn:=⟨dz,n⟩
def lnA (c:Chg) (n:Int) (s:ByteArray):Atm:=⟨QE n,5,c.file,0,iz,⟨#[]⟩,0,⟨#[]⟩,s,iz,iz,[]⟩
def egA (c:Chg) (n:Int) (f t:Idn):Atm:=⟨QE n,6,c.file,0,iz,⟨#[]⟩,0,⟨#[]⟩,⟨#[]⟩,f,t,[]⟩
def lnI (c:Chg) (n:Int) (i:Nat):Atm:=lnA c (n+i) (c.lines.getD i ⟨#[]⟩)
def YM (c:Chg) (n:Int) (i:Nat):Idn:=bif decide (i<c.lines.length)then QE (n+i)else c.before
def frmI (c:Chg) (n:Int):Nat->Idn
 | 0=>c.after
 | i+1=>QE (n+i)
def egI (c:Chg) (n:Int) (i:Nat):Atm:=egA c (n+c.lines.length+i) (frmI c n i) (YM c n i)
def QY (c:Chg) (n:Int):List Atm:=(List.range c.lines.length).map (lnI c n)
def egsL (c:Chg) (n:Int):List Atm:=(List.range (c.lines.length+1)).map (egI c n)
def madK (k:Nat) (c:Chg) (n:Int):List Atm:=match k with
 | 1=>[⟨QE n,1,QE n,c.typ,iz,⟨#[]⟩,0,⟨#[]⟩,⟨#[]⟩,iz,iz,[]⟩]
 | 2=>[⟨QE n,2,c.file,0,c.parent,c.name,0,⟨#[]⟩,⟨#[]⟩,iz,iz,c.over⟩]
 | 3=>[⟨QE n,3,c.file,0,iz,⟨#[]⟩,c.mode,⟨#[]⟩,⟨#[]⟩,iz,iz,c.over⟩]
 | 4=>[⟨QE n,4,c.file,0,iz,⟨#[]⟩,0,c.data,⟨#[]⟩,iz,iz,c.over⟩]
 | 5=>QY c n++egsL c n
 | 6=>[⟨QE n,6,c.file,0,iz,⟨#[]⟩,0,⟨#[]⟩,⟨#[]⟩,c.after,c.before,c.over⟩]
 | 7=>[⟨QE n,7,iz,0,iz,⟨#[]⟩,0,⟨#[]⟩,⟨#[]⟩,iz,iz,c.over⟩]
 | _=>[]
def j8 (c:Chg) (n:Int):List Atm:=madK c.kind.toNat c n
theorem JM {c:Chg} {n:Int} (hk:zN c):(j8 c n).length=if c.kind=5 then 2*c.lines.length+1 else 1:=by
 obtain ⟨kind,file,typ,parent,name,mode,data,after,before,lines,over⟩:=c
 have hk1:(1:Int)<=kind/\kind<=7:=hk
 have:kind=1∨kind=2∨kind=3∨kind=4∨kind=5∨kind=6∨kind=7:=by omega
 rcases this with rfl | rfl | rfl | rfl | rfl | rfl | rfl<;>try rfl
 show (QY _ n++egsL _ n).length=_
 simp [QY,egsL]
 omega
theorem VO {c:Chg} {n:Int} (hk:zN c):(j8 c n).length<=2*qf c:=by
 rw [JM hk]
 have:=v6 z6 1 c.lines fun x _=>by unfold z6;omega
 unfold qf
 split<;>omega
def qqs (c:Chg) (n:Int):Prop:=zN c/\c.lines.length<=4194304/\0<=n/\n<=1099511627776
def pre84 (g:prodL [.pr .i64, .pr .chg, .sl .atm]):Prop:=qqs g.2.1 g.1/\g.2.2.1.length<=16777216
def pre84b (g:prodL [.pr .i64, .pr .chg, .int .i64]):Prop:=qqs g.2.1 g.1/\0<=g.2.2.1/\g.2.2.1<=1099511627776
def xj (f:Chg->Int) (r:Chg->List Atm->Int):List Chg->List Atm->List Atm×Int
 | [],own=>(own,0)
 | c::l,own=>bif !decide (f c=0)then ([],f c)else bif !decide (r c own=0)then ([],r c own)else xj f r l (own++j8 c own.length)
def yT (cs:List Chg):List Atm×Int:=xj zp yD cs []
def yS (cs:List Chg):List Atm×Int:=xj jN Qh cs []
def qzy (l:List Atm) (s:ByteArray) (t:Bool):List Atm×ByteArray×Int:=bif t then ([],⟨#[]⟩,4)else (l,s,0)
def Qg (r:List Atm×Int) (x:ByteArray×Int):List Atm×ByteArray×Int:=
 bif !decide (r.2=0)then ([],⟨#[]⟩,r.2)else qzy r.1 x.1 (bif !decide (x.2=0)then true else decide (65536< (x.1.size:Int)))
def jp (a m:ByteArray) (t:Int) (ds:List Dig) (cs:List Chg):List Atm×ByteArray×Int:=
 bif !decide (zG zz a m t ds cs=0)then ([],⟨#[]⟩,zG zz a m t ds cs)else Qg (yT cs) (xu (zE a m t (jt ds) cs))
def JD (a m:ByteArray) (t:Int) (ds:List Dig) (cs:List Chg):List Atm×Int:=
 bif !decide (zG jL a m t ds cs=0)then ([],zG jL a m t ds cs)else yS cs
def xP (a m:ByteArray) (t:Int) (ds:List Dig) (cs:List Chg):Prop:=
 jk t/\a.size<=4194304/\m.size<=4194304/\ds.length<=4194304/\(cs.map qf).sum<=4194304/\ ∀c∈cs,chW c
theorem zo {c:Chg} (h:zp c=0):zN c:=by
 unfold zp fP10 at h
 by_cases h1:c.kind<1
 . rw [decide_eq_true h1,cond_true,cond_true] at h;cases h
 . rw [decide_eq_false h1,cond_false] at h
   by_cases h2:7<c.kind
   . rw [decide_eq_true h2,cond_true] at h;cases h
   . exact ⟨by omega,by omega⟩
theorem jP {c:Chg} (h:jN c=0):zN c:=by
 unfold jN fR2 at h
 by_cases h1:c.kind<1
 . rw [decide_eq_true h1,cond_true,cond_true] at h;cases h
 . rw [decide_eq_false h1,cond_false] at h
   by_cases h2:7<c.kind
   . rw [decide_eq_true h2,cond_true] at h;cases h
   . exact ⟨by omega,by omega⟩
theorem qQ.mapN {β γ:Type} {body:(γ->Prop)->γ->Prop} {g:γ} (N:Nat) (f:Nat->β) (S:Nat->List β->γ) (hg:g=S 0 [])
  (step: ∀(W:γ->Prop) (n:Nat),n<N-> ∀out:List β,out.length=n->W (S (n+1) (out++[f n]))->body W (S n out))
  (last: ∀W:γ->Prop,body W (S N ((List.range N).map f))):qQ body g:=by
 refine qQ.countTo N (fun n=>S n ((List.range n).map f)) (fun _=>True) hg (fun n hn _ W hW=> ?_) trivial
 by_cases hlt:n<N
 . refine step W n hlt _ (by simp) ?_
   have:=hW hlt trivial
   rwa [List.range_succ,List.map_append] at this
 . have:n=N:=by omega
   subst this
   exact last W
end Go.Proofs.YtbglndogddddoaaGreatDoor
namespace Go.Proofs.YtbglndogddddoaaGreatDoor
open Go.RowKit
attribute [local irreducible] qJ qh
set_option maxRecDepth 100000
def H95:List (Nat×Hint):=[]
def J95:List (Nat×Hint):=[]
abbrev S95:List Sh:=[.leaf]
abbrev L95:List Lf:=[.int .i64]
def F95 (g:prodL L95) (K:Kn):Prop:=
 K (.int .i64 (match wx .ment (.int .i64 g.1) (yO .ment (.int .i64 6) ((⟨6,6⟩:Ment):Ment) (yO .ment (.int .i64 4) ((⟨4,4⟩:Ment):Ment) (yO .ment (.int .i64 3) ((⟨3,3⟩:Ment):Ment) (yO .ment (.int .i64 2) ((⟨2,2⟩:Ment):Ment) ([]:List Ment)))))with | some x=>x.val | none=>0)) []
theorem F95_eq (g:prodL L95) (K X:Kn):F95 g K=qJ D (qk [] []) (qx []) H95 J95 7 [.tmp 2] (qz Tryz.f95) (argsT S95 L95 g) [] (settle0 K) X:=by kernel_rfl
theorem F95_ok (g:prodL L95) (K X:Kn) (h:F95 g K):FCalls Tryz.prog 95 (argsT S95 L95 g) [] K X:=
 FCalls.settle0 (qq qW (jx jv) qj rfl Tryz.func95 (c:=qz Tryz.f95) rfl Tryz.ntmps95 Tryz.results95 (by unfold qv;rw [Tryz.func95];kernel_rfl) (Nat.le_of_ble_eq_true (by kernel_rfl)) (c0:=0) (Eq.mp (F95_eq g K X) h))
def sp95:Sp:=⟨S95,L95,fun _=>True,fun g=> .int .i64 (overK g.1),fun _=>none⟩
theorem sp95_ok:sp95.Ok Tryz.prog 95 true:=
 ⟨fun g K X hp h=>F95_ok g K X h,fun _ _ _=>rfl,fun _=>rfl,by first | exact fun _ _=>⟨rfl,rfl⟩ | (intro h;cases h)⟩
def H89:List (Nat×Hint):=[]
def J89:List (Nat×Hint):=[]
abbrev S89:List Sh:=[.leaf]
abbrev L89:List Lf:=[.el .atm]
def F89 (g:prodL L89) (K:Kn):Prop:=
 K (.bool (decide (g.1.kind=1))) []
theorem F89_eq (g:prodL L89) (K X:Kn):F89 g K=qJ D (qk [] []) (qx []) H89 J89 6 [.tmp 2] (qz Tryz.f89) (argsT S89 L89 g) [] (settle0 K) X:=by kernel_rfl
theorem F89_ok (g:prodL L89) (K X:Kn) (h:F89 g K):FCalls Tryz.prog 89 (argsT S89 L89 g) [] K X:=
 FCalls.settle0 (qq qW (jx jv) qj rfl Tryz.func89 (c:=qz Tryz.f89) rfl Tryz.ntmps89 Tryz.results89 (by unfold qv;rw [Tryz.func89];kernel_rfl) (Nat.le_of_ble_eq_true (by kernel_rfl)) (c0:=0) (Eq.mp (F89_eq g K X) h))
def sp89:Sp:=⟨S89,L89,fun _=>True,fun g=> .bool (decide (g.1.kind=1)),fun _=>none⟩
theorem sp89_ok:sp89.Ok Tryz.prog 89 false:=
 ⟨fun g K X hp h=>F89_ok g K X h,fun _ _ _=>rfl,fun _=>rfl,by first | exact fun _ _=>⟨rfl,rfl⟩ | (intro h;cases h)⟩
def H90:List (Nat×Hint):=[]
def J90:List (Nat×Hint):=[]
abbrev S90:List Sh:=[.leaf]
abbrev L90:List Lf:=[.el .atm]
def F90 (g:prodL L90) (K:Kn):Prop:=
 bif decide (g.1.kind=1)then (
  bif decide (g.1.typ=2)then (
   K (.bool true) [])
  else (
   K (.bool (decide (g.1.typ=3))) []))
 else (
  K (.bool false) [])
theorem F90_eq (g:prodL L90) (K X:Kn):F90 g K=qJ D (qk [] []) (qx []) H90 J90 16 [.tmp 2] (qz Tryz.f90) (argsT S90 L90 g) [] (settle0 K) X:=by kernel_rfl
theorem F90_ok (g:prodL L90) (K X:Kn) (h:F90 g K):FCalls Tryz.prog 90 (argsT S90 L90 g) [] K X:=
 FCalls.settle0 (qq qW (jx jv) qj rfl Tryz.func90 (c:=qz Tryz.f90) rfl Tryz.ntmps90 Tryz.results90 (by unfold qv;rw [Tryz.func90];kernel_rfl) (Nat.le_of_ble_eq_true (by kernel_rfl)) (c0:=0) (Eq.mp (F90_eq g K X) h))
def sp90:Sp:=⟨S90,L90,fun _=>True,fun g=> .bool (fitDa g.1),fun _=>none⟩
theorem sp90_ok:sp90.Ok Tryz.prog 90 true:=
 ⟨fun g K X hp h=>F90_ok g K X (by
  have h:K (.bool (fitDa g.1)) []:=h
  revert h;unfold F90 fitDa;show (fun v=>K (.bool v) []) _->_
  repeat' (first | exact id | refine qH (K:=fun v=>K (.bool v) []) ?_ ?_ | (intro h;refine ⟨trivial, ?_⟩;revert h))),fun _ _ _=>rfl,fun _=>rfl,by first | exact fun _ _=>⟨rfl,rfl⟩ | (intro h;cases h)⟩
def H91:List (Nat×Hint):=[]
def J91:List (Nat×Hint):=[]
abbrev S91:List Sh:=[.leaf]
abbrev L91:List Lf:=[.el .atm]
def F91 (g:prodL L91) (K:Kn):Prop:=
 bif decide (g.1.kind=1)then (
  K (.bool (decide (g.1.typ=1))) [])
 else (
  K (.bool false) [])
theorem F91_eq (g:prodL L91) (K X:Kn):F91 g K=qJ D (qk [] []) (qx []) H91 J91 11 [.tmp 2] (qz Tryz.f91) (argsT S91 L91 g) [] (settle0 K) X:=by kernel_rfl
theorem F91_ok (g:prodL L91) (K X:Kn) (h:F91 g K):FCalls Tryz.prog 91 (argsT S91 L91 g) [] K X:=
 FCalls.settle0 (qq qW (jx jv) qj rfl Tryz.func91 (c:=qz Tryz.f91) rfl Tryz.ntmps91 Tryz.results91 (by unfold qv;rw [Tryz.func91];kernel_rfl) (Nat.le_of_ble_eq_true (by kernel_rfl)) (c0:=0) (Eq.mp (F91_eq g K X) h))
def sp91:Sp:=⟨S91,L91,fun _=>True,fun g=> .bool (fitTx g.1),fun _=>none⟩
theorem sp91_ok:sp91.Ok Tryz.prog 91 true:=
 ⟨fun g K X hp h=>F91_ok g K X (by
  have h:K (.bool (fitTx g.1)) []:=h
  revert h;unfold F91 fitTx;show (fun v=>K (.bool v) []) _->_
  repeat' (first | exact id | refine qH (K:=fun v=>K (.bool v) []) ?_ ?_ | (intro h;refine ⟨trivial, ?_⟩;revert h))),fun _ _ _=>rfl,fun _=>rfl,by first | exact fun _ _=>⟨rfl,rfl⟩ | (intro h;cases h)⟩
def H92:List (Nat×Hint):=[]
def J92:List (Nat×Hint):=[]
abbrev S92:List Sh:=[.leaf]
abbrev L92:List Lf:=[.el .atm]
def F92 (g:prodL L92) (K:Kn):Prop:=
 bif decide (g.1.kind=1)then (
  K (.bool (decide (g.1.typ=4))) [])
 else (
  K (.bool false) [])
theorem F92_eq (g:prodL L92) (K X:Kn):F92 g K=qJ D (qk [] []) (qx []) H92 J92 11 [.tmp 2] (qz Tryz.f92) (argsT S92 L92 g) [] (settle0 K) X:=by kernel_rfl
theorem F92_ok (g:prodL L92) (K X:Kn) (h:F92 g K):FCalls Tryz.prog 92 (argsT S92 L92 g) [] K X:=
 FCalls.settle0 (qq qW (jx jv) qj rfl Tryz.func92 (c:=qz Tryz.f92) rfl Tryz.ntmps92 Tryz.results92 (by unfold qv;rw [Tryz.func92];kernel_rfl) (Nat.le_of_ble_eq_true (by kernel_rfl)) (c0:=0) (Eq.mp (F92_eq g K X) h))
def sp92:Sp:=⟨S92,L92,fun _=>True,fun g=> .bool (fitDi g.1),fun _=>none⟩
theorem sp92_ok:sp92.Ok Tryz.prog 92 true:=
 ⟨fun g K X hp h=>F92_ok g K X (by
  have h:K (.bool (fitDi g.1)) []:=h
  revert h;unfold F92 fitDi;show (fun v=>K (.bool v) []) _->_
  repeat' (first | exact id | refine qH (K:=fun v=>K (.bool v) []) ?_ ?_ | (intro h;refine ⟨trivial, ?_⟩;revert h))),fun _ _ _=>rfl,fun _=>rfl,by first | exact fun _ _=>⟨rfl,rfl⟩ | (intro h;cases h)⟩
def H93:List (Nat×Hint):=[]
def J93:List (Nat×Hint):=[]
abbrev S93:List Sh:=[.leaf, .leaf]
abbrev L93:List Lf:=[.el .atm, .pr .chg]
def F93 (g:prodL L93) (K:Kn):Prop:=
 bif qs g.1.id g.2.1.file then (
  K (.bool true) [])
 else (
  bif decide (g.1.kind=5)then (
   K (.bool (qs g.1.file g.2.1.file)) [])
  else (
   K (.bool false) []))
theorem F93_eq (g:prodL L93) (K X:Kn):F93 g K=qJ D (qk [] []) (qx []) H93 J93 21 [.tmp 3] (qz Tryz.f93) (argsT S93 L93 g) [] (settle0 K) X:=by kernel_rfl
theorem F93_ok (g:prodL L93) (K X:Kn) (h:F93 g K):FCalls Tryz.prog 93 (argsT S93 L93 g) [] K X:=
 FCalls.settle0 (qq qW (jx jv) qj rfl Tryz.func93 (c:=qz Tryz.f93) rfl Tryz.ntmps93 Tryz.results93 (by unfold qv;rw [Tryz.func93];kernel_rfl) (Nat.le_of_ble_eq_true (by kernel_rfl)) (c0:=0) (Eq.mp (F93_eq g K X) h))
def sp93:Sp:=⟨S93,L93,fun _=>True,fun g=> .bool (WQ g.1 g.2.1),fun _=>none⟩
theorem sp93_ok:sp93.Ok Tryz.prog 93 true:=
 ⟨fun g K X hp h=>F93_ok g K X (by
  have h:K (.bool (WQ g.1 g.2.1)) []:=h
  revert h;unfold F93 WQ;show (fun v=>K (.bool v) []) _->_
  repeat' (first | exact id | refine qH (K:=fun v=>K (.bool v) []) ?_ ?_ | (intro h;refine ⟨trivial, ?_⟩;revert h))),fun _ _ _=>rfl,fun _=>rfl,by first | exact fun _ _=>⟨rfl,rfl⟩ | (intro h;cases h)⟩
def H94:List (Nat×Hint):=[]
def J94:List (Nat×Hint):=[]
abbrev S94:List Sh:=[.leaf, .leaf]
abbrev L94:List Lf:=[.el .atm, .pr .chg]
def F94 (g:prodL L94) (K:Kn):Prop:=
 bif decide (g.2.1.kind=7)then (
  K (.bool true) [])
 else (
  True/\
  bif decide (g.1.kind=overK g.2.1.kind)then (
   K (.bool (qs g.1.file g.2.1.file)) [])
  else (
   K (.bool false) []))
theorem F94_eq (g:prodL L94) (K X:Kn):F94 g K=qJ D (qk [] [(95,true,sp95)]) (qx []) H94 J94 22 [.tmp 3] (qz Tryz.f94) (argsT S94 L94 g) [] (settle0 K) X:=by kernel_rfl
theorem F94_ok (g:prodL L94) (K X:Kn) (h:F94 g K):FCalls Tryz.prog 94 (argsT S94 L94 g) [] K X:=
 FCalls.settle0 (qq (Γ:=qk [] [(95,true,sp95)]) (mu:=qx []) (H:=H94) (J:=J94) qW (qX (rs:=[]) (l:=[(95,true,sp95)]) (fun p hp=>by cases hp) (by intro p hp;simp only [List.mem_cons,List.not_mem_nil,or_false] at hp;subst hp;exact sp95_ok)) qj rfl Tryz.func94 (c:=qz Tryz.f94) rfl Tryz.ntmps94 Tryz.results94 (by unfold qv;rw [Tryz.func94];kernel_rfl) (Nat.le_of_ble_eq_true (by kernel_rfl)) (c0:=0) (Eq.mp (F94_eq g K X) h))
def sp94:Sp:=⟨S94,L94,fun _=>True,fun g=> .bool (We g.1 g.2.1),fun _=>none⟩
theorem sp94_ok:sp94.Ok Tryz.prog 94 true:=
 ⟨fun g K X hp h=>F94_ok g K X (by
  have h:K (.bool (We g.1 g.2.1)) []:=h
  revert h;unfold F94 We;show (fun v=>K (.bool v) []) _->_
  repeat' (first | exact id | refine qH (K:=fun v=>K (.bool v) []) ?_ ?_ | (intro h;refine ⟨trivial, ?_⟩;revert h))),fun _ _ _=>rfl,fun _=>rfl,by first | exact fun _ _=>⟨rfl,rfl⟩ | (intro h;cases h)⟩
def H88:List (Nat×Hint):=[]
def J88:List (Nat×Hint):=[]
abbrev S88:List Sh:=[.leaf, .leaf, .pt 0 0]
abbrev L88:List Lf:=[.el .idk, .fd, .sl .ref]
abbrev O88:List ObSh:=[.cells [.oa .ref 1], .arr .ref]
def F88 (g:prodL L88) (K:Kn):Prop:=
 qn (g.2.2.1.length+[(⟨g.1,g.2.1⟩:Rfn)].length) 48 (
 K (.tu []) [some (.cells [.oa .ref 1 0]),some (.arr 0 .ref (g.2.2.1++[(⟨g.1,g.2.1⟩:Rfn)]))])
theorem F88_eq (g:prodL L88) (K X:Kn):F88 g K=qJ D (qk [] []) (qx []) H88 J88 11 [] (qz Tryz.f88) (argsT S88 L88 g) (qe S88 O88 L88 g) (settleD (qe S88 O88 L88 g).length 0 K) X 0:=by kernel_rfl
theorem F88_ok (g:prodL L88) (K X:Kn) (h:F88 g K):FCalls Tryz.prog 88 (argsT S88 L88 g) (qe S88 O88 L88 g) K X 0:=
 FCalls.settleD (qq (Γ:=qk [] []) (mu:=qx []) (H:=H88) (J:=J88) qW (jx jv) qj rfl Tryz.func88 (c:=qz Tryz.f88) rfl Tryz.ntmps88 (rs:=[]) Tryz.results88 (by unfold qv;rw [Tryz.func88];kernel_rfl) (Nat.le_of_ble_eq_true (by kernel_rfl)) (X:=X) (c0:=0) (Eq.mp (F88_eq g K X) h))
def rw88:Raw:=⟨S88,O88,L88,0,fun g K _=>F88 g K⟩
theorem rw88_ok:rw88.Ok Tryz.prog 88:=fun g K X h=>F88_ok g K X h
def H88n:List (Nat×Hint):=[]
def J88n:List (Nat×Hint):=[]
abbrev S88n:List Sh:=[.leaf, .leaf, .pt 0 0]
abbrev qzz:List Lf:=[.el .idk, .fd]
abbrev O88n:List ObSh:=[.cells [.nil]]
def F88n (g:prodL qzz) (K:Kn):Prop:=
 qn ([(⟨g.1,g.2.1⟩:Rfn)].length) 48 (
 K (.tu []) [some (.cells [.oa .ref 1 0]),some (.arr 0 .ref [(⟨g.1,g.2.1⟩:Rfn)])])
theorem F88n_eq (g:prodL qzz) (K X:Kn):F88n g K=qJ D (qk [] []) (qx []) H88n J88n 11 [] (qz Tryz.f88) (argsT S88n qzz g) (qe S88n O88n qzz g) (settleD (qe S88n O88n qzz g).length 0 K) X 0:=by kernel_rfl
theorem F88n_ok (g:prodL qzz) (K X:Kn) (h:F88n g K):FCalls Tryz.prog 88 (argsT S88n qzz g) (qe S88n O88n qzz g) K X 0:=
 FCalls.settleD (qq (Γ:=qk [] []) (mu:=qx []) (H:=H88n) (J:=J88n) qW (jx jv) qj rfl Tryz.func88 (c:=qz Tryz.f88) rfl Tryz.ntmps88 (rs:=[]) Tryz.results88 (by unfold qv;rw [Tryz.func88];kernel_rfl) (Nat.le_of_ble_eq_true (by kernel_rfl)) (X:=X) (c0:=0) (Eq.mp (F88n_eq g K X) h))
def Kd:Raw:=⟨S88n,O88n,qzz,0,fun g K _=>F88n g K⟩
theorem rw88n_ok:Kd.Ok Tryz.prog 88:=fun g K X h=>F88n_ok g K X h
def H43:List (Nat×Hint):=[]
def J43:List (Nat×Hint):=[]
abbrev S43:List Sh:=[.leaf, .leaf]
abbrev L43:List Lf:=[.el .chg, .int .i64]
def F43 (g:prodL L43) (K:Kn):Prop:=
 K (.fn 84 [] [.pr .i64 g.2.1 0, .pr .chg g.1 0]) []
theorem F43_eq (g:prodL L43) (K X:Kn):F43 g K=qJ D (qk [] []) (qx []) H43 J43 6 [.tmp 4] (qz Tryz.f43) (argsT S43 L43 g) [] (settle0 K) X:=by kernel_rfl
theorem F43_ok (g:prodL L43) (K X:Kn) (h:F43 g K):FCalls Tryz.prog 43 (argsT S43 L43 g) [] K X:=
 FCalls.settle0 (qq qW (jx jv) qj rfl Tryz.func43 (c:=qz Tryz.f43) rfl Tryz.ntmps43 Tryz.results43 (by unfold qv;rw [Tryz.func43];kernel_rfl) (Nat.le_of_ble_eq_true (by kernel_rfl)) (c0:=0) (Eq.mp (F43_eq g K X) h))
def sp43:Sp:=⟨S43,L43,fun _=>True,fun g=> .fn 84 [] [.pr .i64 g.2.1 0, .pr .chg g.1 0],fun _=>none⟩
theorem sp43_ok:sp43.Ok Tryz.prog 43 false:=
 ⟨fun g K X hp h=>F43_ok g K X (by
  have h:K (.fn 84 [] [.pr .i64 g.2.1 0, .pr .chg g.1 0]) []:=h
  exact h),fun _ _ _=>rfl,fun _=>rfl,by first | exact fun _ _=>⟨rfl,rfl⟩ | (intro h;cases h)⟩
def H85:List (Nat×Hint):=[]
def J85:List (Nat×Hint):=[]
abbrev S85:List Sh:=[.leaf, .leaf]
abbrev L85:List Lf:=[.int .i64, .pr .i64]
def F85 (g:prodL L85) (K:Kn):Prop:=
 K (.ag (enc .idk (⟨dz,IntKind.i64.wrap (g.2.1+g.1)⟩:Idn))) []
theorem F85_eq (g:prodL L85) (K X:Kn):F85 g K=qJ D (qk [] []) (qx []) H85 J85 8 [.cell 3 36] (qz Tryz.f85) (argsT S85 L85 g) [] (settle0 K) X:=by kernel_rfl
theorem F85_ok (g:prodL L85) (K X:Kn) (h:F85 g K):FCalls Tryz.prog 85 (argsT S85 L85 g) [] K X:=
 FCalls.settle0 (qq qW (jx jv) qj rfl Tryz.func85 (c:=qz Tryz.f85) rfl Tryz.ntmps85 Tryz.results85 (by unfold qv;rw [Tryz.func85];kernel_rfl) (Nat.le_of_ble_eq_true (by kernel_rfl)) (c0:=0) (Eq.mp (F85_eq g K X) h))
def sp85:Sp:=⟨S85,L85,fun _=>True,fun g=> .ag (enc .idk (⟨dz,IntKind.i64.wrap (g.2.1+g.1)⟩:Idn)),fun _=>none⟩
theorem sp85_ok:sp85.Ok Tryz.prog 85 false:=
 ⟨fun g K X hp h=>F85_ok g K X (by
  have h:K (.ag (enc .idk (⟨dz,IntKind.i64.wrap (g.2.1+g.1)⟩:Idn))) []:=h
  exact h),fun _ _ _=>rfl,fun _=>rfl,by first | exact fun _ _=>⟨rfl,rfl⟩ | (intro h;cases h)⟩
def H1036016:List (Nat×Hint):=[]
def J1036016:List (Nat×Hint):=[]
abbrev ws:List Sh:=[.leaf, .pt 0 0]
abbrev xQ:List Lf:=[.el .atm, .sl .atm]
abbrev Zo:List ObSh:=[.cells [.oa .atm 1], .arr .atm]
def Vt (g:prodL xQ) (K:Kn):Prop:=
 qn (g.2.1.length+[g.1].length) 296 (
 K (.bool true) [some (.cells [.oa .atm 1 0]),some (.arr 0 .atm (g.2.1++[g.1]))])
theorem F1036016_eq (g:prodL xQ) (K:Kn):Vt g K=qh D (qk [] []) (qx []) H1036016 J1036016 (Qb Tryz.prog 1036016) [6] (argsT ws xQ g) (qe ws Zo xQ g) (settleD (qe ws Zo xQ g).length 0 K) 0:=by kernel_rfl
theorem F1036016_ok (g:prodL xQ) (K X:Kn) (h:Vt g K):FCalls Tryz.prog 1036016 (argsT ws xQ g) (qe ws Zo xQ g) K X 0:=
 FCalls.settleD (JS (Γ:=qk [] []) (mu:=qx []) (H:=H1036016) (J:=J1036016) qW (jx jv) qj rfl (yi:=⟨36,16,[6]⟩) rfl (by kernel_rfl) (by kernel_rfl) (by kernel_rfl) (by rw [F1036016_eq g K] at h;exact h))
def va:Raw:=⟨ws,Zo,xQ,0,fun g K _=>Vt g K⟩
theorem qqf:va.Ok Tryz.prog 1036016:=fun g K X h=>F1036016_ok g K X h
def H1023008:List (Nat×Hint):=[]
def J1023008:List (Nat×Hint):=[]
abbrev w0:List Sh:=[.leaf, .pt 0 0]
abbrev xZ:List Lf:=[.el .atm, .int .i64]
abbrev ZI:List ObSh:=[.cells [.leaf]]
def Ym (g:prodL xZ) (K:Kn):Prop:=
 K (.bool true) [some (.cells [.int .i64 (IntKind.i64.wrap (g.2.1+1))])]
theorem F1023008_eq (g:prodL xZ) (K:Kn):Ym g K=qh D (qk [] []) (qx []) H1023008 J1023008 (Qb Tryz.prog 1023008) [5] (argsT w0 xZ g) (qe w0 ZI xZ g) (settleD (qe w0 ZI xZ g).length 0 K) 0:=by kernel_rfl
theorem F1023008_ok (g:prodL xZ) (K X:Kn) (h:Ym g K):FCalls Tryz.prog 1023008 (argsT w0 xZ g) (qe w0 ZI xZ g) K X 0:=
 FCalls.settleD (JS (Γ:=qk [] []) (mu:=qx []) (H:=H1023008) (J:=J1023008) qW (jx jv) qj rfl (yi:=⟨23,8,[5]⟩) rfl (by kernel_rfl) (by kernel_rfl) (by kernel_rfl) (by rw [F1023008_eq g K] at h;exact h))
def vi:Raw:=⟨w0,ZI,xZ,0,fun g K _=>Ym g K⟩
theorem rw1023008_ok:vi.Ok Tryz.prog 1023008:=fun g K X h=>F1023008_ok g K X h
set_option maxRecDepth 100000
def H46:List (Nat×Hint):=[(19,⟨[((3,[]),none),((3,[0]),none)],[(1, .leaf),(3, .pt 0 0),(4, .fn 88 [] [.pt 0 0]),(64, .leaf),(65, .leaf),(66, .leaf)],[.cells [.oa .ref 1], .arr .ref],[.pr .chg, .sl .idk, .int .i64, .int .i64, .sl .ref]⟩)]
def J46:List (Nat×Hint):=[(1,⟨[],[(1, .leaf)],[],[.pr .chg]⟩),(6,⟨[((3,[]),none)],[(1, .leaf),(3, .pt 0 0),(4, .fn 88 [] [.pt 0 0]),(10, .leaf),(11, .leaf)],[.cells [.nil]],[.pr .chg, .int .i64, .bool]⟩),(11,⟨[((3,[]),none)],[(1, .leaf),(3, .pt 0 0),(4, .fn 88 [] [.pt 0 0]),(24, .leaf)],[.cells [.nil]],[.pr .chg, .bool]⟩),(12,⟨[((3,[]),none),((3,[0]),some .ref)],[(1, .leaf),(3, .pt 0 0),(4, .fn 88 [] [.pt 0 0])],[.cells [.oa .ref 1], .arr .ref],[.pr .chg, .sl .ref]⟩),(13,⟨[((3,[]),none),((3,[0]),none)],[(1, .leaf),(3, .pt 0 0),(4, .fn 88 [] [.pt 0 0]),(39, .leaf)],[.cells [.oa .ref 1], .arr .ref],[.pr .chg, .bool, .sl .ref]⟩),(14,⟨[((3,[]),none),((3,[0]),none)],[(1, .leaf),(3, .pt 0 0),(4, .fn 88 [] [.pt 0 0])],[.cells [.oa .ref 1], .arr .ref],[.pr .chg, .sl .ref]⟩),(15,⟨[((3,[]),none),((3,[0]),none)],[(1, .leaf),(3, .pt 0 0),(4, .fn 88 [] [.pt 0 0]),(51, .leaf)],[.cells [.oa .ref 1], .arr .ref],[.pr .chg, .bool, .sl .ref]⟩),(18,⟨[((3,[]),none),((3,[0]),none)],[(1, .leaf),(3, .pt 0 0),(4, .fn 88 [] [.pt 0 0])],[.cells [.oa .ref 1], .arr .ref],[.pr .chg, .sl .ref]⟩)]
abbrev S46:List Sh:=[.leaf]
abbrev L46:List Lf:=[.el .chg]
def ZT (K:Kn) (W20:prodL [.pr .chg, .sl .idk, .int .i64, .int .i64, .sl .ref]->Prop) (c_19:Chg) (t_19:List Idn) (t2_19 t3_19:Int) (out_19:List Rfn):Prop:=
 bif decide (t3_19<t2_19)then (
  At t_19 t3_19 fun u21=>
 let g22:prodL [.el .idk, .fd, .sl .ref]:=(u21,Fd.sup c_19,out_19,());
 qn (g22.2.2.1.length+[(⟨g22.1,g22.2.1⟩:Rfn)].length) 48 (
 W20 (c_19,t_19,t2_19,IntKind.i64.wrap (t3_19+1),g22.2.2.1++[(⟨g22.1,g22.2.1⟩:Rfn)],())))
 else (
  K (.sl false .ref out_19) [])
def F46_L20 (K:Kn) (g:prodL [.pr .chg, .sl .idk, .int .i64, .int .i64, .sl .ref]):Prop:=
 qQ (γ:=prodL [.pr .chg, .sl .idk, .int .i64, .int .i64, .sl .ref]) (fun V y=>ZT K V y.1 y.2.1 y.2.2.1 y.2.2.2.1 y.2.2.2.2.1) g
def X1 (K:Kn) (c_18:Chg) (out_18:List Rfn):Prop:=
 F46_L20 K (c_18,c_18.over,(c_18.over.length:Int),0,out_18,())
def Zk (K:Kn) (c_14:Chg) (t_14:Bool) (out_14:List Rfn):Prop:=
 bif t_14 then (
  let g15:prodL [.el .idk, .fd, .sl .ref]:=(c_14.after,Fd.fin c_14,out_14,());
  qn (g15.2.2.1.length+[(⟨g15.1,g15.2.1⟩:Rfn)].length) 48 (
  let g16:prodL [.el .idk, .fd, .sl .ref]:=(c_14.before,Fd.fin c_14,g15.2.2.1++[(⟨g15.1,g15.2.1⟩:Rfn)],());
  qn (g16.2.2.1.length+[(⟨g16.1,g16.2.1⟩:Rfn)].length) 48 (
  X1 K c_14 (g16.2.2.1++[(⟨g16.1,g16.2.1⟩:Rfn)]))))
 else (
  X1 K c_14 out_14)
def qqb (K:Kn) (c_13:Chg) (out_13:List Rfn):Prop:=
 bif decide (c_13.kind=5)then (
  Zk K c_13 true out_13)
 else (
  Zk K c_13 (decide (c_13.kind=6)) out_13)
def Vj (K:Kn) (c_10:Chg) (t_10:Bool) (out_10:List Rfn):Prop:=
 bif t_10 then (
  let g11:prodL [.el .idk, .fd, .sl .ref]:=(c_10.parent,Fd.dir,out_10,());
  qn (g11.2.2.1.length+[(⟨g11.1,g11.2.1⟩:Rfn)].length) 48 (
  qqb K c_10 (g11.2.2.1++[(⟨g11.1,g11.2.1⟩:Rfn)])))
 else (
  qqb K c_10 out_10)
def kP (K:Kn) (c_9:Chg) (out_9:List Rfn):Prop:=
 bif decide (c_9.kind=2)then (
  True/\
  Vj K c_9 (!(qs c_9.parent (⟨dz, -1⟩:Idn))) out_9)
 else (
  Vj K c_9 false out_9)
def WI (K:Kn) (c_5:Chg) (t_5:Bool):Prop:=
 bif t_5 then (
    let g6:prodL [.el .idk, .fd]:=(c_5.file,Fd.txt,());
    qn ([(⟨g6.1,g6.2.1⟩:Rfn)].length) 48 (
    kP K c_5 [(⟨g6.1,g6.2.1⟩:Rfn)]))
   else (
    kP K c_5 [])
def WH (K:Kn) (c_2:Chg) (t_2:Int) (t2_2:Bool):Prop:=
 bif t2_2 then (
  let g3:prodL [.el .idk, .fd]:=(c_2.file,Fd.file,());
  qn ([(⟨g3.1,g3.2.1⟩:Rfn)].length) 48 (
  kP K c_2 [(⟨g3.1,g3.2.1⟩:Rfn)]))
 else (
  bif decide (t_2=4)then (
   let g4:prodL [.el .idk, .fd]:=(c_2.file,Fd.data,());
   qn ([(⟨g4.1,g4.2.1⟩:Rfn)].length) 48 (
   kP K c_2 [(⟨g4.1,g4.2.1⟩:Rfn)]))
  else (
   bif decide (t_2=5)then (
    WI K c_2 true)
   else (
    WI K c_2 (decide (t_2=6)))))
def F46_J26 (K:Kn) (c_1:Chg):Prop:=
 bif decide (c_1.kind=2)then (
  WH K c_1 c_1.kind true)
 else (
  WH K c_1 c_1.kind (decide (c_1.kind=3)))
def F46 (g:prodL L46) (K:Kn):Prop:=
 F46_J26 K g.1
theorem F46_eq (g:prodL L46) (K X:Kn):F46 g K=qJ D (qk [(88,rw88),(88,Kd)] [(28,false,sp28)]) (qx [(88,rw88),(88,Kd)]) H46 J46 76 [.tmp 2] (qz Tryz.f46) (argsT S46 L46 g) [] (settle0 K) X:=by kernel_rfl
theorem F46_ok (g:prodL L46) (K X:Kn) (h:F46 g K):FCalls Tryz.prog 46 (argsT S46 L46 g) [] K X:=
 FCalls.settle0 (qq (Γ:=qk [(88,rw88),(88,Kd)] [(28,false,sp28)]) (mu:=qx [(88,rw88),(88,Kd)]) (H:=H46) (J:=J46) qW (qX (rs:=[(88,rw88),(88,Kd)]) (l:=[(28,false,sp28)]) (by intro p hp;simp only [List.mem_cons,List.not_mem_nil,or_false] at hp;rcases hp with rfl | rfl<;>first | exact rw88_ok | exact rw88n_ok) (by intro p hp;simp only [List.mem_cons,List.not_mem_nil,or_false] at hp;subst hp;exact qqm)) qj rfl Tryz.func46 (c:=qz Tryz.f46) rfl Tryz.ntmps46 Tryz.results46 (by unfold qv;rw [Tryz.func46];kernel_rfl) (Nat.le_of_ble_eq_true (by kernel_rfl)) (c0:=0) (Eq.mp (F46_eq g K X) h))
def H84:List (Nat×Hint):=[(16,⟨[],[(0, .fn 1036016 [] [.pt 0 0]),(2, .leaf),(4, .fn 85 [] [.leaf]),(93, .leaf),(94, .leaf),(95, .leaf)],[.cells [.oa .atm 1], .arr .atm],[.pr .chg, .pr .i64, .sl .str, .int .i64, .int .i64, .sl .atm]⟩),(23,⟨[((8,[]),none)],[(0, .fn 1036016 [] [.pt 0 0]),(2, .leaf),(4, .fn 85 [] [.leaf]),(7, .leaf),(8, .pt 2 0),(117, .leaf),(118, .leaf)],[.cells [.oa .atm 1], .arr .atm, .el],[.pr .chg, .pr .i64, .int .i64, .int .i64, .int .i64, .sl .atm, .el .idk]⟩)]
def J84:List (Nat×Hint):=[(28,⟨[((8,[]),none),((10,[]),none)],[(0, .fn 1036016 [] [.pt 0 0]),(2, .leaf),(4, .fn 85 [] [.leaf]),(7, .leaf),(8, .pt 2 0),(9, .leaf),(10, .pt 3 0),(117, .leaf),(118, .leaf)],[.cells [.oa .atm 1], .arr .atm, .el, .el],[.pr .chg, .pr .i64, .int .i64, .int .i64, .int .i64, .int .i64, .sl .atm, .el .idk, .el .idk]⟩)]
abbrev S84:List Sh:=[.fn 1036016 [] [.pt 0 0], .leaf, .leaf]
abbrev L84:List Lf:=[.pr .i64, .pr .chg, .sl .atm]
abbrev O84:List ObSh:=[.cells [.oa .atm 1], .arr .atm]
def X4 (K:Kn) (W12:prodL [.pr .chg, .pr .i64, .int .i64, .int .i64, .int .i64, .sl .atm, .el .idk]->Prop) (t_13:Chg) (id_13 k_13 i_13 t2_13 t3_13:Int) (o1_13:List Atm) (from_13 to_13:Idn):Prop:=
 True/\
        let g14:prodL [.el .atm, .sl .atm]:=((⟨(⟨dz,IntKind.i64.wrap (id_13+(IntKind.i64.wrap (k_13+i_13)))⟩:Idn),6,t_13.file,0,iz,(⟨#[]⟩:ByteArray),0,(⟨#[]⟩:ByteArray),(⟨#[]⟩:ByteArray),from_13,to_13,[]⟩:Atm),o1_13,());
        qn (g14.2.1.length+[g14.1].length) 296 (
        W12 (t_13,id_13,k_13,t2_13,IntKind.i64.wrap (t3_13+1),g14.2.1++[g14.1],to_13,()))
def JQ (K:Kn) (W12:prodL [.pr .chg, .pr .i64, .int .i64, .int .i64, .int .i64, .sl .atm, .el .idk]->Prop) (t_11:Chg) (id_11 k_11 t2_11 t3_11:Int) (o1_11:List Atm) (from_11:Idn):Prop:=
 bif decide (t3_11<t2_11)then (
         bif decide (t3_11<k_11)then (
         True/\
         X4 K W12 t_11 id_11 k_11 t3_11 t2_11 t3_11 o1_11 from_11 (⟨dz,IntKind.i64.wrap (id_11+t3_11)⟩:Idn))
        else (
         X4 K W12 t_11 id_11 k_11 t3_11 t2_11 t3_11 o1_11 from_11 t_11.before))
        else (
         K (.tu []) [some (.cells [.oa .atm 1 0]),some (.arr 0 .atm o1_11)])
def F84_L12 (K:Kn) (g:prodL [.pr .chg, .pr .i64, .int .i64, .int .i64, .int .i64, .sl .atm, .el .idk]):Prop:=
 qQ (γ:=prodL [.pr .chg, .pr .i64, .int .i64, .int .i64, .int .i64, .sl .atm, .el .idk]) (fun V y=>JQ K V y.1 y.2.1 y.2.2.1 y.2.2.2.1 y.2.2.2.2.1 y.2.2.2.2.2.1 y.2.2.2.2.2.2.1) g
def V4 (K:Kn) (W8:prodL [.pr .chg, .pr .i64, .sl .str, .int .i64, .int .i64, .sl .atm]->Prop) (t_7:Chg) (id_7:Int) (t2_7:List ByteArray) (t3_7 t4_7:Int) (o1_7:List Atm):Prop:=
 bif decide (t4_7<t3_7)then (
         At t2_7 t4_7 fun u9=>
        True/\
        let g10:prodL [.el .atm, .sl .atm]:=((⟨(⟨dz,IntKind.i64.wrap (id_7+t4_7)⟩:Idn),5,t_7.file,0,iz,(⟨#[]⟩:ByteArray),0,(⟨#[]⟩:ByteArray),u9,iz,iz,[]⟩:Atm),o1_7,());
        qn (g10.2.1.length+[g10.1].length) 296 (
        W8 (t_7,id_7,t2_7,t3_7,IntKind.i64.wrap (t4_7+1),g10.2.1++[g10.1],())))
        else (
         F84_L12 K (t_7,id_7,(t_7.lines.length:Int),IntKind.i64.wrap ((t_7.lines.length:Int)+1),0,o1_7,t_7.after,()))
def F84_L8 (K:Kn) (g:prodL [.pr .chg, .pr .i64, .sl .str, .int .i64, .int .i64, .sl .atm]):Prop:=
 qQ (γ:=prodL [.pr .chg, .pr .i64, .sl .str, .int .i64, .int .i64, .sl .atm]) (fun V y=>V4 K V y.1 y.2.1 y.2.2.1 y.2.2.2.1 y.2.2.2.2.1 y.2.2.2.2.2.1) g
def F84 (g:prodL L84) (K:Kn):Prop:=
 bif decide (g.2.1.kind=1)then (
  True/\
  True/\
  let g1:prodL [.el .atm, .sl .atm]:=((⟨(⟨dz,IntKind.i64.wrap (g.1+0)⟩:Idn),1,(⟨dz,IntKind.i64.wrap (g.1+0)⟩:Idn),g.2.1.typ,iz,(⟨#[]⟩:ByteArray),0,(⟨#[]⟩:ByteArray),(⟨#[]⟩:ByteArray),iz,iz,[]⟩:Atm),g.2.2.1,());
  qn (g1.2.1.length+[g1.1].length) 296 (
  K (.tu []) [some (.cells [.oa .atm 1 0]),some (.arr 0 .atm (g1.2.1++[g1.1]))]))
 else (
  bif decide (g.2.1.kind=2)then (
   True/\
   let g2:prodL [.el .atm, .sl .atm]:=((⟨(⟨dz,IntKind.i64.wrap (g.1+0)⟩:Idn),2,g.2.1.file,0,g.2.1.parent,g.2.1.name,0,(⟨#[]⟩:ByteArray),(⟨#[]⟩:ByteArray),iz,iz,g.2.1.over⟩:Atm),g.2.2.1,());
   qn (g2.2.1.length+[g2.1].length) 296 (
   K (.tu []) [some (.cells [.oa .atm 1 0]),some (.arr 0 .atm (g2.2.1++[g2.1]))]))
  else (
   bif decide (g.2.1.kind=3)then (
    True/\
    let g3:prodL [.el .atm, .sl .atm]:=((⟨(⟨dz,IntKind.i64.wrap (g.1+0)⟩:Idn),3,g.2.1.file,0,iz,(⟨#[]⟩:ByteArray),g.2.1.mode,(⟨#[]⟩:ByteArray),(⟨#[]⟩:ByteArray),iz,iz,g.2.1.over⟩:Atm),g.2.2.1,());
    qn (g3.2.1.length+[g3.1].length) 296 (
    K (.tu []) [some (.cells [.oa .atm 1 0]),some (.arr 0 .atm (g3.2.1++[g3.1]))]))
   else (
    bif decide (g.2.1.kind=4)then (
     True/\
     let g4:prodL [.el .atm, .sl .atm]:=((⟨(⟨dz,IntKind.i64.wrap (g.1+0)⟩:Idn),4,g.2.1.file,0,iz,(⟨#[]⟩:ByteArray),0,g.2.1.data,(⟨#[]⟩:ByteArray),iz,iz,g.2.1.over⟩:Atm),g.2.2.1,());
     qn (g4.2.1.length+[g4.1].length) 296 (
     K (.tu []) [some (.cells [.oa .atm 1 0]),some (.arr 0 .atm (g4.2.1++[g4.1]))]))
    else (
     bif decide (g.2.1.kind=6)then (
      True/\
      let g5:prodL [.el .atm, .sl .atm]:=((⟨(⟨dz,IntKind.i64.wrap (g.1+0)⟩:Idn),6,g.2.1.file,0,iz,(⟨#[]⟩:ByteArray),0,(⟨#[]⟩:ByteArray),(⟨#[]⟩:ByteArray),g.2.1.after,g.2.1.before,g.2.1.over⟩:Atm),g.2.2.1,());
      qn (g5.2.1.length+[g5.1].length) 296 (
      K (.tu []) [some (.cells [.oa .atm 1 0]),some (.arr 0 .atm (g5.2.1++[g5.1]))]))
     else (
      bif decide (g.2.1.kind=7)then (
       True/\
       let g6:prodL [.el .atm, .sl .atm]:=((⟨(⟨dz,IntKind.i64.wrap (g.1+0)⟩:Idn),7,iz,0,iz,(⟨#[]⟩:ByteArray),0,(⟨#[]⟩:ByteArray),(⟨#[]⟩:ByteArray),iz,iz,g.2.1.over⟩:Atm),g.2.2.1,());
       qn (g6.2.1.length+[g6.1].length) 296 (
       K (.tu []) [some (.cells [.oa .atm 1 0]),some (.arr 0 .atm (g6.2.1++[g6.1]))]))
      else (
       bif decide (g.2.1.kind=5)then (
        F84_L8 K (g.2.1,g.1,g.2.1.lines,(g.2.1.lines.length:Int),0,g.2.2.1,()))
       else (
        K (.tu []) [some (.cells [.oa .atm 1 0]),some (.arr 0 .atm g.2.2.1)])))))))
theorem F84_eq (g:prodL L84) (K X:Kn):F84 g K=qJ D (qk [(1036016,va)] [(85,false,sp85)]) (qx [(1036016,va)]) H84 J84 144 [] (qz Tryz.f84) (argsT S84 L84 g) (qe S84 O84 L84 g) (settleD (qe S84 O84 L84 g).length 0 K) X 0:=by kernel_rfl
theorem F84_ok (g:prodL L84) (K X:Kn) (h:F84 g K):FCalls Tryz.prog 84 (argsT S84 L84 g) (qe S84 O84 L84 g) K X 0:=
 FCalls.settleD (qq (Γ:=qk [(1036016,va)] [(85,false,sp85)]) (mu:=qx [(1036016,va)]) (H:=H84) (J:=J84) qW (qX (rs:=[(1036016,va)]) (l:=[(85,false,sp85)]) (by intro p hp;simp only [List.mem_cons,List.not_mem_nil,or_false] at hp;subst hp;exact qqf) (by intro p hp;simp only [List.mem_cons,List.not_mem_nil,or_false] at hp;subst hp;exact sp85_ok)) qj rfl Tryz.func84 (c:=qz Tryz.f84) rfl Tryz.ntmps84 (rs:=[]) Tryz.results84 (by unfold qv;rw [Tryz.func84];kernel_rfl) (Nat.le_of_ble_eq_true (by kernel_rfl)) (X:=X) (c0:=0) (Eq.mp (F84_eq g K X) h))
def H84b:List (Nat×Hint):=[(16,⟨[],[(0, .fn 1023008 [] [.pt 0 0]),(2, .leaf),(4, .fn 85 [] [.leaf]),(93, .leaf),(94, .leaf),(95, .leaf)],[.cells [.leaf]],[.pr .chg, .pr .i64, .sl .str, .int .i64, .int .i64, .int .i64]⟩),(23,⟨[((8,[]),none)],[(0, .fn 1023008 [] [.pt 0 0]),(2, .leaf),(4, .fn 85 [] [.leaf]),(7, .leaf),(8, .pt 1 0),(117, .leaf),(118, .leaf)],[.cells [.leaf], .el],[.pr .chg, .pr .i64, .int .i64, .int .i64, .int .i64, .int .i64, .el .idk]⟩)]
def J84b:List (Nat×Hint):=[(28,⟨[((8,[]),none),((10,[]),none)],[(0, .fn 1023008 [] [.pt 0 0]),(2, .leaf),(4, .fn 85 [] [.leaf]),(7, .leaf),(8, .pt 1 0),(9, .leaf),(10, .pt 2 0),(117, .leaf),(118, .leaf)],[.cells [.leaf], .el, .el],[.pr .chg, .pr .i64, .int .i64, .int .i64, .int .i64, .int .i64, .int .i64, .el .idk, .el .idk]⟩)]
abbrev S84b:List Sh:=[.fn 1023008 [] [.pt 0 0], .leaf, .leaf]
abbrev qzq:List Lf:=[.pr .i64, .pr .chg, .int .i64]
abbrev O84b:List ObSh:=[.cells [.leaf]]
def Zr (K:Kn) (W12:prodL [.pr .chg, .pr .i64, .int .i64, .int .i64, .int .i64, .int .i64, .el .idk]->Prop) (t_13:Chg) (id_13 k_13 i_13 t2_13 t3_13 o0_13:Int) (from_13 to_13:Idn):Prop:=
 True/\
        let g14:prodL [.el .atm, .int .i64]:=((⟨(⟨dz,IntKind.i64.wrap (id_13+(IntKind.i64.wrap (k_13+i_13)))⟩:Idn),6,t_13.file,0,iz,(⟨#[]⟩:ByteArray),0,(⟨#[]⟩:ByteArray),(⟨#[]⟩:ByteArray),from_13,to_13,[]⟩:Atm),o0_13,());
        W12 (t_13,id_13,k_13,t2_13,IntKind.i64.wrap (t3_13+1),IntKind.i64.wrap (g14.2.1+1),to_13,())
def Yb (K:Kn) (W12:prodL [.pr .chg, .pr .i64, .int .i64, .int .i64, .int .i64, .int .i64, .el .idk]->Prop) (t_11:Chg) (id_11 k_11 t2_11 t3_11 o0_11:Int) (from_11:Idn):Prop:=
 bif decide (t3_11<t2_11)then (
         bif decide (t3_11<k_11)then (
         True/\
         Zr K W12 t_11 id_11 k_11 t3_11 t2_11 t3_11 o0_11 from_11 (⟨dz,IntKind.i64.wrap (id_11+t3_11)⟩:Idn))
        else (
         Zr K W12 t_11 id_11 k_11 t3_11 t2_11 t3_11 o0_11 from_11 t_11.before))
        else (
         K (.tu []) [some (.cells [.int .i64 o0_11])])
def F84b_L12 (K:Kn) (g:prodL [.pr .chg, .pr .i64, .int .i64, .int .i64, .int .i64, .int .i64, .el .idk]):Prop:=
 qQ (γ:=prodL [.pr .chg, .pr .i64, .int .i64, .int .i64, .int .i64, .int .i64, .el .idk]) (fun V y=>Yb K V y.1 y.2.1 y.2.2.1 y.2.2.2.1 y.2.2.2.2.1 y.2.2.2.2.2.1 y.2.2.2.2.2.2.1) g
def F84b_B8 (K:Kn) (W8:prodL [.pr .chg, .pr .i64, .sl .str, .int .i64, .int .i64, .int .i64]->Prop) (t_7:Chg) (id_7:Int) (t2_7:List ByteArray) (t3_7 t4_7 o0_7:Int):Prop:=
 bif decide (t4_7<t3_7)then (
         At t2_7 t4_7 fun u9=>
        True/\
        let g10:prodL [.el .atm, .int .i64]:=((⟨(⟨dz,IntKind.i64.wrap (id_7+t4_7)⟩:Idn),5,t_7.file,0,iz,(⟨#[]⟩:ByteArray),0,(⟨#[]⟩:ByteArray),u9,iz,iz,[]⟩:Atm),o0_7,());
        W8 (t_7,id_7,t2_7,t3_7,IntKind.i64.wrap (t4_7+1),IntKind.i64.wrap (g10.2.1+1),()))
        else (
         F84b_L12 K (t_7,id_7,(t_7.lines.length:Int),IntKind.i64.wrap ((t_7.lines.length:Int)+1),0,o0_7,t_7.after,()))
def qq9 (K:Kn) (g:prodL [.pr .chg, .pr .i64, .sl .str, .int .i64, .int .i64, .int .i64]):Prop:=
 qQ (γ:=prodL [.pr .chg, .pr .i64, .sl .str, .int .i64, .int .i64, .int .i64]) (fun V y=>F84b_B8 K V y.1 y.2.1 y.2.2.1 y.2.2.2.1 y.2.2.2.2.1 y.2.2.2.2.2.1) g
def F84b (g:prodL qzq) (K:Kn):Prop:=
 bif decide (g.2.1.kind=1)then (
  True/\
  True/\
  let g1:prodL [.el .atm, .int .i64]:=((⟨(⟨dz,IntKind.i64.wrap (g.1+0)⟩:Idn),1,(⟨dz,IntKind.i64.wrap (g.1+0)⟩:Idn),g.2.1.typ,iz,(⟨#[]⟩:ByteArray),0,(⟨#[]⟩:ByteArray),(⟨#[]⟩:ByteArray),iz,iz,[]⟩:Atm),g.2.2.1,());
  K (.tu []) [some (.cells [.int .i64 (IntKind.i64.wrap (g1.2.1+1))])])
 else (
  bif decide (g.2.1.kind=2)then (
   True/\
   let g2:prodL [.el .atm, .int .i64]:=((⟨(⟨dz,IntKind.i64.wrap (g.1+0)⟩:Idn),2,g.2.1.file,0,g.2.1.parent,g.2.1.name,0,(⟨#[]⟩:ByteArray),(⟨#[]⟩:ByteArray),iz,iz,g.2.1.over⟩:Atm),g.2.2.1,());
   K (.tu []) [some (.cells [.int .i64 (IntKind.i64.wrap (g2.2.1+1))])])
  else (
   bif decide (g.2.1.kind=3)then (
    True/\
    let g3:prodL [.el .atm, .int .i64]:=((⟨(⟨dz,IntKind.i64.wrap (g.1+0)⟩:Idn),3,g.2.1.file,0,iz,(⟨#[]⟩:ByteArray),g.2.1.mode,(⟨#[]⟩:ByteArray),(⟨#[]⟩:ByteArray),iz,iz,g.2.1.over⟩:Atm),g.2.2.1,());
    K (.tu []) [some (.cells [.int .i64 (IntKind.i64.wrap (g3.2.1+1))])])
   else (
    bif decide (g.2.1.kind=4)then (
     True/\
     let g4:prodL [.el .atm, .int .i64]:=((⟨(⟨dz,IntKind.i64.wrap (g.1+0)⟩:Idn),4,g.2.1.file,0,iz,(⟨#[]⟩:ByteArray),0,g.2.1.data,(⟨#[]⟩:ByteArray),iz,iz,g.2.1.over⟩:Atm),g.2.2.1,());
     K (.tu []) [some (.cells [.int .i64 (IntKind.i64.wrap (g4.2.1+1))])])
    else (
     bif decide (g.2.1.kind=6)then (
      True/\
      let g5:prodL [.el .atm, .int .i64]:=((⟨(⟨dz,IntKind.i64.wrap (g.1+0)⟩:Idn),6,g.2.1.file,0,iz,(⟨#[]⟩:ByteArray),0,(⟨#[]⟩:ByteArray),(⟨#[]⟩:ByteArray),g.2.1.after,g.2.1.before,g.2.1.over⟩:Atm),g.2.2.1,());
      K (.tu []) [some (.cells [.int .i64 (IntKind.i64.wrap (g5.2.1+1))])])
     else (
      bif decide (g.2.1.kind=7)then (
       True/\
       let g6:prodL [.el .atm, .int .i64]:=((⟨(⟨dz,IntKind.i64.wrap (g.1+0)⟩:Idn),7,iz,0,iz,(⟨#[]⟩:ByteArray),0,(⟨#[]⟩:ByteArray),(⟨#[]⟩:ByteArray),iz,iz,g.2.1.over⟩:Atm),g.2.2.1,());
       K (.tu []) [some (.cells [.int .i64 (IntKind.i64.wrap (g6.2.1+1))])])
      else (
       bif decide (g.2.1.kind=5)then (
        qq9 K (g.2.1,g.1,g.2.1.lines,(g.2.1.lines.length:Int),0,g.2.2.1,()))
       else (
        K (.tu []) [some (.cells [.int .i64 g.2.2.1])])))))))
theorem F84b_eq (g:prodL qzq) (K X:Kn):F84b g K=qJ D (qk [(1023008,vi)] [(85,false,sp85)]) (qx [(1023008,vi)]) H84b J84b 144 [] (qz Tryz.f84) (argsT S84b qzq g) (qe S84b O84b qzq g) (settleD (qe S84b O84b qzq g).length 0 K) X 0:=by kernel_rfl
theorem F84b_ok (g:prodL qzq) (K X:Kn) (h:F84b g K):FCalls Tryz.prog 84 (argsT S84b qzq g) (qe S84b O84b qzq g) K X 0:=
 FCalls.settleD (qq (Γ:=qk [(1023008,vi)] [(85,false,sp85)]) (mu:=qx [(1023008,vi)]) (H:=H84b) (J:=J84b) qW (qX (rs:=[(1023008,vi)]) (l:=[(85,false,sp85)]) (by intro p hp;simp only [List.mem_cons,List.not_mem_nil,or_false] at hp;subst hp;exact rw1023008_ok) (by intro p hp;simp only [List.mem_cons,List.not_mem_nil,or_false] at hp;subst hp;exact sp85_ok)) qj rfl Tryz.func84 (c:=qz Tryz.f84) rfl Tryz.ntmps84 (rs:=[]) Tryz.results84 (by unfold qv;rw [Tryz.func84];kernel_rfl) (Nat.le_of_ble_eq_true (by kernel_rfl)) (X:=X) (c0:=0) (Eq.mp (F84b_eq g K X) h))
def H127:List (Nat×Hint):=[(18,⟨[((2,[]),none),((6,[]),some .atm)],[(1, .leaf),(2, .pt 0 0),(6, .oa .atm 1),(7, .leaf),(8, .leaf)],[.el, .arr .atm],[.int .i64, .int .i64, .int .i64, .el .chg, .sl .atm]⟩),(22,⟨[((2,[]),none),((6,[]),none)],[(1, .leaf),(2, .pt 0 0),(6, .oa .atm 1),(7, .leaf),(9, .leaf)],[.el, .arr .atm],[.int .i64, .int .i64, .int .i64, .el .chg, .sl .atm]⟩)]
def J127:List (Nat×Hint):=[(27,⟨[((2,[]),none),((6,[]),none),((10,[]),none)],[(1, .leaf),(2, .pt 0 0),(6, .oa .atm 1),(7, .leaf),(9, .leaf),(10, .pt 2 0)],[.el, .arr .atm, .el],[.int .i64, .int .i64, .int .i64, .el .chg, .sl .atm, .el .atm]⟩),(29,⟨[((2,[]),none),((6,[]),none),((10,[]),none)],[(1, .leaf),(2, .pt 0 0),(6, .oa .atm 1),(7, .leaf),(9, .leaf),(10, .pt 2 0)],[.el, .arr .atm, .el],[.int .i64, .int .i64, .int .i64, .el .chg, .sl .atm, .el .atm]⟩)]
abbrev S127:List Sh:=[.leaf, .leaf]
abbrev L127:List Lf:=[.el .chg, .int .i64]
def Jj (K:Kn) (W8:prodL [.int .i64, .int .i64, .int .i64, .el .chg, .sl .atm]->Prop) (first_10 k_10 i_10:Int) (c_10:Chg) (out_10:List Atm) (x_10:Atm):Prop:=
 qn (out_10.length+[x_10].length) 296 (
 W8 (first_10,k_10,IntKind.i64.wrap (i_10+1),c_10,out_10++[x_10],()))
def Jx (K:Kn) (W8:prodL [.int .i64, .int .i64, .int .i64, .el .chg, .sl .atm]->Prop) (first_9 k_9 i_9:Int) (c_9:Chg) (out_9:List Atm) (x_9:Atm):Prop:=
 bif decide (i_9<k_9)then (
  Jj K W8 first_9 k_9 i_9 c_9 out_9 (⟨x_9.id,x_9.kind,x_9.file,x_9.typ,x_9.parent,x_9.name,x_9.mode,x_9.data,x_9.text,x_9.frm,⟨dz,IntKind.i64.wrap (first_9+i_9)⟩,x_9.over⟩:Atm))
 else (
  Jj K W8 first_9 k_9 i_9 c_9 out_9 x_9)
def ZQ (K:Kn) (W8:prodL [.int .i64, .int .i64, .int .i64, .el .chg, .sl .atm]->Prop) (first_7 k_7 i_7:Int) (c_7:Chg) (out_7:List Atm):Prop:=
 bif decide (i_7<=k_7)then (
  bif decide (0<i_7)then (
  Jx K W8 first_7 k_7 i_7 c_7 out_7 (⟨⟨dz,IntKind.i64.wrap ((IntKind.i64.wrap (first_7+k_7))+i_7)⟩,6,c_7.file,0,iz,(⟨#[]⟩:ByteArray),0,(⟨#[]⟩:ByteArray),(⟨#[]⟩:ByteArray),⟨dz,IntKind.i64.wrap ((IntKind.i64.wrap (first_7+i_7)) - 1)⟩,c_7.before,[]⟩:Atm))
 else (
  Jx K W8 first_7 k_7 i_7 c_7 out_7 (⟨⟨dz,IntKind.i64.wrap ((IntKind.i64.wrap (first_7+k_7))+i_7)⟩,6,c_7.file,0,iz,(⟨#[]⟩:ByteArray),0,(⟨#[]⟩:ByteArray),(⟨#[]⟩:ByteArray),c_7.after,c_7.before,[]⟩:Atm)))
 else (
  K (.sl false .atm out_7) [])
def F127_L8 (K:Kn) (g:prodL [.int .i64, .int .i64, .int .i64, .el .chg, .sl .atm]):Prop:=
 qQ (γ:=prodL [.int .i64, .int .i64, .int .i64, .el .chg, .sl .atm]) (fun V y=>ZQ K V y.1 y.2.1 y.2.2.1 y.2.2.2.1 y.2.2.2.2.1) g
def ZG (K:Kn) (W5:prodL [.int .i64, .int .i64, .int .i64, .el .chg, .sl .atm]->Prop) (first_4 k_4 i_4:Int) (c_4:Chg) (out_4:List Atm):Prop:=
 bif decide (i_4<k_4)then (
  At c_4.lines i_4 fun u6=>
 qn (out_4.length+[(⟨⟨dz,IntKind.i64.wrap (first_4+i_4)⟩,5,c_4.file,0,iz,(⟨#[]⟩:ByteArray),0,(⟨#[]⟩:ByteArray),u6,iz,iz,[]⟩:Atm)].length) 296 (
 W5 (first_4,k_4,IntKind.i64.wrap (i_4+1),c_4,out_4++[(⟨⟨dz,IntKind.i64.wrap (first_4+i_4)⟩,5,c_4.file,0,iz,(⟨#[]⟩:ByteArray),0,(⟨#[]⟩:ByteArray),u6,iz,iz,[]⟩:Atm)],())))
 else (
  F127_L8 K (first_4,k_4,0,c_4,out_4,()))
def F127_L5 (K:Kn) (g:prodL [.int .i64, .int .i64, .int .i64, .el .chg, .sl .atm]):Prop:=
 qQ (γ:=prodL [.int .i64, .int .i64, .int .i64, .el .chg, .sl .atm]) (fun V y=>ZG K V y.1 y.2.1 y.2.2.1 y.2.2.2.1 y.2.2.2.2.1) g
def F127 (g:prodL L127) (K:Kn):Prop:=
 bif decide (g.1.kind=1)then (
  K (.sl true .atm [(⟨⟨dz,g.2.1⟩,1,⟨dz,g.2.1⟩,g.1.typ,iz,(⟨#[]⟩:ByteArray),0,(⟨#[]⟩:ByteArray),(⟨#[]⟩:ByteArray),iz,iz,[]⟩:Atm)]) [])
 else (
  bif decide (g.1.kind=2)then (
   K (.sl true .atm [(⟨⟨dz,g.2.1⟩,2,g.1.file,0,g.1.parent,g.1.name,0,(⟨#[]⟩:ByteArray),(⟨#[]⟩:ByteArray),iz,iz,g.1.over⟩:Atm)]) [])
  else (
   bif decide (g.1.kind=3)then (
    K (.sl true .atm [(⟨⟨dz,g.2.1⟩,3,g.1.file,0,iz,(⟨#[]⟩:ByteArray),g.1.mode,(⟨#[]⟩:ByteArray),(⟨#[]⟩:ByteArray),iz,iz,g.1.over⟩:Atm)]) [])
   else (
    bif decide (g.1.kind=4)then (
     K (.sl true .atm [(⟨⟨dz,g.2.1⟩,4,g.1.file,0,iz,(⟨#[]⟩:ByteArray),0,g.1.data,(⟨#[]⟩:ByteArray),iz,iz,g.1.over⟩:Atm)]) [])
    else (
     bif decide (g.1.kind=6)then (
      K (.sl true .atm [(⟨⟨dz,g.2.1⟩,6,g.1.file,0,iz,(⟨#[]⟩:ByteArray),0,(⟨#[]⟩:ByteArray),(⟨#[]⟩:ByteArray),g.1.after,g.1.before,g.1.over⟩:Atm)]) [])
     else (
      bif decide (g.1.kind=7)then (
       K (.sl true .atm [(⟨⟨dz,g.2.1⟩,7,iz,0,iz,(⟨#[]⟩:ByteArray),0,(⟨#[]⟩:ByteArray),(⟨#[]⟩:ByteArray),iz,iz,g.1.over⟩:Atm)]) [])
      else (
       F127_L5 K (g.2.1,(g.1.lines.length:Int),0,g.1,[],())))))))
theorem F127_eq (g:prodL L127) (K X:Kn):F127 g K=qJ D (qk [] []) (qx []) H127 J127 141 [.tmp 4] (qz Tryz.f127) (argsT S127 L127 g) [] (settle0 K) X:=by kernel_rfl
theorem F127_ok (g:prodL L127) (K X:Kn) (h:F127 g K):FCalls Tryz.prog 127 (argsT S127 L127 g) [] K X:=
 FCalls.settle0 (qq qW (jx jv) qj rfl Tryz.func127 (c:=qz Tryz.f127) rfl Tryz.ntmps127 Tryz.results127 (by unfold qv;rw [Tryz.func127];kernel_rfl) (Nat.le_of_ble_eq_true (by kernel_rfl)) (c0:=0) (Eq.mp (F127_eq g K X) h))
end Go.Proofs.YtbglndogddddoaaGreatDoor
namespace Go.Proofs.YtbglndogddddoaaGreatDoor
open Go.RowKit
set_option maxRecDepth 100000
theorem w40 {n:Int} (h:0<=n/\n<=4398046511104):IntKind.i64.wrap n=n:=j4 (by omega) (by omega)
abbrev KR (K:Kn):List Rfn->Prop:=fun l=>K (.sl false .ref l) []
theorem Yk {c:Chg} {out:List Rfn} {K:Kn} (hl:c.over.length<=4194304) (ho:out.length<=16) (h:KR K (out++qqE c)):X1 K c out:=by
 unfold X1 F46_L20
 refine qQ.map c.over (fun x=>(⟨x,Fd.sup c⟩:Rfn)) (fun n o=>(c,c.over,(c.over.length:Int),n,out++o,())) (by omega) (by rw [List.append_nil]) (fun W n hn o hlen hW=> ?_) fun W=> ?_
 . show ZT K W c c.over c.over.length n (out++o)
   unfold ZT
   rw [qo hn,cond_true]
   refine qB hn ?_
   rw [<- List.append_assoc] at hW
   exact ⟨by simp only [List.length_singleton,List.length_append,hlen];omega,hW⟩
 . show ZT K W c c.over c.over.length c.over.length (out++c.over.map fun x=>(⟨x,Fd.sup c⟩:Rfn))
   unfold ZT
   rw [qg,cond_false];exact h
theorem F46_J17_is {c:Chg} {t:Bool} {out:List Rfn} {K:Kn} (hl:c.over.length<=4194304) (ho:out.length<=8) (h:KR K (rL17 c t out)):Zk K c t out:=by
 unfold Zk
 unfold rL17 at h
 cases t
 . exact Yk hl (by omega) h
 . refine ⟨by simp only [List.length_singleton];omega,by simp only [List.length_singleton,List.length_append];omega,Yk hl (by simp only [List.length_singleton,List.length_append];omega) h⟩
theorem Wu {c:Chg} {out:List Rfn} {K:Kn} (hl:c.over.length<=4194304) (ho:out.length<=8) (h:KR K (rL24 c out)):qqb K c out:=
 xO (J:=fun b=>Zk K c b out) (f:=fun b=>rL17 c b out) (K:=KR K) (fun _ h=>F46_J17_is hl ho h) h
theorem WL {c:Chg} {t:Bool} {out:List Rfn} {K:Kn} (hl:c.over.length<=4194304) (ho:out.length<=4) (h:KR K (rL12 c t out)):Vj K c t out:=by
 unfold Vj
 unfold rL12 at h
 cases t
 . exact Wu hl (by omega) h
 . exact ⟨by simp only [List.length_singleton];omega,Wu hl (by simp only [List.length_singleton,List.length_append];omega) h⟩
theorem ye {c:Chg} {out:List Rfn} {K:Kn} (hl:c.over.length<=4194304) (ho:out.length<=4) (h:KR K (qzY c out)):kP K c out:=by
 unfold kP
 unfold qzY at h
 cases e:decide (c.kind=2)
 . rw [e] at h;exact WL hl ho h
 . rw [e] at h;exact ⟨trivial,WL hl ho h⟩
theorem F46_J7_is {c:Chg} {t:Bool} {K:Kn} (hl:c.over.length<=4194304) (h:KR K (rL7 c t)):WI K c t:=by
 unfold WI
 unfold rL7 at h
 cases t
 . exact ye hl (Nat.le_of_ble_eq_true rfl) h
 . exact ⟨Nat.le_of_ble_eq_true rfl,ye hl (Nat.le_of_ble_eq_true rfl) h⟩
theorem F46_J8_is {c:Chg} {k:Int} {t:Bool} {K:Kn} (hl:c.over.length<=4194304) (h:KR K (rL8 c k t)):WH K c k t:=by
 unfold WH
 unfold rL8 at h
 cases t
 . rw [cond_false] at h ⊢
   cases e:decide (k=4)
   . rw [e] at h
     exact xO (J:=fun b=>WI K c b) (f:=fun b=>rL7 c b) (K:=KR K) (fun _ h=>F46_J7_is hl h) h
   . rw [e] at h
     exact ⟨Nat.le_of_ble_eq_true rfl,ye hl (Nat.le_of_ble_eq_true rfl) h⟩
 . exact ⟨Nat.le_of_ble_eq_true rfl,ye hl (Nat.le_of_ble_eq_true rfl) h⟩
theorem F46_is {c:Chg} {K:Kn} (hl:c.over.length<=4194304) (h:KR K (jj c)):F46 (c,()) K:=
 xO (J:=fun b=>WH K c c.kind b) (f:=fun b=>rL8 c c.kind b) (K:=KR K) (fun _ h=>F46_J8_is hl h) h
def sp46:Sp:=⟨S46,L46,fun g=>g.1.over.length<=4194304,fun g=> .sl false .ref (jj g.1),fun _=>none⟩
theorem sp46_ok:sp46.Ok Tryz.prog 46 false:=
 ⟨fun g K X hp h=>F46_ok g K X (F46_is hp h),fun _ _ _=>rfl,fun _=>rfl,fun h=>(by cases h)⟩
abbrev KA (K:Kn):List Atm->Prop:=fun l=>K (.tu []) [some (.cells [.oa .atm 1 0]),some (.arr 0 .atm l)]
def frS (c:Chg) (n:Int):Nat->Idn
 | 0=>c.after
 | i+1=>YM c n i
theorem frS_frm {c:Chg} {n:Int} {i:Nat} (h:i<=c.lines.length):frS c n i=frmI c n i:=by
 cases i with
 | zero=>rfl
 | succ i=>
  show YM c n i=QE (n+i)
  unfold YM
  rw [decide_eq_true (by omega),cond_true]
theorem lnI_at {c:Chg} {n:Int} {i:Nat} (h:i<c.lines.length):lnI c n i=lnA c (n+i) c.lines[i]:=by
 unfold lnI
 rw [List.getD_eq_getElem?_getD,xK h];rfl
theorem leI {n m:Nat}:decide ((n:Int) < (m:Int))=decide (n<m):=by rw [decide_eq_decide];omega
theorem F84_L8_is {c:Chg} {n:Int} {own:List Atm} {K:Kn} (hp:qqs c n) (hl:own.length<=16777216) (h:KA K (own++(QY c n++egsL c n))):F84_L8 K (c,n,c.lines,(c.lines.length:Int),0,own,()):=by
 obtain ⟨hk,h1,h2,h3⟩:=hp
 unfold F84_L8
 refine qQ.mapN c.lines.length (lnI c n) (fun i out=>(c,n,c.lines,(c.lines.length:Int),(i:Int),own++out,())) (by rw [List.append_nil];rfl) (fun W i hi out ho hW=> ?_) fun W=> ?_
 . show V4 K W c n c.lines c.lines.length i (own++out)
   unfold V4
   rw [qo hi,cond_true]
   refine qB hi ⟨trivial,by simp only [List.length_singleton,List.length_append,ho];omega, ?_⟩
   rw [<- List.append_assoc,lnI_at hi] at hW
   rw [zy hi (by omega),w40 (by omega)]
   exact hW
 . show V4 K W c n c.lines c.lines.length c.lines.length (own++QY c n)
   unfold V4
   rw [qg,cond_false]
   unfold F84_L12
   have hlen:(own++QY c n).length<=33554432:=by simp only [List.length_append,QY,List.length_map,List.length_range];omega
   rw [<- List.append_assoc] at h
   generalize own++QY c n=l at hlen h
   refine qQ.mapN (c.lines.length+1) (egI c n) (fun i out=>(c,n,(c.lines.length:Int),((c.lines.length+1:Nat):Int),(i:Int),l++out,frS c n i,())) (by rw [List.append_nil,w64 (by omega)];rfl) (fun W i hi out ho hW=> ?_) fun W=> ?_
   . show JQ K W c n c.lines.length ((c.lines.length+1:Nat):Int) i (l++out) (frS c n i)
     unfold JQ
     rw [qo hi,cond_true,leI]
     have hJ:X4 K W c n c.lines.length i ((c.lines.length+1:Nat):Int) i (l++out) (frS c n i) (YM c n i):=by
      unfold X4
      refine ⟨trivial,by simp only [List.length_singleton,List.length_append,ho];omega, ?_⟩
      rw [<- List.append_assoc] at hW
      rw [zy hi (by omega),w40 (n:=(c.lines.length:Int)+(i:Int)) (by omega),w40 (by omega)]
      have e:egI c n i=⟨⟨dz,n+((c.lines.length:Int)+(i:Int))⟩,6,c.file,0,iz,⟨#[]⟩,0,⟨#[]⟩,⟨#[]⟩,frS c n i,YM c n i,[]⟩:=by
       rw [frS_frm (by omega), <- Int.add_assoc];rfl
      rw [e] at hW
      exact hW
     unfold YM at hJ
     by_cases hlt:i<c.lines.length
     . rw [decide_eq_true hlt] at hJ ⊢
       rw [cond_true,w40 (n:=n+(i:Int)) (by omega)]
       exact ⟨trivial,hJ⟩
     . rw [decide_eq_false hlt] at hJ ⊢
       exact hJ
   . show JQ K W c n c.lines.length ((c.lines.length+1:Nat):Int) ((c.lines.length+1:Nat):Int) (l++egsL c n) (frS c n (c.lines.length+1))
     unfold JQ
     rw [qg,cond_false]
     exact h
theorem F84_is {c:Chg} {n:Int} {own:List Atm} {K:Kn} (hp:qqs c n) (hl:own.length<=16777216) (h:KA K (own++j8 c n)):F84 (n,c,own,()) K:=by
 have hp':=hp
 obtain ⟨hk,h1,h2,h3⟩:=hp'
 have hz:IntKind.i64.wrap (n+0)=n:=by rw [Int.add_zero,w40 (by omega)]
 have hr:(own.length+1)*296<=140737488355328:=by omega
 unfold F84
 dsimp only
 simp only [hz]
 obtain ⟨kind,file,typ,parent,name,mode,data,after,before,lines,over⟩:=c
 have hk1:(1:Int)<=kind/\kind<=7:=hk
 have:kind=1∨kind=2∨kind=3∨kind=4∨kind=5∨kind=6∨kind=7:=by omega
 rcases this with rfl | rfl | rfl | rfl | rfl | rfl | rfl
 . exact ⟨trivial,trivial,hr,h⟩
 . show True/\qn _ _ _
   exact ⟨trivial,hr,h⟩
 . show True/\qn _ _ _
   exact ⟨trivial,hr,h⟩
 . show True/\qn _ _ _
   exact ⟨trivial,hr,h⟩
 . exact F84_L8_is hp hl h
 . show True/\qn _ _ _
   exact ⟨trivial,hr,h⟩
 . show True/\qn _ _ _
   exact ⟨trivial,hr,h⟩
def rw84:Raw:=⟨S84,O84,L84,0,fun g K _=>pre84 g/\K (.tu []) [some (.cells [.oa .atm 1 0]),some (.arr 0 .atm (g.2.2.1++j8 g.2.1 g.1))]⟩
theorem rw84_ok:rw84.Ok Tryz.prog 84:=fun g K X h=>F84_ok g K X (F84_is h.1.1 h.1.2 h.2)
abbrev KN (K:Kn):Int->Prop:=fun n=>K (.tu []) [some (.cells [.int .i64 n])]
theorem F84b_L8_is {c:Chg} {n m:Int} {K:Kn} (hp:qqs c n) (hm:0<=m/\m<=1099511627776) (h:KN K (m+(2*(c.lines.length:Int)+1))):qq9 K (c,n,c.lines,(c.lines.length:Int),0,m,()):=by
 obtain ⟨hk,h1,h2,h3⟩:=hp
 unfold qq9
 refine qQ.countTo c.lines.length (fun i=>(c,n,c.lines,(c.lines.length:Int),(i:Int),m+(i:Int),())) (fun _=>True) (by rw [show m+((0:Nat):Int)=m by omega];rfl) (fun i hi _ W hW=> ?_) trivial
 show F84b_B8 K W c n c.lines c.lines.length i (m+i)
 unfold F84b_B8
 by_cases hlt:i<c.lines.length
 . rw [qo hlt,cond_true]
   refine qB hlt ⟨trivial, ?_⟩
   have:=hW hlt trivial
   dsimp only
   rw [zy hlt (by omega),w40 (by omega),show m+(i:Int)+1=m+((i+1:Nat):Int)by omega]
   exact this
 . have:i=c.lines.length:=by omega
   subst this
   rw [qg,cond_false]
   unfold F84b_L12
   refine qQ.countTo (c.lines.length+1) (fun i=>(c,n,(c.lines.length:Int),((c.lines.length+1:Nat):Int),(i:Int),m+(c.lines.length:Int)+(i:Int),frS c n i,())) (fun _=>True) (by rw [show m+(c.lines.length:Int)+((0:Nat):Int)=m+(c.lines.length:Int)by omega,w64 (by omega)];rfl) (fun i hi _ W hW=> ?_) trivial
   show Yb K W c n c.lines.length ((c.lines.length+1:Nat):Int) i (m+c.lines.length+i) (frS c n i)
   unfold Yb
   by_cases hlt:i<c.lines.length+1
   . rw [qo hlt,cond_true,leI]
     have hW:=hW hlt trivial
     have hJ:Zr K W c n c.lines.length i ((c.lines.length+1:Nat):Int) i (m+c.lines.length+i) (frS c n i) (YM c n i):=by
      unfold Zr
      refine ⟨trivial, ?_⟩
      dsimp only
      rw [zy hlt (by omega),w40 (n:=m+(c.lines.length:Int)+(i:Int)+1) (by omega),show m+(c.lines.length:Int)+(i:Int)+1=m+(c.lines.length:Int)+((i+1:Nat):Int)by omega]
      exact hW
     unfold YM at hJ
     by_cases hlt:i<c.lines.length
     . rw [decide_eq_true hlt] at hJ ⊢
       rw [cond_true,w40 (n:=n+(i:Int)) (by omega)]
       exact ⟨trivial,hJ⟩
     . rw [decide_eq_false hlt] at hJ ⊢
       exact hJ
   . have:i=c.lines.length+1:=by omega
     subst this
     rw [qg,cond_false,show m+(c.lines.length:Int)+((c.lines.length+1:Nat):Int)=m+(2*(c.lines.length:Int)+1)by omega]
     exact h
theorem F84b_is {c:Chg} {n m:Int} {K:Kn} (hp:qqs c n) (hm:0<=m/\m<=1099511627776) (h:KN K (m+wd c)):F84b (n,c,m,()) K:=by
 have hp':=hp
 obtain ⟨hk,h1,h2,h3⟩:=hp'
 have hz:IntKind.i64.wrap (n+0)=n:=by rw [Int.add_zero,w40 (by omega)]
 have hw:IntKind.i64.wrap (m+1)=m+1:=w40 (by omega)
 unfold F84b
 dsimp only
 simp only [hz,hw]
 obtain ⟨kind,file,typ,parent,name,mode,data,after,before,lines,over⟩:=c
 have hk1:(1:Int)<=kind/\kind<=7:=hk
 have:kind=1∨kind=2∨kind=3∨kind=4∨kind=5∨kind=6∨kind=7:=by omega
 rcases this with rfl | rfl | rfl | rfl | rfl | rfl | rfl
 . exact ⟨trivial,trivial,h⟩
 . show True/\_
   exact ⟨trivial,h⟩
 . show True/\_
   exact ⟨trivial,h⟩
 . show True/\_
   exact ⟨trivial,h⟩
 . have h1:lines.length<=4194304:=h1
   have e:wd ⟨5,file,typ,parent,name,mode,data,after,before,lines,over⟩=2*(lines.length:Int)+1:=by
    unfold wd
    show IntKind.i64.wrap (IntKind.i64.wrap (2*(lines.length:Int))+1)=_
    rw [w64 (n:=2*(lines.length:Int)) (by omega),w64 (by omega)]
   rw [e] at h
   exact F84b_L8_is hp hm h
 . show True/\_
   exact ⟨trivial,h⟩
 . show True/\_
   exact ⟨trivial,h⟩
def qqk:Raw:=⟨S84b,O84b,qzq,0,fun g K _=>pre84b g/\K (.tu []) [some (.cells [.int .i64 (g.2.2.1+wd g.2.1)])]⟩
theorem rw84b_ok:qqk.Ok Tryz.prog 84:=fun g K X h=>F84b_ok g K X (F84b_is h.1.1 h.1.2 h.2)
abbrev KL (K:Kn):List Atm->Prop:=fun l=>K (.sl false .atm l) []
theorem F127_L5_is {c:Chg} {n:Int} {K:Kn} (hp:qqs c n) (h:KL K (QY c n++egsL c n)):F127_L5 K (n,(c.lines.length:Int),0,c,[],()):=by
 obtain ⟨hk,h1,h2,h3⟩:=hp
 unfold F127_L5
 refine qQ.mapN c.lines.length (lnI c n) (fun i out=>(n,(c.lines.length:Int),(i:Int),c,out,())) rfl (fun W i hi out ho hW=> ?_) fun W=> ?_
 . show ZG K W n c.lines.length i c out
   unfold ZG
   rw [qo hi,cond_true]
   refine qB hi ⟨by simp only [List.length_singleton,ho];omega, ?_⟩
   rw [lnI_at hi] at hW
   rw [zy hi (by omega),w40 (by omega)]
   exact hW
 . show ZG K W n c.lines.length c.lines.length c (QY c n)
   unfold ZG
   rw [qg,cond_false]
   unfold F127_L8
   have hlen:(QY c n).length<=33554432:=by simp only [QY,List.length_map,List.length_range];omega
   generalize QY c n=l at hlen h
   refine qQ.mapN (c.lines.length+1) (egI c n) (fun i out=>(n,(c.lines.length:Int),(i:Int),c,l++out,())) (by rw [List.append_nil];rfl) (fun W i hi out ho hW=> ?_) fun W=> ?_
   . show ZQ K W n c.lines.length i c (l++out)
     unfold ZQ
     rw [decide_eq_true (show (i:Int)<=(c.lines.length:Int)by omega),cond_true]
     rw [<- List.append_assoc] at hW
     have hJ: ∀f,f=frmI c n i->Jx K W n c.lines.length i c (l++out) ⟨⟨dz,n+c.lines.length+i⟩,6,c.file,0,iz,⟨#[]⟩,0,⟨#[]⟩,⟨#[]⟩,f,c.before,[]⟩:=by
      rintro f rfl
      have hJ11:Jj K W n c.lines.length i c (l++out) (egI c n i):=by
       unfold Jj
       refine ⟨by simp only [List.length_singleton,List.length_append,ho];omega, ?_⟩
       rw [zy hi (by omega)]
       exact hW
      unfold egI YM at hJ11
      unfold Jx
      rw [leI]
      by_cases hlt:i<c.lines.length
      . rw [decide_eq_true hlt] at hJ11 ⊢
        rw [cond_true,w40 (n:=n+(i:Int)) (by omega)]
        exact hJ11
      . rw [decide_eq_false hlt] at hJ11 ⊢
        exact hJ11
     rw [w40 (n:=n+(c.lines.length:Int)) (by omega),w40 (n:=n+(c.lines.length:Int)+(i:Int)) (by omega)]
     cases i with
     | zero=>exact hJ _ rfl
     | succ i=>
      rw [posI (show 0<i+1 by omega),cond_true]
      refine hJ _ ?_
      rw [w40 (n:=n+((i+1:Nat):Int)) (by omega),w40 (by omega)]
      show (⟨dz,n+((i+1:Nat):Int) - 1⟩:Idn)=⟨dz,n+(i:Int)⟩
      rw [show n+((i+1:Nat):Int) - 1=n+(i:Int)by omega]
   . show ZQ K W n c.lines.length ((c.lines.length+1:Nat):Int) c (l++egsL c n)
     unfold ZQ
     rw [decide_eq_false (by omega),cond_false]
     exact h
theorem F127_is {c:Chg} {n:Int} {K:Kn} (hp:qqs c n) (h:KL K (j8 c n)):F127 (c,n,()) (xa K):=by
 have hk:=hp.1
 have hK: ∀l,KL K l->KL (xa K) l:=fun l h=>xa.same h
 unfold F127
 obtain ⟨kind,file,typ,parent,name,mode,data,after,before,lines,over⟩:=c
 have hk1:(1:Int)<=kind/\kind<=7:=hk
 have:kind=1∨kind=2∨kind=3∨kind=4∨kind=5∨kind=6∨kind=7:=by omega
 rcases this with rfl | rfl | rfl | rfl | rfl | rfl | rfl
 . exact xa.sl h
 . exact xa.sl h
 . exact xa.sl h
 . exact xa.sl h
 . exact F127_L5_is hp (hK _ h)
 . exact xa.sl h
 . exact xa.sl h
def sp127:Sp:=⟨S127,L127,fun g=>qqs g.1 g.2.1,fun g=> .sl false .atm (j8 g.1 g.2.1),fun _=>none⟩
theorem sp127_ok:sp127.Ok Tryz.prog 127 false:=
 ⟨fun g K X hp h=>FCalls.weak (F127_ok g (xa K) X (F127_is hp h)),fun _ _ _=>rfl,fun _=>rfl,fun h=>(by cases h)⟩
end Go.Proofs.YtbglndogddddoaaGreatDoor
namespace Go.Proofs.YtbglndogddddoaaGreatDoor
open Go.RowKit
attribute [local irreducible] qJ qh
set_option maxRecDepth 100000
def H69:List (Nat×Hint):=[(2,⟨[((2,[]),none)],[(1, .leaf),(2, .pt 0 0),(8, .leaf),(9, .leaf),(10, .leaf)],[.el],[.sl .atm, .sl .ref, .int .i64, .int .i64, .el .chg]⟩)]
def J69:List (Nat×Hint):=[(6,⟨[((2,[]),none),((6,[]),none)],[(1, .leaf),(2, .pt 0 0),(6, .pt 1 0),(8, .leaf),(9, .leaf),(10, .leaf),(14, .leaf)],[.el, .el],[.sl .atm, .sl .ref, .int .i64, .int .i64, .bool, .el .chg, .el .ref]⟩),(7,⟨[((2,[]),none),((6,[]),none)],[(1, .leaf),(2, .pt 0 0),(6, .pt 1 0),(8, .leaf),(9, .leaf),(10, .leaf),(14, .leaf)],[.el, .el],[.sl .atm, .sl .ref, .int .i64, .int .i64, .bool, .el .chg, .el .ref]⟩),(9,⟨[((2,[]),none)],[(1, .leaf),(2, .pt 0 0),(8, .leaf),(9, .leaf),(10, .leaf),(34, .leaf)],[.el],[.sl .atm, .sl .ref, .int .i64, .int .i64, .bool, .el .chg]⟩),(12,⟨[((2,[]),none)],[(2, .pt 0 0),(51, .leaf)],[.el],[.bool, .el .chg]⟩),(14,⟨[((2,[]),none)],[(2, .pt 0 0),(62, .leaf)],[.el],[.bool, .el .chg]⟩),(15,⟨[],[(62, .leaf)],[],[.bool]⟩)]
abbrev S69:List Sh:=[.leaf, .leaf]
abbrev L69:List Lf:=[.el .chg, .sl .atm]
def vZ (K:Kn) (W2:prodL [.sl .atm, .sl .ref, .int .i64, .int .i64, .el .chg]->Prop) (atoms_10:List Atm) (t_10:List Rfn) (t2_10 t3_10:Int) (t4_10:Bool) (c_10:Chg):Prop:=
 bif t4_10 then (
   K (.int .i64 8) [])
  else (
   W2 (atoms_10,t_10,t2_10,IntKind.i64.wrap (t3_10+1),c_10,()))
def Zf (K:Kn) (W2:prodL [.sl .atm, .sl .ref, .int .i64, .int .i64, .el .chg]->Prop) (atoms_6:List Atm) (t_6:List Rfn) (t2_6 t3_6:Int) (t4_6:Bool) (c_6:Chg) (r_6:Rfn):Prop:=
 bif t4_6 then (
  K (.int .i64 7) [])
 else (
  True/\
  bif QC r_6.id then (
   At atoms_6 r_6.id.n fun u7=>
   fdGo r_6.fits (
    True/\
    vZ K W2 atoms_6 t_6 t2_6 t3_6 (!(decide (u7.kind=1))) c_6)
   (
    True/\
    vZ K W2 atoms_6 t_6 t2_6 t3_6 (!(fitDa u7)) c_6)
   (
    True/\
    vZ K W2 atoms_6 t_6 t2_6 t3_6 (!(fitTx u7)) c_6)
   (
    True/\
    vZ K W2 atoms_6 t_6 t2_6 t3_6 (!(fitDi u7)) c_6)
   (fun c8=>
    True/\
    vZ K W2 atoms_6 t_6 t2_6 t3_6 (!(WQ u7 c8)) c_6)
   (fun c9=>
    True/\
    vZ K W2 atoms_6 t_6 t2_6 t3_6 (!(We u7 c9)) c_6))
  else (
   vZ K W2 atoms_6 t_6 t2_6 t3_6 false c_6))
def F69_J5 (K:Kn) (W2:prodL [.sl .atm, .sl .ref, .int .i64, .int .i64, .el .chg]->Prop) (atoms_4:List Atm) (t_4:List Rfn) (t2_4 t3_4:Int) (t4_4:Bool) (c_4:Chg) (r_4:Rfn):Prop:=
 bif t4_4 then (
   Zf K W2 atoms_4 t_4 t2_4 t3_4 true c_4 r_4)
  else (
   Zf K W2 atoms_4 t_4 t2_4 t3_4 (decide (100000<=r_4.id.n)) c_4 r_4)
def yJ (K:Kn) (t_16:Bool):Prop:=
 bif t_16 then (
   K (.int .i64 1) [])
  else (
   K (.int .i64 0) [])
def JV (K:Kn) (t_14:Bool) (c_14:Chg):Prop:=
 bif t_14 then (
   yJ K true)
  else (
   bif decide (c_14.kind=5)then (
    bif qs c_14.after c_14.before then (
     yJ K (!(qs c_14.after c_14.file)))
    else (
     yJ K false))
   else (
    yJ K false))
def ya (K:Kn) (t_13:Bool) (c_13:Chg):Prop:=
 bif t_13 then (
  K (.int .i64 20) [])
 else (
  bif decide (c_13.kind=6)then (
   JV K (qs c_13.after c_13.before) c_13)
  else (
   JV K false c_13))
def Wa (K:Kn) (W2:prodL [.sl .atm, .sl .ref, .int .i64, .int .i64, .el .chg]->Prop) (atoms_1:List Atm) (t_1:List Rfn) (t2_1 t3_1:Int) (c_1:Chg):Prop:=
 bif decide (t3_1<t2_1)then (
  At t_1 t3_1 fun u3=>
 bif decide (u3.id.n<0)then (
  Zf K W2 atoms_1 t_1 t2_1 t3_1 true c_1 u3)
 else (
  True/\
  bif QC u3.id then (
   F69_J5 K W2 atoms_1 t_1 t2_1 t3_1 (decide ((atoms_1.length:Int)<=u3.id.n)) c_1 u3)
  else (
   F69_J5 K W2 atoms_1 t_1 t2_1 t3_1 false c_1 u3)))
 else (
  bif decide (c_1.kind=2)then (
  ya K (qs c_1.parent c_1.file) c_1)
 else (
  ya K false c_1))
def F69_L2 (K:Kn) (g:prodL [.sl .atm, .sl .ref, .int .i64, .int .i64, .el .chg]):Prop:=
 qQ (γ:=prodL [.sl .atm, .sl .ref, .int .i64, .int .i64, .el .chg]) (fun V y=>Wa K V y.1 y.2.1 y.2.2.1 y.2.2.2.1 y.2.2.2.2.1) g
def F69 (g:prodL L69) (K:Kn):Prop:=
 sp46.pre (g.1,())/\
 F69_L2 K (g.2.1,jj g.1,(((jj g.1).length:Nat):Int),0,g.1,())
theorem F69_eq (g:prodL L69) (K X:Kn):F69 g K=qJ D (qk [] [(46,false,sp46),(47,true,sp47),(89,false,sp89),(90,true,sp90),(91,true,sp91),(92,true,sp92),(93,true,sp93),(94,true,sp94)]) (qx []) H69 J69 90 [.tmp 4] (qz Tryz.f69) (argsT S69 L69 g) [] (settle0 K) X:=by kernel_rfl
theorem F69_ok (g:prodL L69) (K X:Kn) (h:F69 g K):FCalls Tryz.prog 69 (argsT S69 L69 g) [] K X:=
 FCalls.settle0 (qq qW (jx (zj sp46_ok (zj sp47_ok (zj sp89_ok (zj sp90_ok (zj sp91_ok (zj sp92_ok (zj sp93_ok (zj sp94_ok jv))))))))) qj rfl Tryz.func69 (c:=qz Tryz.f69) rfl Tryz.ntmps69 Tryz.results69 (by unfold qv;rw [Tryz.func69];kernel_rfl) (Nat.le_of_ble_eq_true (by kernel_rfl)) (c0:=0) (Eq.mp (F69_eq g K X) h))
end Go.Proofs.YtbglndogddddoaaGreatDoor
namespace Go.Proofs.YtbglndogddddoaaGreatDoor
open Go.RowKit
set_option maxRecDepth 100000
def kd (own:List Atm) (b:Bool) (r:Rfn):Int:=bif b then 7 else bif (bif QC r.id then !(fitFd r.fits (own.getD r.id.n.toNat az))else false)then 8 else 0
theorem QP {K:Kn} {W:prodL [.sl .atm, .sl .ref, .int .i64, .int .i64, .el .chg]->Prop} {own:List Atm} {l:List Rfn} {m n:Int} {b:Bool} {c:Chg} {r:Rfn}
  (hb:b=false->QC r.id=true->0<=r.id.n/\r.id.n< (own.length:Int)) (h0:kd own b r=0->W (own,l,m,IntKind.i64.wrap (n+1),c,())) (h1:kd own b r≠0->KI K (kd own b r)):Zf K W own l m n b c r:=by
 unfold Zf
 cases b
 rotate_left
 . exact h1 (show (7:Int)≠0 by decide)
 refine ⟨trivial, ?_⟩
 have hJ: ∀t:Bool,((bif t then (8:Int)else 0)=0->W (own,l,m,IntKind.i64.wrap (n+1),c,()))->((bif t then (8:Int)else 0)≠0->KI K (bif t then 8 else 0))->vZ K W own l m n t c:=by
  intro t h0 h1
  unfold vZ
  cases t
  . exact h0 rfl
  . exact h1 (show (8:Int)≠0 by decide)
 unfold kd at h0 h1
 rw [cond_false] at h0 h1
 cases e:QC r.id
 . rw [e] at h0 h1
   exact hJ false h0 h1
 . rw [e] at h0 h1
   rw [cond_true] at h0 h1 ⊢
   obtain ⟨n0,n1⟩:=hb rfl e
   have hn:r.id.n.toNat<own.length:=by omega
   rw [List.getD_eq_getElem?_getD,xK hn] at h0 h1
   refine ⟨n0,own[r.id.n.toNat],xK hn, ?_⟩
   obtain ⟨id,fits⟩:=r
   cases fits with
   | file=>exact ⟨trivial,hJ _ h0 h1⟩
   | data=>exact ⟨trivial,hJ _ h0 h1⟩
   | txt=>exact ⟨trivial,hJ _ h0 h1⟩
   | dir=>exact ⟨trivial,hJ _ h0 h1⟩
   | fin c=>exact ⟨trivial,hJ _ h0 h1⟩
   | sup c=>exact ⟨trivial,hJ _ h0 h1⟩
theorem F69_J18_is {c:Chg} {K:Kn} (h:KI K (Jf c)):(bif decide (c.kind=2)then ya K (qs c.parent c.file) c else ya K false c):=by
 have h17: ∀b:Bool,KI K (bif b then 1 else 0)->yJ K b:=fun b=>by unfold yJ;exact qH (K:=KI K) id id
 have h15: ∀b,KI K (ZJ b c)->JV K b c:=by
  intro b h
  unfold JV
  unfold ZJ at h
  cases b
  rotate_left
  . exact h17 true h
  rw [cond_false] at h ⊢
  cases e1:decide (c.kind=5)
  . rw [e1] at h;exact h17 false h
  . rw [e1] at h
    exact xO (J:=yJ K) (f:=fun b:Bool=>bif b then (1:Int)else 0) (K:=KI K) h17 h
 have h18: ∀b,KI K (Ze b c)->ya K b c:=by
  intro b h
  unfold ya
  unfold Ze at h
  cases b
  rotate_left
  . exact h
  exact xO (J:=fun b=>JV K b c) (f:=fun b=>ZJ b c) (K:=KI K) h15 h
 exact xO (J:=fun b=>ya K b c) (f:=fun b=>Ze b c) (K:=KI K) h18 h
theorem refsC_len {c:Chg} (hl:c.over.length<=4194304):(jj c).length<=4194400:=by
 have hs:(qqE c).length=c.over.length:=by simp [qqE]
 have h17: ∀t out,(rL17 c t out).length<=out.length+2+c.over.length:=fun t out=>by
  unfold rL17;cases t<;>simp only [cond_true,cond_false,List.length_append,hs,List.length_singleton]<;>omega
 have h12: ∀t out,(rL12 c t out).length<=out.length+3+c.over.length:=fun t out=>by
  unfold rL12;cases t
  . have:=h17 (bif decide (c.kind=5)then true else decide (c.kind=6)) out;simp only [cond_false,rL24];omega
  . have:=h17 (bif decide (c.kind=5)then true else decide (c.kind=6)) (out++[⟨c.parent,Fd.dir⟩]);simp only [cond_true,rL24,List.length_append,List.length_singleton] at this ⊢;omega
 have h25: ∀out,(qzY c out).length<=out.length+3+c.over.length:=fun out=>h12 _ _
 have h7: ∀t,(rL7 c t).length<=4+c.over.length:=fun t=>by
  unfold rL7;cases t
  . have:=h25 [];simp only [cond_false,List.length_nil] at this ⊢;omega
  . have:=h25 [⟨c.file,Fd.txt⟩];simp only [cond_true,List.length_singleton] at this ⊢;omega
 have h8: ∀k t,(rL8 c k t).length<=4+c.over.length:=fun k t=>by
  unfold rL8;cases t
  . rw [cond_false]
    cases decide (k=4)
    . exact h7 _
    . have:=h25 [⟨c.file,Fd.data⟩];simp only [cond_true,List.length_singleton] at this ⊢;omega
  . have:=h25 [⟨c.file,Fd.file⟩];simp only [cond_true,List.length_singleton] at this ⊢;omega
 have:=h8 c.kind (bif decide (c.kind=2)then true else decide (c.kind=3))
 unfold jj
 omega
theorem F69_is {c:Chg} {own:List Atm} {K:Kn} (hl:c.over.length<=4194304) (h:KI K (yD c own)):F69 (c,own,()) K:=by
 unfold F69
 refine ⟨hl, ?_⟩
 have hN:=refsC_len hl
 unfold F69_L2
 unfold yD at h
 have hlen:((jj c).map (yN own)).length=(jj c).length:=by simp
 refine qQ.errs ((jj c).map (yN own)) (fun n=>(own,jj c,(((jj c).length:Nat):Int),(n:Int),c,())) (fun e=>KI K (bif !decide (e=0)then e else Jf c)) h rfl (fun W n hn h0 h1=> ?_) fun h W=> ?_
 . rw [hlen] at hn
   show Wa K W own (jj c) (jj c).length n c
   unfold Wa
   rw [qo hn,cond_true]
   refine qB hn ?_
   simp only [List.getElem_map] at h0 h1
   generalize (jj c)[n]=r at h0 h1 ⊢
   rw [<- zy hn (by omega)] at h0
   have h1:yN own r≠0->KI K (yN own r):=fun z=>by
    have:=h1 z
    rw [decide_eq_false z] at this;exact this
   unfold yN at h0 h1
   cases e1:decide (r.id.n<0)
   . rw [e1] at h0 h1
     rw [cond_false] at h0 h1 ⊢
     have hn0:0<=r.id.n:=by have:=of_decide_eq_false e1;omega
     refine ⟨trivial, ?_⟩
     have h5: ∀b,(b=false->QC r.id=true->r.id.n< (own.length:Int))->(kd own (bif b then true else decide (100000<=r.id.n)) r=0->W (own,jj c,(((jj c).length:Nat):Int),IntKind.i64.wrap ((n:Int)+1),c,()))->(kd own (bif b then true else decide (100000<=r.id.n)) r≠0->KI K (kd own (bif b then true else decide (100000<=r.id.n)) r))->F69_J5 K W own (jj c) (((jj c).length:Nat):Int) n b c r:=by
      intro b hb h0 h1
      unfold F69_J5
      cases b
      . exact QP (fun _ e=>⟨hn0,hb rfl e⟩) h0 h1
      . exact QP (fun e=>by cases e) h0 h1
     cases e2:QC r.id
     . rw [e2] at h0 h1
       refine h5 false (fun _ e=>by rw [e2] at e;cases e) ?_ ?_
       . unfold kd;rw [e2];exact h0
       . unfold kd;rw [e2];exact h1
     . rw [e2] at h0 h1
       refine h5 _ (fun e _=>by have:=of_decide_eq_false e;omega) ?_ ?_
       . unfold kd;rw [e2];exact h0
       . unfold kd;rw [e2];exact h1
   . rw [e1] at h0 h1
     exact QP (fun e=>by cases e) h0 h1
 . rw [hlen]
   show Wa K W own (jj c) (jj c).length (jj c).length c
   unfold Wa
   rw [qg,cond_false]
   exact F69_J18_is h
def sp69:Sp:=⟨S69,L69,fun g=>g.1.over.length<=4194304,fun g=> .int .i64 (yD g.1 g.2.1),fun _=>none⟩
theorem sp69_ok:sp69.Ok Tryz.prog 69 true:=
 ⟨fun g K X hp h=>F69_ok g K X (F69_is hp h),fun _ _ _=>rfl,fun _=>rfl,fun _ _=>⟨rfl,rfl⟩⟩
end Go.Proofs.YtbglndogddddoaaGreatDoor
namespace Go.Proofs.YtbglndogddddoaaGreatDoor
open Go.RowKit
attribute [local irreducible] qJ qh
set_option maxRecDepth 100000
def H36:List (Nat×Hint):=[(6,⟨[((1,[]),none),((6,[]),none),((6,[0]),some .atm)],[(1, .pt 0 0),(6, .pt 1 0),(20, .leaf),(21, .leaf),(22, .leaf)],[.cells [.leaf, .leaf, .leaf, .leaf, .leaf], .cells [.oa .atm 2], .arr .atm],[.sl .chg, .int .i64, .int .i64, .str, .str, .int .i64, .sl .dig, .sl .chg, .sl .atm]⟩)]
def J36:List (Nat×Hint):=[(20,⟨[((6,[]),none),((6,[0]),none)],[(6, .pt 0 0),(12, .leaf),(58, .leaf)],[.cells [.oa .atm 1], .arr .atm],[.str, .bool, .sl .atm]⟩)]
abbrev S36:List Sh:=[.ag [.leaf, .leaf, .leaf, .leaf, .leaf]]
abbrev L36:List Lf:=[.str, .str, .int .i64, .sl .dig, .sl .chg]
abbrev O36:List ObSh:=[]
def Ys (K:Kn) (s_4:ByteArray) (t_4:Bool) (atoms_4:List Atm):Prop:=
 bif t_4 then (
  K (.tu [.nil, .str (⟨#[]⟩:ByteArray), .int .i64 4]) [])
 else (
  K (.tu [.oa .atm 0 0, .str s_4, .int .i64 0]) [some (.arr 0 .atm atoms_4)])
def Vh (K:Kn) (W2:prodL [.sl .chg, .int .i64, .int .i64, .str, .str, .int .i64, .sl .dig, .sl .chg, .sl .atm]->Prop) (t_1:List Chg) (t2_1 t3_1:Int) (p1_1 p2_1:ByteArray) (p3_1:Int) (p4_1:List Dig) (p5_1:List Chg) (atoms_1:List Atm):Prop:=
 bif decide (t3_1<t2_1)then (
  At t_1 t3_1 fun u3=>
 sp68.pre (u3,())/\
 bif !decide (zp u3=0)then (
  K (.tu [.nil, .str (⟨#[]⟩:ByteArray), .int .i64 (zp u3)]) [])
 else (
  sp69.pre (u3,atoms_1,())/\
 bif !decide (yD u3 atoms_1=0)then (
  K (.tu [.nil, .str (⟨#[]⟩:ByteArray), .int .i64 (yD u3 atoms_1)]) [])
 else (
  True/\
 pre84 ((atoms_1.length:Int),u3,atoms_1,())/\
 W2 (t_1,t2_1,IntKind.i64.wrap (t3_1+1),p1_1,p2_1,p3_1,p4_1,p5_1,atoms_1++j8 u3 (atoms_1.length:Int),()))))
 else (
  sp70.pre (p1_1,p2_1,p3_1,p4_1,p5_1,())/\
 bif !decide ((xu (zE p1_1 p2_1 p3_1 (jt p4_1) p5_1)).2=0)then (
  Ys K ((xu (zE p1_1 p2_1 p3_1 (jt p4_1) p5_1)).1) true atoms_1)
 else (
  Ys K ((xu (zE p1_1 p2_1 p3_1 (jt p4_1) p5_1)).1) (decide (65536< (((xu (zE p1_1 p2_1 p3_1 (jt p4_1) p5_1)).1).size:Int))) atoms_1))
def F36_L2 (K:Kn) (g:prodL [.sl .chg, .int .i64, .int .i64, .str, .str, .int .i64, .sl .dig, .sl .chg, .sl .atm]):Prop:=
 qQ (γ:=prodL [.sl .chg, .int .i64, .int .i64, .str, .str, .int .i64, .sl .dig, .sl .chg, .sl .atm]) (fun V y=>Vh K V y.1 y.2.1 y.2.2.1 y.2.2.2.1 y.2.2.2.2.1 y.2.2.2.2.2.1 y.2.2.2.2.2.2.1 y.2.2.2.2.2.2.2.1 y.2.2.2.2.2.2.2.2.1) g
def F36 (g:prodL L36) (K:Kn):Prop:=
 sp67.pre (g.1,g.2.1,g.2.2.1,g.2.2.2.1,g.2.2.2.2.1,())/\
 bif !decide (zG zz g.1 g.2.1 g.2.2.1 g.2.2.2.1 g.2.2.2.2.1=0)then (
  K (.tu [.nil, .str (⟨#[]⟩:ByteArray), .int .i64 (zG zz g.1 g.2.1 g.2.2.1 g.2.2.2.1 g.2.2.2.2.1)]) [])
 else (
  F36_L2 K (g.2.2.2.2.1,(g.2.2.2.2.1.length:Int),0,g.1,g.2.1,g.2.2.1,g.2.2.2.1,g.2.2.2.2.1,[],()))
theorem F36_eq (g:prodL L36) (K X:Kn):F36 g K=qJ D (qk [(84,rw84)] [(43,false,sp43),(67,true,sp67),(68,true,sp68),(69,true,sp69),(70,true,sp70)]) (qx [(84,rw84)]) H36 J36 61 [.tmp 2, .tmp 3, .tmp 4] (qz Tryz.f36) (argsT S36 L36 g) (qe S36 O36 L36 g) (settleD (qe S36 O36 L36 g).length 0 K) X 0 1036000:=by kernel_rfl
theorem F36_ok (g:prodL L36) (K X:Kn) (h:F36 g K):FCalls Tryz.prog 36 (argsT S36 L36 g) (qe S36 O36 L36 g) K X 0:=
 FCalls.settleD (qq (Γ:=qk [(84,rw84)] [(43,false,sp43),(67,true,sp67),(68,true,sp68),(69,true,sp69),(70,true,sp70)]) (mu:=qx [(84,rw84)]) (H:=H36) (J:=J36) qW (qX (rs:=[(84,rw84)]) (l:=[(43,false,sp43),(67,true,sp67),(68,true,sp68),(69,true,sp69),(70,true,sp70)]) (by intro p hp;simp only [List.mem_cons,List.not_mem_nil,or_false] at hp;subst hp;exact rw84_ok) (by intro p hp;simp only [List.mem_cons,List.not_mem_nil,or_false] at hp;rcases hp with rfl | rfl | rfl | rfl | rfl<;>first | exact sp43_ok | exact sp67_ok | exact sp68_ok | exact sp69_ok | exact sp70_ok)) qj rfl Tryz.func36 (c:=qz Tryz.f36) rfl Tryz.ntmps36 (rs:=[.tmp 2, .tmp 3, .tmp 4]) Tryz.results36 (by unfold qv;rw [Tryz.func36];kernel_rfl) (Nat.le_of_ble_eq_true (by kernel_rfl)) (X:=X) (c0:=0) (Eq.mp (F36_eq g K X) h) (kj [16] (by kernel_rfl) (by kernel_rfl)))
def H73:List (Nat×Hint):=[(3,⟨[((4,[]),some .atm)],[(0, .leaf),(4, .oa .atm 0),(5, .leaf)],[.arr .atm],[.sl .chg, .int .i64, .sl .atm]⟩)]
def J73:List (Nat×Hint):=[]
abbrev S73:List Sh:=[.leaf]
abbrev L73:List Lf:=[.sl .chg]
def Wd (K:Kn) (W7:prodL [.sl .chg, .int .i64, .sl .atm]->Prop) (l_6:List Chg) (i_6:Int) (own_6:List Atm):Prop:=
 bif decide (i_6< (l_6.length:Int))then (
  At l_6 i_6 fun u8=>
 sp125.pre (u8,())/\
 bif !decide (jN u8=0)then (
  K (.tu [.nil, .int .i64 (jN u8)]) [])
 else (
  At l_6 i_6 fun u9=>
 sp126.pre (u9,own_6,())/\
 bif !decide (Qh u9 own_6=0)then (
  K (.tu [.nil, .int .i64 (Qh u9 own_6)]) [])
 else (
  At l_6 i_6 fun u10=>
 sp127.pre (u10,(own_6.length:Int),())/\
 qn (own_6.length+(j8 u10 (own_6.length:Int)).length) 296 (
 W7 (l_6,IntKind.i64.wrap (i_6+1),own_6++(j8 u10 (own_6.length:Int)),())))))
 else (
  K (.tu [.sl false .atm own_6, .int .i64 0]) [])
def F73_L7 (K:Kn) (g:prodL [.sl .chg, .int .i64, .sl .atm]):Prop:=
 qQ (γ:=prodL [.sl .chg, .int .i64, .sl .atm]) (fun V y=>Wd K V y.1 y.2.1 y.2.2.1) g
def F73 (g:prodL L73) (K:Kn):Prop:=
 F73_L7 K (g.1,0,[],())
theorem F73_eq (g:prodL L73) (K X:Kn):F73 g K=qJ D (qk [] [(125,true,sp125),(126,true,sp126),(127,false,sp127)]) (qx []) H73 J73 42 [.tmp 2, .tmp 3] (qz Tryz.f73) (argsT S73 L73 g) [] (settle0 K) X:=by kernel_rfl
theorem F73_ok (g:prodL L73) (K X:Kn) (h:F73 g K):FCalls Tryz.prog 73 (argsT S73 L73 g) [] K X:=
 FCalls.settle0 (qq qW (jx (zj sp125_ok (zj sp126_ok (zj sp127_ok jv)))) qj rfl Tryz.func73 (c:=qz Tryz.f73) rfl Tryz.ntmps73 Tryz.results73 (by unfold qv;rw [Tryz.func73];kernel_rfl) (Nat.le_of_ble_eq_true (by kernel_rfl)) (c0:=0) (Eq.mp (F73_eq g K X) h))
end Go.Proofs.YtbglndogddddoaaGreatDoor
namespace Go.Proofs.YtbglndogddddoaaGreatDoor
open Go.RowKit
set_option maxRecDepth 100000
def virtU (e0:El) (K:Kn):Kn:=fun r s=>match r with
 | .tu (.nil::us)=>K (.tu (.oa e0 s.length 0::us)) (ja s e0)
 | r=>K r s
theorem FCalls.virtU {P:Program} {f:FuncId} {vs:List T} {K X:Kn} {e0:El} (h:FCalls P f vs [] (virtU e0 K) X):FCalls P f vs [] K X:=by
 refine fun g w hg=>(h g w hg).mono fun e w' ⟨g',st',h1,h2,h3⟩=> ?_
 cases e with
 | returned x=>
  obtain ⟨r,r1,r2⟩:=h3
  unfold Go.Proofs.YtbglndogddddoaaGreatDoor.virtU at r1
  split at r1
  . rename_i us
    obtain ⟨g2,k1,k2,k3,k4⟩:=Jp h1 e0
    refine ⟨g2,_,k1,h2.trans (k3 _),_,r1, ?_⟩
    cases r2 with
    | tu _ xs a1 a2=>
     refine .tu _ xs (by simpa using a1) fun i c x hc hx=> ?_
     cases i with
     | zero=>
      simp only [List.getElem?_cons_zero,Option.some.injEq] at hc
      subst hc
      exact k4 _ (a2 0 .nil x rfl hx)
     | succ i=>exact (a2 (i+1) c x hc hx).mono k2
  . exact ⟨g',st',h1,h2,_,r1,r2⟩
 | panicked ch=>exact ⟨g',st',h1,h2,h3⟩
 | outgrown=>exact h3.elim
theorem jH {K:Kn} {e:El} {v:T} {s:St} (h:K (.tu [.sl false e [],v]) s):xa K (.tu [.nil,v]) s:=
 ⟨_,zr.tu (qP.cons (zr.nil e) (qP.cons (zr.refl _) qP.nil)),h⟩
def Qm (cs:List Chg) (n:Nat):List Atm:=(cs.take n).foldl (fun own c=>own++j8 c own.length) []
theorem QR {cs:List Chg} {n:Nat} (h:n<cs.length):Qm cs (n+1)=Qm cs n++j8 cs[n] (Qm cs n).length:=by
 unfold Qm
 rw [zI h,List.foldl_append];rfl
theorem qQ.chgs {γ:Type} {body:(γ->Prop)->γ->Prop} {g:γ} (f:Chg->Int) (r:Chg->List Atm->Int) (cs:List Chg) (S:Nat->List Atm->γ) (Q:List Atm×Int->Prop) (hQ:Q (xj f r cs [])) (hg:g=S 0 [])
  (hk: ∀c,f c=0->zN c) (hb:(cs.map qf).sum<=4194304)
  (step: ∀(W:γ->Prop) (n:Nat) (h:n<cs.length) (own:List Atm),own.length<=8388608->(f cs[n]≠0->Q ([],f cs[n]))->(f cs[n]=0->r cs[n] own≠0->Q ([],r cs[n] own))->(f cs[n]=0->r cs[n] own=0->W (S (n+1) (own++j8 cs[n] own.length)))->body W (S n own))
  (last: ∀(W:γ->Prop) (own:List Atm),(∀c∈cs,zN c)->Q (own,0)->body W (S cs.length own)):qQ body g:=by
 have sums: ∀n,((cs.take n).map qf).sum<=(cs.map qf).sum:=fun n=>by
  have e:(cs.map qf).sum=((cs.take n).map qf).sum+((cs.drop n).map qf).sum:=by
   rw [<- List.sum_append, <- List.map_append,List.take_append_drop]
  omega
 refine qQ.countTo cs.length (fun n=>S n (Qm cs n)) (fun n=>(Qm cs n).length<=2*((cs.take n).map qf).sum/\(∀c∈cs.take n,zN c)/\Q (xj f r (cs.drop n) (Qm cs n))) hg (fun n hn hp W hW=> ?_) ⟨by simp [Qm],fun c hc=>by simp at hc,by simpa [Qm] using hQ⟩
 obtain ⟨p1,p2,p3⟩:=hp
 have hs:=sums n
 by_cases hlt:n<cs.length
 . rw [List.drop_eq_getElem_cons hlt,xj] at p3
   refine step W n hlt _ (by omega) (fun z=> ?_) (fun z y=> ?_) fun z y=> ?_
   . rw [decide_eq_false z] at p3;exact p3
   . rw [decide_eq_true z,decide_eq_false y] at p3;exact p3
   . rw [decide_eq_true z,decide_eq_true y] at p3
     rw [<- QR hlt]
     refine hW hlt ⟨?_,fun c hc=> ?_, ?_⟩
     . rw [QR hlt,zI hlt,List.map_append,List.sum_append,List.length_append]
       have:=VO (n:=((Qm cs n).length:Int)) (hk _ z)
       simp only [List.map_cons,List.map_nil,List.sum_cons,List.sum_nil]
       omega
     . rw [zI hlt] at hc
       rcases List.mem_append.1 hc with hc | hc
       . exact p2 c hc
       . rw [List.mem_singleton.1 hc];exact hk _ z
     . rw [QR hlt];exact p3
 . have:n=cs.length:=by omega
   subst this
   rw [List.drop_length] at p3
   rw [List.take_length] at p2
   exact last W _ p2 p3
abbrev K3 (K:Kn):List Atm×ByteArray×Int->Prop:=fun x=>K (.tu [.oa .atm 0 0, .str x.2.1, .int .i64 x.2.2]) [some (.arr 0 .atm x.1)]
theorem F36_is {a m:ByteArray} {t:Int} {ds:List Dig} {cs:List Chg} {K:Kn} (hp:xP a m t ds cs) (h:K3 K (jp a m t ds cs)):F36 (a,m,t,ds,cs,()) (virtU .atm K):=by
 obtain ⟨h1,h2,h3,h4,h5,h6⟩:=hp
 have hl:=yg h5
 unfold F36
 unfold jp at h
 refine ⟨Nat.le_trans h2 (by omega), ?_⟩
 show bif !decide (zG zz a m t ds cs=0)then _ else _
 by_cases z:zG zz a m t ds cs=0
 rotate_left
 . rw [decide_eq_false z] at h ⊢;exact h
 rw [decide_eq_true z] at h ⊢
 rw [Bool.not_true,cond_false] at h ⊢
 unfold F36_L2
 refine qQ.chgs zp yD cs (fun n own=>(cs,(cs.length:Int),(n:Int),a,m,t,ds,cs,own,())) (fun r=>K3 K (Qg r (xu (zE a m t (jt ds) cs)))) h rfl (fun c=>zo) h5 (fun W n hn own ho e1 e2 e3=> ?_) fun W own hk h=> ?_
 . show Vh (virtU .atm K) W cs cs.length n a m t ds cs own
   unfold Vh
   rw [qo hn,cond_true]
   have hc:=kx h5 (List.getElem_mem hn)
   have hpp:=zk hc
   refine qB hn ⟨hc, ?_⟩
   by_cases y:zp cs[n]=0
   rotate_left
   . have e1:=e1 y
     unfold Qg at e1
     rw [decide_eq_false y] at e1 ⊢;exact e1
   rw [decide_eq_true y,Bool.not_true,cond_false]
   refine ⟨hpp.2.2.2.2, ?_⟩
   by_cases x:yD cs[n] own=0
   rotate_left
   . have e2:=e2 y x
     unfold Qg at e2
     rw [decide_eq_false x] at e2 ⊢;exact e2
   rw [decide_eq_true x,Bool.not_true,cond_false]
   refine ⟨trivial,⟨⟨zo y,hpp.2.2.1,by omega,by show (own.length:Int)<=_;omega⟩,by show own.length<=_;omega⟩, ?_⟩
   rw [zy hn (by omega)]
   exact e3 y x
 . show Vh (virtU .atm K) W cs cs.length cs.length a m t ds cs own
   unfold Vh
   rw [qg,cond_false]
   refine ⟨⟨h1,h2,h3,h4,h5,fun c hc=>⟨h6 c hc,hk c hc⟩⟩, ?_⟩
   have hJ: ∀b,K3 K (qzy own (xu (zE a m t (jt ds) cs)).1 b)->Ys (virtU .atm K) (xu (zE a m t (jt ds) cs)).1 b own:=by
    intro b h
    unfold Ys
    cases b
    . exact h
    . exact h
   exact xO (J:=fun b=>Ys (virtU .atm K) (xu (zE a m t (jt ds) cs)).1 b own) (f:=fun b=>qzy own (xu (zE a m t (jt ds) cs)).1 b) (K:=K3 K) hJ h
def w8:Sp:=⟨S36,L36,fun g=>xP g.1 g.2.1 g.2.2.1 g.2.2.2.1 g.2.2.2.2.1,fun g=> .tu [.oa .atm 0 0, .str (jp g.1 g.2.1 g.2.2.1 g.2.2.2.1 g.2.2.2.2.1).2.1, .int .i64 (jp g.1 g.2.1 g.2.2.1 g.2.2.2.1 g.2.2.2.2.1).2.2],fun g=>some (.arr 0 .atm (jp g.1 g.2.1 g.2.2.1 g.2.2.2.1 g.2.2.2.2.1).1)⟩
theorem XU:w8.Ok Tryz.prog 36 false:=
 ⟨fun g K X hp h=>FCalls.virtU (e0:= .atm) (F36_ok g (virtU .atm K) X (F36_is hp h)),fun _ _ _=>rfl,fun _=>rfl,fun h=>(by cases h)⟩
abbrev K2 (K:Kn):List Atm×Int->Prop:=fun x=>K (.tu [.sl false .atm x.1, .int .i64 x.2]) []
theorem F73_is {cs:List Chg} {K:Kn} (h5:(cs.map qf).sum<=4194304) (h:K2 K (yS cs)):F73 (cs,()) (xa K):=by
 have hl:=yg h5
 unfold F73 F73_L7
 refine qQ.chgs jN Qh cs (fun n own=>(cs,(n:Int),own,())) (K2 K) h rfl (fun c=>jP) h5 (fun W n hn own ho e1 e2 e3=> ?_) fun W own hk h=> ?_
 . show Wd (xa K) W cs n own
   unfold Wd
   rw [qo hn,cond_true]
   have hc:=kx h5 (List.getElem_mem hn)
   have hpp:=zk hc
   refine qB hn ⟨hc, ?_⟩
   by_cases y:jN cs[n]=0
   rotate_left
   . have e1:=e1 y
     rw [decide_eq_false y];exact jH e1
   rw [decide_eq_true y,Bool.not_true,cond_false]
   refine qB hn ⟨hc, ?_⟩
   by_cases x:Qh cs[n] own=0
   rotate_left
   . have e2:=e2 y x
     rw [decide_eq_false x];exact jH e2
   rw [decide_eq_true x,Bool.not_true,cond_false]
   have hm:=VO (n:=(own.length:Int)) (jP y)
   have hc':qf cs[n]<=4194304:=hc
   refine qB hn ⟨⟨jP y,hpp.2.2.1,Int.natCast_nonneg _,by show (own.length:Int)<=_;omega⟩,by omega, ?_⟩
   rw [zy hn (by omega)]
   exact e3 y x
 . show Wd (xa K) W cs cs.length own
   unfold Wd
   rw [qg,cond_false]
   exact xa.same h
def sp73:Sp:=⟨S73,L73,fun g=>(g.1.map qf).sum<=4194304,fun g=> .tu [.sl false .atm (yS g.1).1, .int .i64 (yS g.1).2],fun _=>none⟩
theorem sp73_ok:sp73.Ok Tryz.prog 73 false:=
 ⟨fun g K X hp h=>FCalls.weak (F73_ok g (xa K) X (F73_is hp h)),fun _ _ _=>rfl,fun _=>rfl,fun h=>(by cases h)⟩
set_option maxRecDepth 100000
def Qa (a m:ByteArray) (t:Int) (ds:List Dig) (cs:List Chg):ByteArray×Int:=bif !decide ((JD a m t ds cs).2=0)then (⟨#[]⟩,(JD a m t ds cs).2)else encQ a m t ds cs
def vS (l:List Chg):Int:=l.foldl (fun n c=>n+wd c) 0
def cntR (a m:ByteArray) (t:Int) (ds:List Dig) (cs:List Chg):Int:=bif !decide ((Qa a m t ds cs).2=0)then 0 else vS cs
def Y2 (cs:List Chg) (i:Int) (b:Bool):Int:=bif b then 0 else vS (cs.take i.toNat)
def firP (a m:ByteArray) (t:Int) (ds:List Dig) (cs:List Chg) (i:Int):Int:=Y2 cs i (bif !decide ((jp a m t ds cs).2.2=0)then true else bif decide (i<0)then true else decide ((cs.length:Int)<=i))
def firR (a m:ByteArray) (t:Int) (ds:List Dig) (cs:List Chg) (i:Int):Int:=Y2 cs i (bif decide (i<0)then true else bif decide ((cs.length:Int)<=i)then true else !decide ((Qa a m t ds cs).2=0))
theorem Yy {f:Chg->Int} {r:Chg->List Atm->Int}: ∀{cs:List Chg} {own:List Atm},(xj f r cs own).2=0-> ∀c∈cs,f c=0
 | [],_,_=>fun c hc=>by cases hc
 | c::l,own,h=>by
  rw [xj] at h
  by_cases z:f c=0
  . rw [decide_eq_true z,Bool.not_true,cond_false] at h
    by_cases y:r c own=0
    . rw [decide_eq_true y,Bool.not_true,cond_false] at h
      intro d hd
      rcases List.mem_cons.1 hd with rfl | hd
      . exact z
      . exact Yy h d hd
    . rw [decide_eq_false y] at h;exact absurd h y
  . rw [decide_eq_false z] at h;exact absurd h z
theorem qqG {a m:ByteArray} {t:Int} {ds:List Dig} {cs:List Chg} (h:(jp a m t ds cs).2.2=0):zG zz a m t ds cs=0/\(yT cs).2=0/\(xu (zE a m t (jt ds) cs)).2=0/\((xu (zE a m t (jt ds) cs)).1.size:Int)<=65536:=by
 unfold jp at h
 by_cases z:zG zz a m t ds cs=0
 rotate_left
 . rw [decide_eq_false z] at h;exact absurd h z
 rw [decide_eq_true z,Bool.not_true,cond_false] at h
 unfold Qg at h
 by_cases y:(yT cs).2=0
 rotate_left
 . rw [decide_eq_false y] at h;exact absurd h y
 rw [decide_eq_true y,Bool.not_true,cond_false] at h
 unfold qzy at h
 by_cases x:(xu (zE a m t (jt ds) cs)).2=0
 rotate_left
 . rw [decide_eq_false x] at h;exact absurd h (show (4:Int)≠0 by decide)
 rw [decide_eq_true x,Bool.not_true,cond_false] at h
 by_cases w:65536< ((xu (zE a m t (jt ds) cs)).1.size:Int)
 . rw [decide_eq_true w] at h;exact absurd h (show (4:Int)≠0 by decide)
 . exact ⟨z,y,x,by omega⟩
theorem exP_eq {a m:ByteArray} {t:Int} {ds:List Dig} {cs:List Chg} (h:(jp a m t ds cs).2.2=0):jp a m t ds cs=((yT cs).1,(xu (zE a m t (jt ds) cs)).1,0):=by
 obtain ⟨h1,h2,h3,h4⟩:=qqG h
 unfold jp Qg qzy
 rw [decide_eq_true h1,decide_eq_true h2,decide_eq_true h3,decide_eq_false (show¬65536< ((xu (zE a m t (jt ds) cs)).1.size:Int)by omega)]
 rfl
theorem chkR_ok {a m:ByteArray} {t:Int} {ds:List Dig} {cs:List Chg} (h:(JD a m t ds cs).2=0):zG jL a m t ds cs=0/\(yS cs).2=0:=by
 unfold JD at h
 by_cases z:zG jL a m t ds cs=0
 . rw [decide_eq_true z,Bool.not_true,cond_false] at h;exact ⟨z,h⟩
 . rw [decide_eq_false z] at h;exact absurd h z
theorem cntC_eq {c:Chg} (h:c.lines.length<=4194304):wd c=if c.kind=5 then 2*(c.lines.length:Int)+1 else 1:=by
 unfold wd
 by_cases e:c.kind=5
 . rw [decide_eq_true e,cond_true,if_pos e,w64 (n:=2*(c.lines.length:Int)) (by omega),w64 (by omega)]
 . rw [decide_eq_false e,cond_false,if_neg e]
theorem cntC_le {c:Chg} (h:wm c):0<=wd c/\wd c<=2*(qf c:Int):=by
 have hl:=zk h
 rw [cntC_eq hl.2.2.1]
 have:=v6 z6 1 c.lines fun x _=>by unfold z6;omega
 unfold qf
 split<;>omega
theorem QV {cs:List Chg} {n:Nat} (h:n<cs.length):vS (cs.take (n+1))=vS (cs.take n)+wd cs[n]:=by
 unfold vS
 rw [zI h,List.foldl_append];rfl
theorem qzh {cs:List Chg} (h:(cs.map qf).sum<=4194304) (n:Nat):0<=vS (cs.take n)/\vS (cs.take n)<=8388608:=by
 have key: ∀n,n<=cs.length->0<=vS (cs.take n)/\vS (cs.take n)<=2*(((cs.take n).map qf).sum:Int):=by
  intro n
  induction n with
  | zero=>intro _;simp [vS]
  | succ n ih=>
   intro hn
   have h1:=ih (by omega)
   have h2:=cntC_le (kx h (List.getElem_mem (show n<cs.length by omega)))
   rw [QV (by omega),zI (by omega),List.map_append,List.sum_append]
   simp only [List.map_cons,List.map_nil,List.sum_cons,List.sum_nil]
   omega
 have hs: ∀n,((cs.take n).map qf).sum<=(cs.map qf).sum:=fun n=>by
  have e:(cs.map qf).sum=((cs.take n).map qf).sum+((cs.drop n).map qf).sum:=by
   rw [<- List.sum_append, <- List.map_append,List.take_append_drop]
  omega
 by_cases hn:n<=cs.length
 . have:=key n hn;have:=hs n;omega
 . rw [List.take_of_length_le (by omega)]
   have h1:=key cs.length (Nat.le_refl _)
   have h2:=hs cs.length
   rw [List.take_length] at h1 h2
   omega
end Go.Proofs.YtbglndogddddoaaGreatDoor
namespace Go.Proofs.YtbglndogddddoaaGreatDoor
open Go.RowKit
attribute [local irreducible] qJ qh
set_option maxRecDepth 100000
def H37:List (Nat×Hint):=[]
def J37:List (Nat×Hint):=[(6,⟨[((1,[]),none)],[(1, .pt 0 0),(20, .leaf)],[.cells [.leaf, .leaf, .leaf, .leaf, .leaf]],[.bool, .str, .str, .int .i64, .sl .dig, .sl .chg]⟩)]
abbrev S37:List Sh:=[.ag [.leaf, .leaf, .leaf, .leaf, .leaf]]
abbrev L37:List Lf:=[.str, .str, .int .i64, .sl .dig, .sl .chg]
def VE (K:Kn) (t_1:Bool) (p1_1 p2_1:ByteArray) (p3_1:Int) (p4_1:List Dig) (p5_1:List Chg):Prop:=
 bif t_1 then (
  K (.tu [.nil, .int .i64 2]) [])
 else (
  True/\
 bif !decide (jQ jL p4_1=0)then (
  K (.tu [.nil, .int .i64 (jQ jL p4_1)]) [])
 else (
  bif decide ((p5_1.length:Int)=0)then (
  K (.tu [.nil, .int .i64 1]) [])
 else (
  bif decide (400< (p5_1.length:Int))then (
  K (.tu [.nil, .int .i64 4]) [])
 else (
  sp73.pre (p5_1,())/\
 K (.tu [.sl false .atm ((yS p5_1).1), .int .i64 ((yS p5_1).2)]) []))))
def F37 (g:prodL L37) (K:Kn):Prop:=
 sp71.pre (g.1,())/\
 bif !(xc g.1)then (
  K (.tu [.nil, .int .i64 5]) [])
 else (
  bif decide (1000< (g.2.1.size:Int))then (
  K (.tu [.nil, .int .i64 4]) [])
 else (
  bif decide (g.2.2.1<0)then (
  VE K true g.1 g.2.1 g.2.2.1 g.2.2.2.1 g.2.2.2.2.1)
 else (
  VE K (decide (1099511627776<g.2.2.1)) g.1 g.2.1 g.2.2.1 g.2.2.2.1 g.2.2.2.2.1)))
theorem F37_eq (g:prodL L37) (K X:Kn):F37 g K=qJ D (qk [] [(71,true,sp71),(72,true,sp72),(73,false,sp73)]) (qx []) H37 J37 40 [.tmp 2, .tmp 3] (qz Tryz.f37) (argsT S37 L37 g) [] (settle0 K) X:=by kernel_rfl
theorem F37_ok (g:prodL L37) (K X:Kn) (h:F37 g K):FCalls Tryz.prog 37 (argsT S37 L37 g) [] K X:=
 FCalls.settle0 (qq qW (jx (zj sp71_ok (zj sp72_ok (zj sp73_ok jv)))) qj rfl Tryz.func37 (c:=qz Tryz.f37) rfl Tryz.ntmps37 Tryz.results37 (by unfold qv;rw [Tryz.func37];kernel_rfl) (Nat.le_of_ble_eq_true (by kernel_rfl)) (c0:=0) (Eq.mp (F37_eq g K X) h))
def H13:List (Nat×Hint):=[]
def J13:List (Nat×Hint):=[]
abbrev S13:List Sh:=[.ag [.leaf, .leaf, .leaf, .leaf, .leaf]]
abbrev L13:List Lf:=[.str, .str, .int .i64, .sl .dig, .sl .chg]
def F13 (g:prodL L13) (K:Kn):Prop:=
 w8.pre (g.1,g.2.1,g.2.2.1,g.2.2.2.1,g.2.2.2.2.1,())/\
 K (.tu [.str ((jp g.1 g.2.1 g.2.2.1 g.2.2.2.1 g.2.2.2.2.1).2.1), .int .i64 ((jp g.1 g.2.1 g.2.2.1 g.2.2.2.1 g.2.2.2.2.1).2.2)]) []
theorem F13_eq (g:prodL L13) (K X:Kn):F13 g K=qJ D (qk [] [(36,false,w8)]) (qx []) H13 J13 15 [.tmp 2, .tmp 3] (qz Tryz.f13) (argsT S13 L13 g) [] (settle0 K) X:=by kernel_rfl
theorem F13_ok (g:prodL L13) (K X:Kn) (h:F13 g K):FCalls Tryz.prog 13 (argsT S13 L13 g) [] K X:=
 FCalls.settle0 (qq (Γ:=qk [] [(36,false,w8)]) (mu:=qx []) (H:=H13) (J:=J13) qW (qX (rs:=[]) (l:=[(36,false,w8)]) (fun p hp=>by cases hp) (by intro p hp;simp only [List.mem_cons,List.not_mem_nil,or_false] at hp;subst hp;exact XU)) qj rfl Tryz.func13 (c:=qz Tryz.f13) rfl Tryz.ntmps13 Tryz.results13 (by unfold qv;rw [Tryz.func13];kernel_rfl) (Nat.le_of_ble_eq_true (by kernel_rfl)) (c0:=0) (Eq.mp (F13_eq g K X) h))
def sp13:Sp:=⟨S13,L13,fun g=>w8.pre g,fun g=> .tu [.str ((jp g.1 g.2.1 g.2.2.1 g.2.2.2.1 g.2.2.2.2.1).2.1), .int .i64 ((jp g.1 g.2.1 g.2.2.1 g.2.2.2.1 g.2.2.2.2.1).2.2)],fun _=>none⟩
theorem sp13_ok:sp13.Ok Tryz.prog 13 true:=
 ⟨fun g K X hp h=>F13_ok g K X (by
  have h:K (.tu [.str ((jp g.1 g.2.1 g.2.2.1 g.2.2.2.1 g.2.2.2.2.1).2.1), .int .i64 ((jp g.1 g.2.1 g.2.2.1 g.2.2.2.1 g.2.2.2.2.1).2.2)]) []:=h
  exact ⟨hp,h⟩),fun _ _ _=>rfl,fun _=>rfl,by first | exact fun _ _=>⟨rfl,rfl⟩ | (intro h;cases h)⟩
def H19:List (Nat×Hint):=[]
def J19:List (Nat×Hint):=[]
abbrev S19:List Sh:=[.ag [.leaf, .leaf, .leaf, .leaf, .leaf]]
abbrev L19:List Lf:=[.str, .str, .int .i64, .sl .dig, .sl .chg]
def F19 (g:prodL L19) (K:Kn):Prop:=
 w8.pre (g.1,g.2.1,g.2.2.1,g.2.2.2.1,g.2.2.2.2.1,())/\
 K (.int .i64 ((jp g.1 g.2.1 g.2.2.1 g.2.2.2.1 g.2.2.2.2.1).2.2)) []
theorem F19_eq (g:prodL L19) (K X:Kn):F19 g K=qJ D (qk [] [(36,false,w8)]) (qx []) H19 J19 13 [.tmp 2] (qz Tryz.f19) (argsT S19 L19 g) [] (settle0 K) X:=by kernel_rfl
theorem F19_ok (g:prodL L19) (K X:Kn) (h:F19 g K):FCalls Tryz.prog 19 (argsT S19 L19 g) [] K X:=
 FCalls.settle0 (qq (Γ:=qk [] [(36,false,w8)]) (mu:=qx []) (H:=H19) (J:=J19) qW (qX (rs:=[]) (l:=[(36,false,w8)]) (fun p hp=>by cases hp) (by intro p hp;simp only [List.mem_cons,List.not_mem_nil,or_false] at hp;subst hp;exact XU)) qj rfl Tryz.func19 (c:=qz Tryz.f19) rfl Tryz.ntmps19 Tryz.results19 (by unfold qv;rw [Tryz.func19];kernel_rfl) (Nat.le_of_ble_eq_true (by kernel_rfl)) (c0:=0) (Eq.mp (F19_eq g K X) h))
def sp19:Sp:=⟨S19,L19,fun g=>w8.pre g,fun g=> .int .i64 ((jp g.1 g.2.1 g.2.2.1 g.2.2.2.1 g.2.2.2.2.1).2.2),fun _=>none⟩
theorem sp19_ok:sp19.Ok Tryz.prog 19 true:=
 ⟨fun g K X hp h=>F19_ok g K X (by
  have h:K (.int .i64 ((jp g.1 g.2.1 g.2.2.1 g.2.2.2.1 g.2.2.2.2.1).2.2)) []:=h
  exact ⟨hp,h⟩),fun _ _ _=>rfl,fun _=>rfl,by first | exact fun _ _=>⟨rfl,rfl⟩ | (intro h;cases h)⟩
def H21:List (Nat×Hint):=[]
def J21:List (Nat×Hint):=[]
abbrev S21:List Sh:=[.ag [.leaf, .leaf, .leaf, .leaf, .leaf]]
abbrev L21:List Lf:=[.str, .str, .int .i64, .sl .dig, .sl .chg]
def F21 (g:prodL L21) (K:Kn):Prop:=
 w8.pre (g.1,g.2.1,g.2.2.1,g.2.2.2.1,g.2.2.2.2.1,())/\
 K (.int .i64 ((((jp g.1 g.2.1 g.2.2.1 g.2.2.2.1 g.2.2.2.2.1).1).length:Nat):Int)) []
theorem F21_eq (g:prodL L21) (K X:Kn):F21 g K=qJ D (qk [] [(36,false,w8)]) (qx []) H21 J21 14 [.tmp 2] (qz Tryz.f21) (argsT S21 L21 g) [] (settle0 K) X:=by kernel_rfl
theorem F21_ok (g:prodL L21) (K X:Kn) (h:F21 g K):FCalls Tryz.prog 21 (argsT S21 L21 g) [] K X:=
 FCalls.settle0 (qq (Γ:=qk [] [(36,false,w8)]) (mu:=qx []) (H:=H21) (J:=J21) qW (qX (rs:=[]) (l:=[(36,false,w8)]) (fun p hp=>by cases hp) (by intro p hp;simp only [List.mem_cons,List.not_mem_nil,or_false] at hp;subst hp;exact XU)) qj rfl Tryz.func21 (c:=qz Tryz.f21) rfl Tryz.ntmps21 Tryz.results21 (by unfold qv;rw [Tryz.func21];kernel_rfl) (Nat.le_of_ble_eq_true (by kernel_rfl)) (c0:=0) (Eq.mp (F21_eq g K X) h))
def sp21:Sp:=⟨S21,L21,fun g=>w8.pre g,fun g=> .int .i64 (((jp g.1 g.2.1 g.2.2.1 g.2.2.2.1 g.2.2.2.2.1).1.length:Nat):Int),fun _=>none⟩
theorem sp21_ok:sp21.Ok Tryz.prog 21 true:=
 ⟨fun g K X hp h=>F21_ok g K X (by
  have h:K (.int .i64 (((jp g.1 g.2.1 g.2.2.1 g.2.2.2.1 g.2.2.2.2.1).1.length:Nat):Int)) []:=h
  exact ⟨hp,h⟩),fun _ _ _=>rfl,fun _=>rfl,by first | exact fun _ _=>⟨rfl,rfl⟩ | (intro h;cases h)⟩
def H23:List (Nat×Hint):=[(5,⟨[((5,[]),none)],[(5, .pt 0 0),(25, .leaf),(26, .leaf),(27, .leaf)],[.cells [.leaf]],[.sl .chg, .int .i64, .int .i64, .int .i64]⟩)]
def J23:List (Nat×Hint):=[(2,⟨[((2,[]),none)],[(1, .leaf),(2, .pt 0 0),(21, .leaf)],[.cells [.leaf, .leaf, .leaf, .leaf, .leaf]],[.int .i64, .bool, .str, .str, .int .i64, .sl .dig, .sl .chg]⟩)]
abbrev S23:List Sh:=[.ag [.leaf, .leaf, .leaf, .leaf, .leaf], .leaf]
abbrev L23:List Lf:=[.str, .str, .int .i64, .sl .dig, .sl .chg, .int .i64]
def F23_B4 (K:Kn) (W4:prodL [.sl .chg, .int .i64, .int .i64, .int .i64]->Prop) (t_3:List Chg) (t2_3 t3_3 n_3:Int):Prop:=
 bif decide (t3_3<t2_3)then (
  At t_3 t3_3 fun u5=>
 True/\
 pre84b (n_3,u5,n_3,())/\
 W4 (t_3,t2_3,IntKind.i64.wrap (t3_3+1),n_3+wd u5,()))
 else (
  K (.int .i64 n_3) [])
def F23_L4 (K:Kn) (g:prodL [.sl .chg, .int .i64, .int .i64, .int .i64]):Prop:=
 qQ (γ:=prodL [.sl .chg, .int .i64, .int .i64, .int .i64]) (fun V y=>F23_B4 K V y.1 y.2.1 y.2.2.1 y.2.2.2.1) g
def WU (K:Kn) (change_1:Int) (t_1:Bool) (p1_1 p2_1:ByteArray) (p3_1:Int) (p4_1:List Dig) (p5_1:List Chg):Prop:=
 bif t_1 then (
  K (.int .i64 0) [])
 else (
  (0:Int)<=0/\0<=change_1/\change_1<=(p5_1.length:Int)/\
 F23_L4 K ((p5_1.take change_1.toNat).drop ((0:Int).toNat),((((p5_1.take change_1.toNat).drop ((0:Int).toNat)).length:Nat):Int),0,0,()))
def F23 (g:prodL L23) (K:Kn):Prop:=
 sp19.pre (g.1,g.2.1,g.2.2.1,g.2.2.2.1,g.2.2.2.2.1,())/\
 bif !decide ((jp g.1 g.2.1 g.2.2.1 g.2.2.2.1 g.2.2.2.2.1).2.2=0)then (
  WU K g.2.2.2.2.2.1 true g.1 g.2.1 g.2.2.1 g.2.2.2.1 g.2.2.2.2.1)
 else (
  bif decide (g.2.2.2.2.2.1<0)then (
   WU K g.2.2.2.2.2.1 true g.1 g.2.1 g.2.2.1 g.2.2.2.1 g.2.2.2.2.1)
  else (
   WU K g.2.2.2.2.2.1 (decide ((g.2.2.2.2.1.length:Int)<=g.2.2.2.2.2.1)) g.1 g.2.1 g.2.2.1 g.2.2.2.1 g.2.2.2.2.1))
theorem F23_eq (g:prodL L23) (K X:Kn):F23 g K=qJ D (qk [(84,qqk)] [(19,true,sp19),(43,false,sp43)]) (qx [(84,qqk)]) H23 J23 39 [.tmp 4] (qz Tryz.f23) (argsT S23 L23 g) [] (settle0 K) X 0 1023000:=by kernel_rfl
theorem F23_ok (g:prodL L23) (K X:Kn) (h:F23 g K):FCalls Tryz.prog 23 (argsT S23 L23 g) [] K X:=
 FCalls.settle0 (qq (Γ:=qk [(84,qqk)] [(19,true,sp19),(43,false,sp43)]) (mu:=qx [(84,qqk)]) (H:=H23) (J:=J23) qW (qX (rs:=[(84,qqk)]) (l:=[(19,true,sp19),(43,false,sp43)]) (by intro p hp;simp only [List.mem_cons,List.not_mem_nil,or_false] at hp;subst hp;exact rw84b_ok) (by intro p hp;simp only [List.mem_cons,List.not_mem_nil,or_false] at hp;rcases hp with rfl | rfl<;>first | exact sp19_ok | exact sp43_ok)) qj rfl Tryz.func23 (c:=qz Tryz.f23) rfl Tryz.ntmps23 Tryz.results23 (by unfold qv;rw [Tryz.func23];kernel_rfl) (Nat.le_of_ble_eq_true (by kernel_rfl)) (c0:=0) (Eq.mp (F23_eq g K X) h) (kj [8] (by kernel_rfl) (by kernel_rfl)))
end Go.Proofs.YtbglndogddddoaaGreatDoor
namespace Go.Proofs.YtbglndogddddoaaGreatDoor
open Go.RowKit
set_option maxRecDepth 100000
theorem F37_is {a m:ByteArray} {t:Int} {ds:List Dig} {cs:List Chg} {K:Kn} (hp:xP a m t ds cs) (h:K2 K (JD a m t ds cs)):F37 (a,m,t,ds,cs,()) (xa K):=by
 obtain ⟨h1,h2,h3,h4,h5,h6⟩:=hp
 unfold F37
 unfold JD zG at h
 refine ⟨Nat.le_trans h2 (by omega), ?_⟩
 show bif !(xc a)then _ else _
 cases c1:xc a
 . rw [c1] at h;exact jH h
 rw [c1] at h
 rw [Bool.not_true,cond_false] at h ⊢
 cases c2:decide (1000< (m.size:Int))
 rotate_left
 . rw [c2] at h;exact jH h
 rw [c2] at h
 rw [cond_false] at h ⊢
 have hJ: ∀b,K2 K (bif !decide ((bif b then 2 else bif !decide (jQ jL ds=0)then jQ jL ds else bif decide ((cs.length:Int)=0)then 1 else bif decide (400< (cs.length:Int))then 4 else 0)=0)then ([],bif b then 2 else bif !decide (jQ jL ds=0)then jQ jL ds else bif decide ((cs.length:Int)=0)then 1 else bif decide (400< (cs.length:Int))then 4 else 0)else yS cs)->VE (xa K) b a m t ds cs:=by
  intro b h
  unfold VE
  cases b
  rotate_left
  . exact jH h
  rw [cond_false] at h ⊢
  refine ⟨trivial, ?_⟩
  by_cases z:jQ jL ds=0
  rotate_left
  . rw [decide_eq_false z] at h ⊢
    rw [Bool.not_false,cond_true,decide_eq_false z] at h
    exact jH h
  rw [decide_eq_true z] at h ⊢
  rw [Bool.not_true,cond_false] at h ⊢
  cases c3:decide ((cs.length:Int)=0)
  rotate_left
  . rw [c3] at h;exact jH h
  rw [c3] at h
  rw [cond_false] at h ⊢
  cases c4:decide (400< (cs.length:Int))
  rotate_left
  . rw [c4] at h;exact jH h
  rw [c4] at h
  exact ⟨h5,xa.same h⟩
 exact xO (J:=fun b=>VE (xa K) b a m t ds cs) (f:=fun b=>bif !decide ((bif b then 2 else bif !decide (jQ jL ds=0)then jQ jL ds else bif decide ((cs.length:Int)=0)then 1 else bif decide (400< (cs.length:Int))then 4 else 0)=0)then ([],bif b then 2 else bif !decide (jQ jL ds=0)then jQ jL ds else bif decide ((cs.length:Int)=0)then 1 else bif decide (400< (cs.length:Int))then 4 else 0)else yS cs) (K:=K2 K) hJ h
def sp37:Sp:=⟨S37,L37,fun g=>xP g.1 g.2.1 g.2.2.1 g.2.2.2.1 g.2.2.2.2.1,fun g=> .tu [.sl false .atm (JD g.1 g.2.1 g.2.2.1 g.2.2.2.1 g.2.2.2.2.1).1, .int .i64 (JD g.1 g.2.1 g.2.2.1 g.2.2.2.1 g.2.2.2.2.1).2],fun _=>none⟩
theorem sp37_ok:sp37.Ok Tryz.prog 37 false:=
 ⟨fun g K X hp h=>FCalls.weak (F37_ok g (xa K) X (F37_is hp h)),fun _ _ _=>rfl,fun _=>rfl,fun h=>(by cases h)⟩
theorem F23_is {a m:ByteArray} {t:Int} {ds:List Dig} {cs:List Chg} {i:Int} {K:Kn} (hp:xP a m t ds cs) (h:KI K (firP a m t ds cs i)):F23 (a,m,t,ds,cs,i,()) K:=by
 have hp':=hp
 obtain ⟨h1,h2,h3,h4,h5,h6⟩:=hp'
 have hl:=yg h5
 unfold F23
 refine ⟨hp, ?_⟩
 unfold firP at h
 have hJ: ∀b,(b=false->(∀c∈cs,zN c)/\0<=i/\i< (cs.length:Int))->KI K (Y2 cs i b)->WU K i b a m t ds cs:=by
  intro b hb h
  unfold WU
  unfold Y2 at h
  cases b
  rotate_left
  . exact h
  obtain ⟨hk,i0,i1⟩:=hb rfl
  rw [cond_false] at h ⊢
  refine ⟨Int.le_refl 0,i0,by omega, ?_⟩
  rw [show (cs.take i.toNat).drop (0:Int).toNat=cs.take i.toNat from rfl]
  have hlen:(cs.take i.toNat).length=i.toNat:=by rw [List.length_take];omega
  unfold F23_L4
  refine qQ.countTo (cs.take i.toNat).length (fun n=>(cs.take i.toNat,(((cs.take i.toNat).length:Nat):Int),(n:Int),vS (cs.take n),())) (fun _=>True) rfl (fun n hn _ W hW=> ?_) trivial
  show F23_B4 K W (cs.take i.toNat) (((cs.take i.toNat).length:Nat):Int) n (vS (cs.take n))
  unfold F23_B4
  have hcn:=qzh h5 n
  by_cases hlt:n< (cs.take i.toNat).length
  . rw [qo hlt,cond_true]
    have hn2:n<cs.length:=by omega
    have hg:(cs.take i.toNat)[n]=cs[n]:=by simp
    have hm:=List.getElem_mem hn2
    refine qB hlt ⟨trivial, ?_⟩
    rw [hg,zy hlt (by omega), <- QV hn2]
    exact ⟨⟨⟨hk _ hm,(zk (kx h5 hm)).2.2.1,hcn.1,by show vS (cs.take n)<=_;omega⟩,hcn.1,by show vS (cs.take n)<=_;omega⟩,hW hlt trivial⟩
  . have:n=(cs.take i.toNat).length:=by omega
    subst this
    rw [qg,cond_false,hlen]
    exact h
 show bif !decide ((jp a m t ds cs).2.2=0)then _ else _
 by_cases z:(jp a m t ds cs).2.2=0
 rotate_left
 . rw [decide_eq_false z] at h ⊢
   exact hJ true (fun e=>by cases e) h
 have hk: ∀c∈cs,zN c:=fun c hc=>zo (Yy (qqG z).2.1 c hc)
 rw [decide_eq_true z] at h ⊢
 rw [Bool.not_true,cond_false] at h ⊢
 show bif decide (i<0)then _ else _
 cases e1:decide (i<0)
 . rw [e1] at h
   exact hJ _ (fun e2=>⟨hk,by have e3: ¬i<0:=of_decide_eq_false e1;omega,by have e3: ¬(cs.length:Int)<=i:=of_decide_eq_false e2;omega⟩) h
 . rw [e1] at h
   exact hJ true (fun e=>by cases e) h
def sp23:Sp:=⟨S23,L23,fun g=>xP g.1 g.2.1 g.2.2.1 g.2.2.2.1 g.2.2.2.2.1,fun g=> .int .i64 (firP g.1 g.2.1 g.2.2.1 g.2.2.2.1 g.2.2.2.2.1 g.2.2.2.2.2.1),fun _=>none⟩
theorem sp23_ok:sp23.Ok Tryz.prog 23 true:=
 ⟨fun g K X hp h=>F23_ok g K X (F23_is hp h),fun _ _ _=>rfl,fun _=>rfl,fun _ _=>⟨rfl,rfl⟩⟩
end Go.Proofs.YtbglndogddddoaaGreatDoor
namespace Go.Proofs.YtbglndogddddoaaGreatDoor
open Go.RowKit
attribute [local irreducible] qJ qh
set_option maxRecDepth 100000
def H14:List (Nat×Hint):=[]
def J14:List (Nat×Hint):=[]
abbrev S14:List Sh:=[.ag [.leaf, .leaf, .leaf, .leaf, .leaf]]
abbrev L14:List Lf:=[.str, .str, .int .i64, .sl .dig, .sl .chg]
def F14 (g:prodL L14) (K:Kn):Prop:=
 sp37.pre (g.1,g.2.1,g.2.2.1,g.2.2.2.1,g.2.2.2.2.1,())/\
 bif !decide ((JD g.1 g.2.1 g.2.2.1 g.2.2.2.1 g.2.2.2.2.1).2=0)then (
  K (.tu [.str (⟨#[]⟩:ByteArray), .int .i64 ((JD g.1 g.2.1 g.2.2.1 g.2.2.2.1 g.2.2.2.2.1).2)]) [])
 else (
  sp38.pre (g.1,g.2.1,g.2.2.1,g.2.2.2.1,g.2.2.2.2.1,())/\
 K (.tu [.str ((encQ g.1 g.2.1 g.2.2.1 g.2.2.2.1 g.2.2.2.2.1).1), .int .i64 ((encQ g.1 g.2.1 g.2.2.1 g.2.2.2.1 g.2.2.2.2.1).2)]) [])
theorem F14_eq (g:prodL L14) (K X:Kn):F14 g K=qJ D (qk [] [(37,false,sp37),(38,true,sp38)]) (qx []) H14 J14 18 [.tmp 2, .tmp 3] (qz Tryz.f14) (argsT S14 L14 g) [] (settle0 K) X:=by kernel_rfl
theorem F14_ok (g:prodL L14) (K X:Kn) (h:F14 g K):FCalls Tryz.prog 14 (argsT S14 L14 g) [] K X:=
 FCalls.settle0 (qq qW (jx (zj sp37_ok (zj sp38_ok jv))) qj rfl Tryz.func14 (c:=qz Tryz.f14) rfl Tryz.ntmps14 Tryz.results14 (by unfold qv;rw [Tryz.func14];kernel_rfl) (Nat.le_of_ble_eq_true (by kernel_rfl)) (c0:=0) (Eq.mp (F14_eq g K X) h))
end Go.Proofs.YtbglndogddddoaaGreatDoor
namespace Go.Proofs.YtbglndogddddoaaGreatDoor
open Go.RowKit
set_option maxRecDepth 100000
abbrev KE (K:Kn):ByteArray×Int->Prop:=fun r=>K (.tu [.str r.1, .int .i64 r.2]) []
theorem F14_is {a m:ByteArray} {t:Int} {ds:List Dig} {cs:List Chg} {K:Kn} (hp:xP a m t ds cs) (h:KE K (Qa a m t ds cs)):F14 (a,m,t,ds,cs,()) K:=by
 unfold F14
 unfold Qa at h
 refine ⟨hp, ?_⟩
 show bif !decide ((JD a m t ds cs).2=0)then _ else _
 by_cases z:(JD a m t ds cs).2=0
 . rw [decide_eq_true z] at h ⊢
   obtain ⟨h1,h2,h3,h4,h5,h6⟩:=hp
   exact ⟨⟨h1,h2,h3,h4,h5,fun c hc=>⟨h6 c hc,jP (Yy (chkR_ok z).2 c hc)⟩⟩,h⟩
 . rw [decide_eq_false z] at h ⊢
   exact h
def sp14:Sp:=⟨S14,L14,fun g=>xP g.1 g.2.1 g.2.2.1 g.2.2.2.1 g.2.2.2.2.1,fun g=> .tu [.str (Qa g.1 g.2.1 g.2.2.1 g.2.2.2.1 g.2.2.2.2.1).1, .int .i64 (Qa g.1 g.2.1 g.2.2.1 g.2.2.2.1 g.2.2.2.2.1).2],fun _=>none⟩
theorem sp14_ok:sp14.Ok Tryz.prog 14 true:=
 ⟨fun g K X hp h=>F14_ok g K X (F14_is hp h),fun _ _ _=>rfl,fun _=>rfl,fun _ _=>⟨rfl,rfl⟩⟩
end Go.Proofs.YtbglndogddddoaaGreatDoor
namespace Go.Proofs.YtbglndogddddoaaGreatDoor
open Go.RowKit
attribute [local irreducible] qJ qh
set_option maxRecDepth 100000
def H20:List (Nat×Hint):=[]
def J20:List (Nat×Hint):=[]
abbrev S20:List Sh:=[.ag [.leaf, .leaf, .leaf, .leaf, .leaf]]
abbrev L20:List Lf:=[.str, .str, .int .i64, .sl .dig, .sl .chg]
def F20 (g:prodL L20) (K:Kn):Prop:=
 sp14.pre (g.1,g.2.1,g.2.2.1,g.2.2.2.1,g.2.2.2.2.1,())/\
 K (.int .i64 ((Qa g.1 g.2.1 g.2.2.1 g.2.2.2.1 g.2.2.2.2.1).2)) []
theorem F20_eq (g:prodL L20) (K X:Kn):F20 g K=qJ D (qk [] [(14,true,sp14)]) (qx []) H20 J20 11 [.tmp 2] (qz Tryz.f20) (argsT S20 L20 g) [] (settle0 K) X:=by kernel_rfl
theorem F20_ok (g:prodL L20) (K X:Kn) (h:F20 g K):FCalls Tryz.prog 20 (argsT S20 L20 g) [] K X:=
 FCalls.settle0 (qq (Γ:=qk [] [(14,true,sp14)]) (mu:=qx []) (H:=H20) (J:=J20) qW (qX (rs:=[]) (l:=[(14,true,sp14)]) (fun p hp=>by cases hp) (by intro p hp;simp only [List.mem_cons,List.not_mem_nil,or_false] at hp;subst hp;exact sp14_ok)) qj rfl Tryz.func20 (c:=qz Tryz.f20) rfl Tryz.ntmps20 Tryz.results20 (by unfold qv;rw [Tryz.func20];kernel_rfl) (Nat.le_of_ble_eq_true (by kernel_rfl)) (c0:=0) (Eq.mp (F20_eq g K X) h))
def sp20:Sp:=⟨S20,L20,fun g=>sp14.pre g,fun g=> .int .i64 ((Qa g.1 g.2.1 g.2.2.1 g.2.2.2.1 g.2.2.2.2.1).2),fun _=>none⟩
theorem qqI:sp20.Ok Tryz.prog 20 true:=
 ⟨fun g K X hp h=>F20_ok g K X (by
  have h:K (.int .i64 ((Qa g.1 g.2.1 g.2.2.1 g.2.2.2.1 g.2.2.2.2.1).2)) []:=h
  exact ⟨hp,h⟩),fun _ _ _=>rfl,fun _=>rfl,by first | exact fun _ _=>⟨rfl,rfl⟩ | (intro h;cases h)⟩
def H22:List (Nat×Hint):=[(5,⟨[((1,[]),none)],[(1, .pt 0 0),(3, .leaf),(4, .leaf)],[.cells [.leaf, .leaf, .leaf, .leaf, .leaf]],[.int .i64, .int .i64, .str, .str, .int .i64, .sl .dig, .sl .chg]⟩)]
def J22:List (Nat×Hint):=[]
abbrev S22:List Sh:=[.ag [.leaf, .leaf, .leaf, .leaf, .leaf]]
abbrev L22:List Lf:=[.str, .str, .int .i64, .sl .dig, .sl .chg]
def F22_B2 (K:Kn) (W2:prodL [.int .i64, .int .i64, .str, .str, .int .i64, .sl .dig, .sl .chg]->Prop) (n_1 i_1:Int) (p1_1 p2_1:ByteArray) (p3_1:Int) (p4_1:List Dig) (p5_1:List Chg):Prop:=
 bif decide (i_1< (p5_1.length:Int))then (
  At p5_1 i_1 fun u3=>
 True/\
 W2 (IntKind.i64.wrap (n_1+(wd u3)),IntKind.i64.wrap (i_1+1),p1_1,p2_1,p3_1,p4_1,p5_1,()))
 else (
  K (.int .i64 n_1) [])
def F22_L2 (K:Kn) (g:prodL [.int .i64, .int .i64, .str, .str, .int .i64, .sl .dig, .sl .chg]):Prop:=
 qQ (γ:=prodL [.int .i64, .int .i64, .str, .str, .int .i64, .sl .dig, .sl .chg]) (fun V y=>F22_B2 K V y.1 y.2.1 y.2.2.1 y.2.2.2.1 y.2.2.2.2.1 y.2.2.2.2.2.1 y.2.2.2.2.2.2.1) g
def F22 (g:prodL L22) (K:Kn):Prop:=
 sp20.pre (g.1,g.2.1,g.2.2.1,g.2.2.2.1,g.2.2.2.2.1,())/\
 bif !decide ((Qa g.1 g.2.1 g.2.2.1 g.2.2.2.1 g.2.2.2.2.1).2=0)then (
  K (.int .i64 0) [])
 else (
  F22_L2 K (0,0,g.1,g.2.1,g.2.2.1,g.2.2.2.1,g.2.2.2.2.1,()))
theorem F22_eq (g:prodL L22) (K X:Kn):F22 g K=qJ D (qk [] [(20,true,sp20),(42,true,sp42)]) (qx []) H22 J22 24 [.tmp 2] (qz Tryz.f22) (argsT S22 L22 g) [] (settle0 K) X:=by kernel_rfl
theorem F22_ok (g:prodL L22) (K X:Kn) (h:F22 g K):FCalls Tryz.prog 22 (argsT S22 L22 g) [] K X:=
 FCalls.settle0 (qq qW (jx (zj qqI (zj sp42_ok jv))) qj rfl Tryz.func22 (c:=qz Tryz.f22) rfl Tryz.ntmps22 Tryz.results22 (by unfold qv;rw [Tryz.func22];kernel_rfl) (Nat.le_of_ble_eq_true (by kernel_rfl)) (c0:=0) (Eq.mp (F22_eq g K X) h))
def H24:List (Nat×Hint):=[(5,⟨[((2,[]),none)],[(1, .leaf),(2, .pt 0 0),(5, .leaf),(6, .leaf)],[.cells [.leaf, .leaf, .leaf, .leaf, .leaf]],[.int .i64, .int .i64, .int .i64, .str, .str, .int .i64, .sl .dig, .sl .chg]⟩)]
def J24:List (Nat×Hint):=[(2,⟨[((2,[]),none)],[(1, .leaf),(2, .pt 0 0),(20, .leaf)],[.cells [.leaf, .leaf, .leaf, .leaf, .leaf]],[.int .i64, .bool, .str, .str, .int .i64, .sl .dig, .sl .chg]⟩)]
abbrev S24:List Sh:=[.ag [.leaf, .leaf, .leaf, .leaf, .leaf], .leaf]
abbrev L24:List Lf:=[.str, .str, .int .i64, .sl .dig, .sl .chg, .int .i64]
def F24_B4 (K:Kn) (W4:prodL [.int .i64, .int .i64, .int .i64, .str, .str, .int .i64, .sl .dig, .sl .chg]->Prop) (at_3 n_3 i_3:Int) (p1_3 p2_3:ByteArray) (p3_3:Int) (p4_3:List Dig) (p5_3:List Chg):Prop:=
 bif decide (i_3<at_3)then (
  At p5_3 i_3 fun u5=>
 True/\
 W4 (at_3,IntKind.i64.wrap (n_3+(wd u5)),IntKind.i64.wrap (i_3+1),p1_3,p2_3,p3_3,p4_3,p5_3,()))
 else (
  K (.int .i64 n_3) [])
def F24_L4 (K:Kn) (g:prodL [.int .i64, .int .i64, .int .i64, .str, .str, .int .i64, .sl .dig, .sl .chg]):Prop:=
 qQ (γ:=prodL [.int .i64, .int .i64, .int .i64, .str, .str, .int .i64, .sl .dig, .sl .chg]) (fun V y=>F24_B4 K V y.1 y.2.1 y.2.2.1 y.2.2.2.1 y.2.2.2.2.1 y.2.2.2.2.2.1 y.2.2.2.2.2.2.1 y.2.2.2.2.2.2.2.1) g
def V6 (K:Kn) (at_1:Int) (t_1:Bool) (p1_1 p2_1:ByteArray) (p3_1:Int) (p4_1:List Dig) (p5_1:List Chg):Prop:=
 bif t_1 then (
  K (.int .i64 0) [])
 else (
  F24_L4 K (at_1,0,0,p1_1,p2_1,p3_1,p4_1,p5_1,()))
def F24 (g:prodL L24) (K:Kn):Prop:=
 bif decide (g.2.2.2.2.2.1<0)then (
  V6 K g.2.2.2.2.2.1 true g.1 g.2.1 g.2.2.1 g.2.2.2.1 g.2.2.2.2.1)
 else (
  bif decide ((g.2.2.2.2.1.length:Int)<=g.2.2.2.2.2.1)then (
   V6 K g.2.2.2.2.2.1 true g.1 g.2.1 g.2.2.1 g.2.2.2.1 g.2.2.2.2.1)
  else (
   sp20.pre (g.1,g.2.1,g.2.2.1,g.2.2.2.1,g.2.2.2.2.1,())/\
   V6 K g.2.2.2.2.2.1 (!decide ((Qa g.1 g.2.1 g.2.2.1 g.2.2.2.1 g.2.2.2.2.1).2=0)) g.1 g.2.1 g.2.2.1 g.2.2.2.1 g.2.2.2.2.1))
theorem F24_eq (g:prodL L24) (K X:Kn):F24 g K=qJ D (qk [] [(20,true,sp20),(42,true,sp42)]) (qx []) H24 J24 35 [.tmp 4] (qz Tryz.f24) (argsT S24 L24 g) [] (settle0 K) X:=by kernel_rfl
theorem F24_ok (g:prodL L24) (K X:Kn) (h:F24 g K):FCalls Tryz.prog 24 (argsT S24 L24 g) [] K X:=
 FCalls.settle0 (qq qW (jx (zj qqI (zj sp42_ok jv))) qj rfl Tryz.func24 (c:=qz Tryz.f24) rfl Tryz.ntmps24 Tryz.results24 (by unfold qv;rw [Tryz.func24];kernel_rfl) (Nat.le_of_ble_eq_true (by kernel_rfl)) (c0:=0) (Eq.mp (F24_eq g K X) h))
end Go.Proofs.YtbglndogddddoaaGreatDoor
namespace Go.Proofs.YtbglndogddddoaaGreatDoor
open Go.RowKit
set_option maxRecDepth 100000
theorem F22_is {a m:ByteArray} {t:Int} {ds:List Dig} {cs:List Chg} {K:Kn} (hp:xP a m t ds cs) (h:KI K (cntR a m t ds cs)):F22 (a,m,t,ds,cs,()) K:=by
 have h5:=hp.2.2.2.2.1
 have hl:=yg h5
 unfold F22
 unfold cntR at h
 refine ⟨hp, ?_⟩
 revert h
 refine qH (K:=KI K) id fun h=> ?_
 unfold F22_L2
 refine qQ.countTo cs.length (fun n=>(vS (cs.take n),(n:Int),a,m,t,ds,cs,())) (fun _=>True) rfl (fun n hn _ W hW=> ?_) trivial
 show F22_B2 K W (vS (cs.take n)) n a m t ds cs
 unfold F22_B2
 by_cases hlt:n<cs.length
 . rw [qo hlt,cond_true]
   have h1:=qzh h5 (n+1)
   refine qB hlt ⟨trivial, ?_⟩
   rw [zy hlt (by omega), <- QV hlt,w40 (by omega)]
   exact hW hlt trivial
 . have:n=cs.length:=by omega
   subst this
   rw [qg,cond_false,List.take_length]
   exact h
def sp22:Sp:=⟨S22,L22,fun g=>xP g.1 g.2.1 g.2.2.1 g.2.2.2.1 g.2.2.2.2.1,fun g=> .int .i64 (cntR g.1 g.2.1 g.2.2.1 g.2.2.2.1 g.2.2.2.2.1),fun _=>none⟩
theorem sp22_ok:sp22.Ok Tryz.prog 22 true:=
 ⟨fun g K X hp h=>F22_ok g K X (F22_is hp h),fun _ _ _=>rfl,fun _=>rfl,fun _ _=>⟨rfl,rfl⟩⟩
theorem F24_is {a m:ByteArray} {t:Int} {ds:List Dig} {cs:List Chg} {i:Int} {K:Kn} (hp:xP a m t ds cs) (h:KI K (firR a m t ds cs i)):F24 (a,m,t,ds,cs,i,()) K:=by
 have h5:=hp.2.2.2.2.1
 have hl:=yg h5
 unfold F24
 unfold firR at h
 have hJ: ∀b,(b=false->0<=i/\i< (cs.length:Int))->KI K (Y2 cs i b)->V6 K i b a m t ds cs:=by
  intro b hb h
  unfold V6
  unfold Y2 at h
  cases b
  rotate_left
  . exact h
  obtain ⟨i0,i1⟩:=hb rfl
  rw [cond_false] at h ⊢
  unfold F24_L4
  refine qQ.countTo i.toNat (fun n=>(i,vS (cs.take n),(n:Int),a,m,t,ds,cs,())) (fun _=>True) rfl (fun n hn _ W hW=> ?_) trivial
  show F24_B4 K W i (vS (cs.take n)) n a m t ds cs
  unfold F24_B4
  by_cases hlt:n<i.toNat
  . have hn2:n<cs.length:=by omega
    rw [decide_eq_true (show (n:Int) <i by omega),cond_true]
    have h1:=qzh h5 (n+1)
    refine qB hn2 ⟨trivial, ?_⟩
    rw [zy hn2 (by omega), <- QV hn2,w40 (by omega)]
    exact hW hlt trivial
  . have:n=i.toNat:=by omega
    subst this
    rw [decide_eq_false (by omega),cond_false]
    exact h
 show bif decide (i<0)then _ else _
 cases e1:decide (i<0)
 rotate_left
 . rw [e1] at h
   exact hJ true (fun e=>by cases e) h
 rw [e1] at h
 show bif decide ((cs.length:Int)<=i)then _ else _
 cases e2:decide ((cs.length:Int)<=i)
 rotate_left
 . rw [e2] at h
   exact hJ true (fun e=>by cases e) h
 rw [e2] at h
 exact ⟨hp,hJ _ (fun _=>⟨by have e3: ¬i<0:=of_decide_eq_false e1;omega,by have e3: ¬(cs.length:Int)<=i:=of_decide_eq_false e2;omega⟩) h⟩
def sp24:Sp:=⟨S24,L24,fun g=>xP g.1 g.2.1 g.2.2.1 g.2.2.2.1 g.2.2.2.2.1,fun g=> .int .i64 (firR g.1 g.2.1 g.2.2.1 g.2.2.2.1 g.2.2.2.2.1 g.2.2.2.2.2.1),fun _=>none⟩
theorem sp24_ok:sp24.Ok Tryz.prog 24 true:=
 ⟨fun g K X hp h=>F24_ok g K X (F24_is hp h),fun _ _ _=>rfl,fun _=>rfl,fun _ _=>⟨rfl,rfl⟩⟩
set_option maxRecDepth 100000
def rotL (x k:Int):Int:=qK .or .u32 (IntKind.u32.wrap (x*2^(min (qK .and .u64 (IntKind.u64.wrap k) 31).toNat IntKind.u32.bits))) (Int.fdiv x (2^(min (IntKind.u64.wrap (32- (qK .and .u64 (IntKind.u64.wrap k) 31))).toNat IntKind.u32.bits)))
def vz (x n:Int):Int:=rotL x (IntKind.i64.wrap (0-n))
def kL:List Int:=[1116352408,1899447441,3049323471,3921009573,961987163,1508970993,2453635748,2870763221,3624381080,310598401,607225278,1426881987,1925078388,2162078206,2614888103,3248222580,3835390401,4022224774,264347078,604807628,770255983,1249150122,1555081692,1996064986,2554220882,2821834349,2952996808,3210313671,3336571891,3584528711,113926993,338241895,666307205,773529912,1294757372,1396182291,1695183700,1986661051,2177026350,2456956037,2730485921,2820302411,3259730800,3345764771,3516065817,3600352804,4094571909,275423344,430227734,506948616,659060556,883997877,958139571,1322822218,1537002063,1747873779,1955562222,2024104815,2227730452,2361852424,2428436474,2756734187,3204031479,3329325298]
theorem u64_nn (n:Int):0<=IntKind.u64.wrap n:=by
 simp only [IntKind.wrap,IntKind.bits,IntKind.signed,Bool.false_and,Bool.false_eq_true,if_false]
 omega
theorem and_nn (a b:Int):0<=qK .and .u64 a b:=u64_nn _
def orB (x c:Int):Int:=qK .or .u32 (IntKind.u32.wrap (x*2^(min (8:Int).toNat IntKind.u32.bits))) (IntKind.u32.wrap c)
def Q9 (b:ByteArray) (t:Nat):List Int:=zV (b.extract (4*t) (4*t+4))
def sg1 (x:Int):Int:=qK .xor .u32 (qK .xor .u32 (vz x 17) (vz x 19)) (Int.fdiv x (2^(min (10:Int).toNat IntKind.u32.bits)))
def sg0 (x:Int):Int:=qK .xor .u32 (qK .xor .u32 (vz x 7) (vz x 18)) (Int.fdiv x (2^(min (3:Int).toNat IntKind.u32.bits)))
def schW (w:List Int) (t:Nat):Int:=IntKind.u32.wrap (IntKind.u32.wrap (IntKind.u32.wrap (sg1 (w.getD (t-2) 0)+w.getD (t-7) 0)+sg0 (w.getD (t-15) 0))+w.getD (t-16) 0)
def schA (b:ByteArray) (w:List Int) (t:Nat):List Int:=if t<16 then w.set t ((Q9 b t).foldl orB (w.getD t 0))else w.set t (schW w t)
def zL:List Int:=List.replicate 64 0
def wAt (b:ByteArray) (n:Nat):List Int:=(List.range n).foldl (schA b) zL
def schP (b:ByteArray):List Int:=wAt b 64
theorem schA_len (b:ByteArray) (w:List Int) (t:Nat):(schA b w t).length=w.length:=by
 unfold schA;split<;>simp
theorem wAt_succ (b:ByteArray) (n:Nat):wAt b (n+1)=schA b (wAt b n) n:=by
 unfold wAt;rw [List.range_succ,List.foldl_append];rfl
theorem qq3 (b:ByteArray): ∀n,(wAt b n).length=64
 | 0=>by simp [wAt,zL]
 | n+1=>by rw [wAt_succ,schA_len,qq3 b n]
def WC (w:List Int) (t:Nat) (e f g h:Int):Int:=IntKind.u32.wrap (IntKind.u32.wrap (IntKind.u32.wrap (IntKind.u32.wrap (h+(qK .xor .u32 (qK .xor .u32 (vz e 6) (vz e 11)) (vz e 25)))+(qK .xor .u32 (qK .and .u32 e f) (qK .and .u32 (qK .xor .u32 IntKind.u32.max e) g)))+kL.getD t 0)+w.getD t 0)
def rndT2 (a b c:Int):Int:=IntKind.u32.wrap ((qK .xor .u32 (qK .xor .u32 (vz a 2) (vz a 13)) (vz a 22))+(qK .xor .u32 (qK .xor .u32 (qK .and .u32 a b) (qK .and .u32 a c)) (qK .and .u32 b c)))
def rnd (w:List Int) (v:List Int) (t:Nat):List Int:=match v with
 | [a,b,c,d,e,f,g,h]=>[IntKind.u32.wrap (WC w t e f g h+rndT2 a b c),a,b,c,IntKind.u32.wrap (d+WC w t e f g h),e,f,g]
 | v=>v
def vAt (w s:List Int) (n:Nat):List Int:=(List.range n).foldl (rnd w) s
def Vc (s v:List Int):List Int:=List.zipWith (fun x y=>IntKind.u32.wrap (x+y)) s v
def qt (s:List Int) (b:ByteArray):List Int:=Vc s (vAt (schP b) s 64)
theorem eight {v:List Int} (h:v.length=8): ∃a b c d e f g k,v=[a,b,c,d,e,f,g,k]:=by
 match v,h with
 | [a,b,c,d,e,f,g,k],_=>exact ⟨a,b,c,d,e,f,g,k,rfl⟩
theorem rnd_len (w:List Int) {v:List Int} (t:Nat) (h:v.length=8):(rnd w v t).length=8:=by
 obtain ⟨a,b,c,d,e,f,g,k,rfl⟩:=eight h
 rfl
theorem vAt_succ (w s:List Int) (n:Nat):vAt w s (n+1)=rnd w (vAt w s n) n:=by
 unfold vAt;rw [List.range_succ,List.foldl_append];rfl
theorem qzZ (w:List Int) {s:List Int} (h:s.length=8): ∀n,(vAt w s n).length=8
 | 0=>h
 | n+1=>by rw [vAt_succ];exact rnd_len w n (qzZ w h n)
theorem compP_len {s:List Int} (h:s.length=8) (b:ByteArray):(qt s b).length=8:=by
 unfold qt Vc
 rw [List.length_zipWith,qzZ _ h,h];rfl
def padN (n:Nat):Nat:=(120-n%64)%64
def lenB (s:ByteArray) (i:Nat):Int:=IntKind.u8.wrap (Int.fdiv (IntKind.u64.wrap ((IntKind.u64.wrap (s.size:Int))*8)) (2^(min (56-8*(i:Int)).toNat IntKind.u64.bits)))
def XC (s:ByteArray):List Int:=zV (s.extract (s.size / 64*64) s.size)++[128]
def padL (s:ByteArray):List Int:=XC s++List.replicate (padN (XC s).length) 0
def WP (s:ByteArray):List Int:=padL s++(List.range 8).map (lenB s)
def blkW (s:ByteArray) (i:Nat):ByteArray:=s.extract (64*i) (64*i+64)
def ym (l:List Int) (i:Nat):ByteArray:=jJ ((l.drop (64*i)).take 64)
def XD (s:ByteArray):List ByteArray:=(List.range (s.size / 64)).map (blkW s)
def blkB (s:ByteArray):List ByteArray:=(List.range ((WP s).length / 64)).map (ym (WP s))
def zK (st:List Int) (s:ByteArray):List Int:=(XD s++blkB s).foldl qt st
def pre111 (g:prodL [.pr .str, .int .u32, .int .u32, .int .u32, .int .u32, .int .u32, .int .u32, .int .u32, .int .u32]):Prop:=g.1.size<=4194304
def st0:List Int:=[1779033703,3144134277,1013904242,2773480762,1359893119,2600822924,528734635,1541459225]
def zg (v:List Int) (i j:Nat):Int:=IntKind.u8.wrap (Int.fdiv (v.getD i 0) (2^(min ((24:Int) - 8*j).toNat IntKind.u32.bits)))
def digW (v:List Int):Dig:=⟨zg v 0 0,zg v 0 1,zg v 0 2,zg v 0 3,zg v 1 0,zg v 1 1,zg v 1 2,zg v 1 3,zg v 2 0,zg v 2 1,zg v 2 2,zg v 2 3,zg v 3 0,zg v 3 1,zg v 3 2,zg v 3 3,zg v 4 0,zg v 4 1,zg v 4 2,zg v 4 3,zg v 5 0,zg v 5 1,zg v 5 2,zg v 5 3,zg v 6 0,zg v 6 1,zg v 6 2,zg v 6 3,zg v 7 0,zg v 7 1,zg v 7 2,zg v 7 3⟩
def YL (s:ByteArray):Dig:=digW (zK st0 s)
theorem foldl_len {l:List ByteArray}: ∀{st:List Int},st.length=8->(l.foldl qt st).length=8:=by
 induction l with
 | nil=>intro st h;exact h
 | cons b l ih=>intro st h;exact ih (compP_len h b)
end Go.Proofs.YtbglndogddddoaaGreatDoor
namespace Go.Proofs.YtbglndogddddoaaGreatDoor
open Go.RowKit
attribute [local irreducible] qJ qh
set_option maxRecDepth 100000
def H156:List (Nat×Hint):=[]
def J156:List (Nat×Hint):=[]
abbrev S156:List Sh:=[.leaf, .leaf]
abbrev L156:List Lf:=[.int .u32, .int .i64]
def F156 (g:prodL L156) (K:Kn):Prop:=
 (0:Int)<=qK .and .u64 (IntKind.u64.wrap g.2.1) 31/\
 (0:Int)<=IntKind.u64.wrap (32- (qK .and .u64 (IntKind.u64.wrap g.2.1) 31))/\
 K (.int .u32 (qK .or .u32 (IntKind.u32.wrap (g.1*2^(min (qK .and .u64 (IntKind.u64.wrap g.2.1) 31).toNat IntKind.u32.bits))) (Int.fdiv g.1 (2^(min (IntKind.u64.wrap (32- (qK .and .u64 (IntKind.u64.wrap g.2.1) 31))).toNat IntKind.u32.bits))))) []
theorem F156_eq (g:prodL L156) (K X:Kn):F156 g K=qJ D (qk [] []) (qx []) H156 J156 17 [.tmp 4] (qz Tryz.f156) (argsT S156 L156 g) [] (settle0 K) X:=by kernel_rfl
theorem F156_ok (g:prodL L156) (K X:Kn) (h:F156 g K):FCalls Tryz.prog 156 (argsT S156 L156 g) [] K X:=
 FCalls.settle0 (qq qW (jx jv) qj rfl Tryz.func156 (c:=qz Tryz.f156) rfl Tryz.ntmps156 Tryz.results156 (by unfold qv;rw [Tryz.func156];kernel_rfl) (Nat.le_of_ble_eq_true (by kernel_rfl)) (c0:=0) (Eq.mp (F156_eq g K X) h))
def sp156:Sp:=⟨S156,L156,fun _=>True,fun g=> .int .u32 (rotL g.1 g.2.1),fun _=>none⟩
theorem sp156_ok:sp156.Ok Tryz.prog 156 true:=
 ⟨fun g K X hp h=>F156_ok g K X (by
  have h:K (.int .u32 (rotL g.1 g.2.1)) []:=h
  exact ⟨and_nn _ _,u64_nn _,h⟩),fun _ _ _=>rfl,fun _=>rfl,by first | exact fun _ _=>⟨rfl,rfl⟩ | (intro h;cases h)⟩
def H114:List (Nat×Hint):=[]
def J114:List (Nat×Hint):=[]
abbrev S114:List Sh:=[.leaf, .leaf]
abbrev L114:List Lf:=[.int .u32, .int .i64]
def F114 (g:prodL L114) (K:Kn):Prop:=
 True/\
 K (.int .u32 (rotL g.1 (IntKind.i64.wrap (0-g.2.1)))) []
theorem F114_eq (g:prodL L114) (K X:Kn):F114 g K=qJ D (qk [] [(156,true,sp156)]) (qx []) H114 J114 9 [.tmp 4] (qz Tryz.f114) (argsT S114 L114 g) [] (settle0 K) X:=by kernel_rfl
theorem F114_ok (g:prodL L114) (K X:Kn) (h:F114 g K):FCalls Tryz.prog 114 (argsT S114 L114 g) [] K X:=
 FCalls.settle0 (qq (Γ:=qk [] [(156,true,sp156)]) (mu:=qx []) (H:=H114) (J:=J114) qW (qX (rs:=[]) (l:=[(156,true,sp156)]) (fun p hp=>by cases hp) (by intro p hp;simp only [List.mem_cons,List.not_mem_nil,or_false] at hp;subst hp;exact sp156_ok)) qj rfl Tryz.func114 (c:=qz Tryz.f114) rfl Tryz.ntmps114 Tryz.results114 (by unfold qv;rw [Tryz.func114];kernel_rfl) (Nat.le_of_ble_eq_true (by kernel_rfl)) (c0:=0) (Eq.mp (F114_eq g K X) h))
def sp114:Sp:=⟨S114,L114,fun _=>True,fun g=> .int .u32 (vz g.1 g.2.1),fun _=>none⟩
theorem sp114_ok:sp114.Ok Tryz.prog 114 true:=
 ⟨fun g K X hp h=>F114_ok g K X (by
  have h:K (.int .u32 (vz g.1 g.2.1)) []:=h
  exact ⟨trivial,h⟩),fun _ _ _=>rfl,fun _=>rfl,by first | exact fun _ _=>⟨rfl,rfl⟩ | (intro h;cases h)⟩
def H113:List (Nat×Hint):=[]
def J113:List (Nat×Hint):=[]
abbrev S113:List Sh:=[]
abbrev L113:List Lf:=[]
def F113 (g:prodL L113) (K:Kn):Prop:=
 xy ([1116352408,1899447441,3049323471,3921009573,961987163,1508970993,2453635748,2870763221,3624381080,310598401,607225278,1426881987,1925078388,2162078206,2614888103,3248222580,3835390401,4022224774,264347078,604807628,770255983,1249150122,1555081692,1996064986,2554220882,2821834349,2952996808,3210313671,3336571891,3584528711,113926993,338241895,666307205,773529912,1294757372,1396182291,1695183700,1986661051,2177026350,2456956037,2730485921,2820302411,3259730800,3345764771,3516065817,3600352804,4094571909,275423344,430227734,506948616,659060556,883997877,958139571,1322822218,1537002063,1747873779,1955562222,2024104815,2227730452,2361852424,2428436474,2756734187,3204031479,3329325298].length*1=64/\[1116352408,1899447441,3049323471,3921009573,961987163,1508970993,2453635748,2870763221,3624381080,310598401,607225278,1426881987,1925078388,2162078206,2614888103,3248222580,3835390401,4022224774,264347078,604807628,770255983,1249150122,1555081692,1996064986,2554220882,2821834349,2952996808,3210313671,3336571891,3584528711,113926993,338241895,666307205,773529912,1294757372,1396182291,1695183700,1986661051,2177026350,2456956037,2730485921,2820302411,3259730800,3345764771,3516065817,3600352804,4094571909,275423344,430227734,506948616,659060556,883997877,958139571,1322822218,1537002063,1747873779,1955562222,2024104815,2227730452,2361852424,2428436474,2756734187,3204031479,3329325298].length=(List.replicate 64 (0:Int)).length) (
 xy ([1116352408,1899447441,3049323471,3921009573,961987163,1508970993,2453635748,2870763221,3624381080,310598401,607225278,1426881987,1925078388,2162078206,2614888103,3248222580,3835390401,4022224774,264347078,604807628,770255983,1249150122,1555081692,1996064986,2554220882,2821834349,2952996808,3210313671,3336571891,3584528711,113926993,338241895,666307205,773529912,1294757372,1396182291,1695183700,1986661051,2177026350,2456956037,2730485921,2820302411,3259730800,3345764771,3516065817,3600352804,4094571909,275423344,430227734,506948616,659060556,883997877,958139571,1322822218,1537002063,1747873779,1955562222,2024104815,2227730452,2361852424,2428436474,2756734187,3204031479,3329325298].length*1=64) (
 K (.al .u32 [1116352408,1899447441,3049323471,3921009573,961987163,1508970993,2453635748,2870763221,3624381080,310598401,607225278,1426881987,1925078388,2162078206,2614888103,3248222580,3835390401,4022224774,264347078,604807628,770255983,1249150122,1555081692,1996064986,2554220882,2821834349,2952996808,3210313671,3336571891,3584528711,113926993,338241895,666307205,773529912,1294757372,1396182291,1695183700,1986661051,2177026350,2456956037,2730485921,2820302411,3259730800,3345764771,3516065817,3600352804,4094571909,275423344,430227734,506948616,659060556,883997877,958139571,1322822218,1537002063,1747873779,1955562222,2024104815,2227730452,2361852424,2428436474,2756734187,3204031479,3329325298]) []))
theorem F113_eq (g:prodL L113) (K X:Kn):F113 g K=qJ D (qk [] []) (qx []) H113 J113 2 [.cell 0 138] (qz Tryz.f113) (argsT S113 L113 g) [] (settle0 K) X:=by kernel_rfl
theorem F113_ok (g:prodL L113) (K X:Kn) (h:F113 g K):FCalls Tryz.prog 113 (argsT S113 L113 g) [] K X:=
 FCalls.settle0 (qq qW (jx jv) qj rfl Tryz.func113 (c:=qz Tryz.f113) rfl Tryz.ntmps113 Tryz.results113 (by unfold qv;rw [Tryz.func113];kernel_rfl) (Nat.le_of_ble_eq_true (by kernel_rfl)) (c0:=0) (Eq.mp (F113_eq g K X) h))
def sp113:Sp:=⟨S113,L113,fun _=>True,fun g=> .al .u32 kL,fun _=>none⟩
theorem sp113_ok:sp113.Ok Tryz.prog 113 false:=
 ⟨fun g K X hp h=>F113_ok g K X (by
  have h:K (.al .u32 kL) []:=h
  exact ⟨⟨rfl,rfl⟩,rfl,h⟩),fun _ _ _=>rfl,fun _=>rfl,by first | exact fun _ _=>⟨rfl,rfl⟩ | (intro h;cases h)⟩
def H112:List (Nat×Hint):=[(3,⟨[((2,[]),none),((3,[]),none)],[(0, .leaf),(2, .pa .u32 0),(3, .pa .u32 1),(9, .leaf)],[.arr .u32, .arr .u32],[.str, .int .i64, .sl .u32, .sl .u32]⟩),(7,⟨[((2,[]),none),((3,[]),none),((21,[]),none)],[(0, .leaf),(2, .pa .u32 0),(3, .pa .u32 1),(4, .leaf),(9, .leaf),(21, .oa .u8 2),(22, .leaf),(23, .leaf)],[.arr .u32, .arr .u32, .arr .u8],[.str, .int .i64, .int .i64, .int .i64, .int .i64, .sl .u32, .sl .u32, .sl .u8]⟩)]
def J112:List (Nat×Hint):=[(13,⟨[((2,[]),none),((3,[]),none)],[(0, .leaf),(2, .pa .u32 0),(3, .pa .u32 1),(9, .leaf)],[.arr .u32, .arr .u32],[.str, .int .i64, .sl .u32, .sl .u32]⟩)]
abbrev S112:List Sh:=[.leaf]
abbrev L112:List Lf:=[.str]
def Zc (K:Kn) (W2:prodL [.str, .int .i64, .sl .u32, .sl .u32]->Prop) (block_13:ByteArray) (t_13:Int) (t2_13:List Int) (w_13:List Int):Prop:=
 W2 (block_13,IntKind.i64.wrap (t_13+1),t2_13,w_13,())
def qzf (K:Kn) (W2:prodL [.str, .int .i64, .sl .u32, .sl .u32]->Prop) (W4:prodL [.str, .int .i64, .int .i64, .int .i64, .int .i64, .sl .u32, .sl .u32, .sl .u8]->Prop) (block_3:ByteArray) (t_3 t2_3 t3_3 t4_3:Int) (t5_3:List Int) (w_3:List Int) (t6_3:List Int):Prop:=
 bif decide (t4_3<t3_3)then (
   0<=t4_3/\t4_3.toNat<t6_3.length/\
  atI t6_3 t4_3.toNat fun x5=>
  0<=t_3/\t_3.toNat<64/\
  atI w_3 t_3.toNat fun x6=>
  (0:Int)<=8/\
  0<=t_3/\t_3.toNat<64/\
  atI w_3 t_3.toNat fun x7=>
  W4 (block_3,t_3,t2_3,t3_3,IntKind.i64.wrap (t4_3+1),t5_3,w_3.set t_3.toNat (qK .or .u32 (IntKind.u32.wrap (x6*2^(min (8:Int).toNat IntKind.u32.bits))) (IntKind.u32.wrap x5)),t6_3,()))
  else (
   Zc K W2 block_3 t2_3 t5_3 w_3)
def qqp (K:Kn) (W2:prodL [.str, .int .i64, .sl .u32, .sl .u32]->Prop) (g:prodL [.str, .int .i64, .int .i64, .int .i64, .int .i64, .sl .u32, .sl .u32, .sl .u8]):Prop:=
 qQ (γ:=prodL [.str, .int .i64, .int .i64, .int .i64, .int .i64, .sl .u32, .sl .u32, .sl .u8]) (fun V y=>qzf K W2 V y.1 y.2.1 y.2.2.1 y.2.2.2.1 y.2.2.2.2.1 y.2.2.2.2.2.1 y.2.2.2.2.2.2.1 y.2.2.2.2.2.2.2.1) g
def qqP (K:Kn) (W2:prodL [.str, .int .i64, .sl .u32, .sl .u32]->Prop) (block_1:ByteArray) (t_1:Int) (t2_1:List Int) (w_1:List Int):Prop:=
 bif decide (t_1<64)then (
  bif decide (t_1<16)then (
  (0:Int)<=IntKind.i64.wrap (4*t_1)/\IntKind.i64.wrap (4*t_1)<=IntKind.i64.wrap ((IntKind.i64.wrap (4*t_1))+4)/\IntKind.i64.wrap ((IntKind.i64.wrap (4*t_1))+4)<=(block_1.size:Int)/\
  qn (block_1.extract (IntKind.i64.wrap (4*t_1)).toNat (IntKind.i64.wrap ((IntKind.i64.wrap (4*t_1))+4)).toNat).size 1 (
  qqp K W2 (block_1,t_1,t_1,(((zV (block_1.extract (IntKind.i64.wrap (4*t_1)).toNat (IntKind.i64.wrap ((IntKind.i64.wrap (4*t_1))+4)).toNat)).length:Nat):Int),0,t2_1,w_1,zV (block_1.extract (IntKind.i64.wrap (4*t_1)).toNat (IntKind.i64.wrap ((IntKind.i64.wrap (4*t_1))+4)).toNat),())))
 else (
  0<=IntKind.i64.wrap (t_1-15)/\(IntKind.i64.wrap (t_1-15)).toNat<64/\
 atI w_1 ((IntKind.i64.wrap (t_1-15)).toNat) fun x8=>
 0<=IntKind.i64.wrap (t_1-2)/\(IntKind.i64.wrap (t_1-2)).toNat<64/\
 atI w_1 ((IntKind.i64.wrap (t_1-2)).toNat) fun x9=>
 True/\
 True/\
 (0:Int)<=10/\
 0<=IntKind.i64.wrap (t_1-7)/\(IntKind.i64.wrap (t_1-7)).toNat<64/\
 atI w_1 ((IntKind.i64.wrap (t_1-7)).toNat) fun x10=>
 True/\
 True/\
 (0:Int)<=3/\
 0<=IntKind.i64.wrap (t_1-16)/\(IntKind.i64.wrap (t_1-16)).toNat<64/\
 atI w_1 ((IntKind.i64.wrap (t_1-16)).toNat) fun x11=>
 0<=t_1/\t_1.toNat<64/\
 atI w_1 t_1.toNat fun x12=>
 Zc K W2 block_1 t_1 t2_1 (w_1.set t_1.toNat (IntKind.u32.wrap ((IntKind.u32.wrap ((IntKind.u32.wrap ((qK .xor .u32 (qK .xor .u32 (vz x9 17) (vz x9 19)) (Int.fdiv x9 (2^(min (10:Int).toNat IntKind.u32.bits))))+x10))+(qK .xor .u32 (qK .xor .u32 (vz x8 7) (vz x8 18)) (Int.fdiv x8 (2^(min (3:Int).toNat IntKind.u32.bits))))))+x11)))))
 else (
  xy (w_1.length*1=64) (
 xy (w_1.length*1=64/\w_1.length=t2_1.length) (
 xy (w_1.length*1=64) (
 K (.al .u32 w_1) []))))
def qq5 (K:Kn) (g:prodL [.str, .int .i64, .sl .u32, .sl .u32]):Prop:=
 qQ (γ:=prodL [.str, .int .i64, .sl .u32, .sl .u32]) (fun V y=>qqP K V y.1 y.2.1 y.2.2.1 y.2.2.2.1) g
def F112 (g:prodL L112) (K:Kn):Prop:=
 qq5 K (g.1,0,(List.replicate 64 (0:Int)),(List.replicate 64 (0:Int)),())
theorem F112_eq (g:prodL L112) (K X:Kn):F112 g K=qJ D (qk [] [(114,true,sp114)]) (qx []) H112 J112 76 [.cell 2 138] (qz Tryz.f112) (argsT S112 L112 g) [] (settle0 K) X:=by kernel_rfl
theorem F112_ok (g:prodL L112) (K X:Kn) (h:F112 g K):FCalls Tryz.prog 112 (argsT S112 L112 g) [] K X:=
 FCalls.settle0 (qq (Γ:=qk [] [(114,true,sp114)]) (mu:=qx []) (H:=H112) (J:=J112) qW (qX (rs:=[]) (l:=[(114,true,sp114)]) (fun p hp=>by cases hp) (by intro p hp;simp only [List.mem_cons,List.not_mem_nil,or_false] at hp;subst hp;exact sp114_ok)) qj rfl Tryz.func112 (c:=qz Tryz.f112) rfl Tryz.ntmps112 Tryz.results112 (by unfold qv;rw [Tryz.func112];kernel_rfl) (Nat.le_of_ble_eq_true (by kernel_rfl)) (c0:=0) (Eq.mp (F112_eq g K X) h))
def H65:List (Nat×Hint):=[]
def J65:List (Nat×Hint):=[]
abbrev S65:List Sh:=[.leaf]
abbrev L65:List Lf:=[.str]
def F65 (g:prodL L65) (K:Kn):Prop:=
 K (.fn 111 [] [.pr .str g.1 0]) []
theorem F65_eq (g:prodL L65) (K X:Kn):F65 g K=qJ D (qk [] []) (qx []) H65 J65 4 [.tmp 2] (qz Tryz.f65) (argsT S65 L65 g) [] (settle0 K) X:=by kernel_rfl
theorem F65_ok (g:prodL L65) (K X:Kn) (h:F65 g K):FCalls Tryz.prog 65 (argsT S65 L65 g) [] K X:=
 FCalls.settle0 (qq qW (jx jv) qj rfl Tryz.func65 (c:=qz Tryz.f65) rfl Tryz.ntmps65 Tryz.results65 (by unfold qv;rw [Tryz.func65];kernel_rfl) (Nat.le_of_ble_eq_true (by kernel_rfl)) (c0:=0) (Eq.mp (F65_eq g K X) h))
def sp65:Sp:=⟨S65,L65,fun _=>True,fun g=> .fn 111 [] [.pr .str g.1 0],fun _=>none⟩
theorem sp65_ok:sp65.Ok Tryz.prog 65 false:=
 ⟨fun g K X hp h=>F65_ok g K X (by
  have h:K (.fn 111 [] [.pr .str g.1 0]) []:=h
  exact h),fun _ _ _=>rfl,fun _=>rfl,by first | exact fun _ _=>⟨rfl,rfl⟩ | (intro h;cases h)⟩
end Go.Proofs.YtbglndogddddoaaGreatDoor
namespace Go.Proofs.YtbglndogddddoaaGreatDoor
open Go.RowKit
set_option maxRecDepth 100000
theorem wb {α:Type} {l:List α} {n:Nat} {K:α->Prop} (h:n<l.length) (hK:K l[n]):atI l n K:=⟨l[n],xK h,hK⟩
theorem Yw {l:List Int} {n:Nat} (h:n<l.length):l.getD n 0=l[n]:=by rw [List.getD_eq_getElem?_getD,xK h];rfl
theorem toN (n:Nat):((n:Nat):Int).toNat=n:=by omega
theorem wI {n:Int} (h: -4294967296<=n/\n<=4294967296):IntKind.i64.wrap n=n:=j4 (by omega) (by omega)
theorem set_getD (w:List Int) (t:Nat) (h:t<w.length):w.set t (w.getD t 0)=w:=by
 rw [Yw h,List.set_getElem_self]
theorem F112_is {b:ByteArray} {K:Kn} (hb:b.size=64) (h:K (.al .u32 (schP b)) []):F112 (b,()) K:=by
 unfold F112
 show qq5 K _
 unfold qq5
 refine qQ.countTo 64 (fun t=>(b,(t:Int),zL,wAt b t,())) (fun _=>True) rfl (fun t ht _ W hW=> ?_) trivial
 show qqP K W b t zL (wAt b t)
 have hlen:=qq3 b t
 unfold qqP
 by_cases hlt:t<64
 . rw [decide_eq_true (show (t:Int) <64 by omega),cond_true]
   have hW:=hW hlt trivial
   rw [wAt_succ] at hW
   by_cases h16:t<16
   . rw [decide_eq_true (show (t:Int) <16 by omega),cond_true]
     have e4:IntKind.i64.wrap (4*(t:Int))=((4*t:Nat):Int):=by rw [wI (by omega)];omega
     have e5:IntKind.i64.wrap (((4*t:Nat):Int)+4)=((4*t+4:Nat):Int):=by rw [wI (by omega)];omega
     rw [e4,e5,toN,toN]
     refine ⟨by omega,by omega,by rw [hb];omega, ?_⟩
     have hsz:(b.extract (4*t) (4*t+4)).size=4:=by rw [ByteArray.size_extract,hb];omega
     refine ⟨by rw [hsz];exact Nat.le_of_ble_eq_true rfl, ?_⟩
     have hbl:(Q9 b t).length=4:=by unfold Q9 zV;simp;rw [hb];omega
     unfold schA at hW
     rw [if_pos h16] at hW
     show qqp K W (b,(t:Int),(t:Int),(((Q9 b t).length:Nat):Int),0,zL,wAt b t,Q9 b t,())
     unfold qqp
     refine qQ.countTo (Q9 b t).length (fun j=>(b,(t:Int),(t:Int),(((Q9 b t).length:Nat):Int),(j:Int),zL,(wAt b t).set t (((Q9 b t).take j).foldl orB ((wAt b t).getD t 0)),Q9 b t,())) (fun _=>True) (by rw [List.take_zero,List.foldl_nil,set_getD _ _ (by omega)];rfl) (fun j hj _ W4 hW4=> ?_) trivial
     show qzf K W W4 b t t (((Q9 b t).length:Nat):Int) j zL ((wAt b t).set t (((Q9 b t).take j).foldl orB ((wAt b t).getD t 0))) (Q9 b t)
     unfold qzf
     by_cases hjl:j< (Q9 b t).length
     . rw [qo hjl,cond_true]
       simp only [toN]
       have hl2:t< ((wAt b t).set t (((Q9 b t).take j).foldl orB ((wAt b t).getD t 0))).length:=by rw [List.length_set];omega
       refine ⟨by omega,hjl,wb hjl ⟨by omega,by omega,wb hl2 ⟨by omega,by omega,by omega,wb hl2 ?_⟩⟩⟩
       have:=hW4 hjl trivial
       rw [zI hjl,List.foldl_append] at this
       rw [zy hjl (by omega),List.set_set,List.getElem_set_self]
       exact this
     . have:j=(Q9 b t).length:=by omega
       subst this
       rw [qg,cond_false,List.take_length]
       unfold Zc
       rw [wI (by omega)]
       exact hW
   . rw [decide_eq_false (show¬(t:Int) <16 by omega),cond_false]
     unfold schA at hW
     rw [if_neg h16] at hW
     have e15:IntKind.i64.wrap ((t:Int) - 15)=((t-15:Nat):Int):=by rw [wI (by omega)];omega
     have e2:IntKind.i64.wrap ((t:Int) - 2)=((t-2:Nat):Int):=by rw [wI (by omega)];omega
     have e7:IntKind.i64.wrap ((t:Int) - 7)=((t-7:Nat):Int):=by rw [wI (by omega)];omega
     have e16:IntKind.i64.wrap ((t:Int) - 16)=((t-16:Nat):Int):=by rw [wI (by omega)];omega
     rw [e15,e2,e7,e16]
     simp only [toN]
     refine ⟨by omega,by omega,wb (by omega) ⟨by omega,by omega,wb (by omega) ⟨trivial,trivial,by omega,by omega,by omega,wb (by omega) ⟨trivial,trivial,by omega,by omega,by omega,wb (by omega) ⟨by omega,by omega,wb (by omega) ?_⟩⟩⟩⟩⟩
     unfold Zc
     unfold schW at hW
     rw [Yw (show t-2< (wAt b t).length by omega),Yw (show t-7< (wAt b t).length by omega),Yw (show t-15< (wAt b t).length by omega),Yw (show t-16< (wAt b t).length by omega)] at hW
     rw [wI (by omega)]
     exact hW
 . have:t=64:=by omega
   subst this
   rw [decide_eq_false (by omega),cond_false]
   exact ⟨by omega,⟨by omega,by rw [hlen];rfl⟩,by omega,h⟩
def sp112:Sp:=⟨S112,L112,fun g=>g.1.size=64,fun g=> .al .u32 (schP g.1),fun _=>none⟩
theorem sp112_ok:sp112.Ok Tryz.prog 112 false:=
 ⟨fun g K X hp h=>F112_ok g K X (F112_is hp h),fun _ _ _=>rfl,fun _=>rfl,fun h=>(by cases h)⟩
end Go.Proofs.YtbglndogddddoaaGreatDoor
namespace Go.Proofs.YtbglndogddddoaaGreatDoor
open Go.RowKit
attribute [local irreducible] qJ qh
set_option maxRecDepth 100000
def H66:List (Nat×Hint):=[(4,⟨[((2,[]),none),((4,[]),none),((5,[]),none),((6,[]),none)],[(2, .pt 0 0),(4, .pt 1 0),(5, .pa .u32 2),(6, .pa .u32 3),(7, .leaf),(8, .leaf),(9, .leaf),(10, .leaf),(11, .leaf),(12, .leaf),(13, .leaf),(14, .leaf),(39, .leaf)],[.cells [.leaf, .leaf, .leaf, .leaf, .leaf, .leaf, .leaf, .leaf], .cells [.leaf, .leaf, .leaf, .leaf, .leaf, .leaf, .leaf, .leaf], .arr .u32, .arr .u32],[.int .u32, .int .u32, .int .u32, .int .u32, .int .u32, .int .u32, .int .u32, .int .u32, .int .i64, .int .u32, .int .u32, .int .u32, .int .u32, .int .u32, .int .u32, .int .u32, .int .u32, .int .u32, .int .u32, .int .u32, .int .u32, .int .u32, .int .u32, .int .u32, .int .u32, .sl .u32, .sl .u32]⟩),(11,⟨[],[],[],[]⟩),(9000011,⟨[],[],[],[]⟩)]
def J66:List (Nat×Hint):=[]
abbrev S66:List Sh:=[.ag [.leaf, .leaf, .leaf, .leaf, .leaf, .leaf, .leaf, .leaf], .leaf]
abbrev L66:List Lf:=[.int .u32, .int .u32, .int .u32, .int .u32, .int .u32, .int .u32, .int .u32, .int .u32, .str]
def WD (K:Kn) (W2:prodL [.int .u32, .int .u32, .int .u32, .int .u32, .int .u32, .int .u32, .int .u32, .int .u32, .int .i64, .int .u32, .int .u32, .int .u32, .int .u32, .int .u32, .int .u32, .int .u32, .int .u32, .int .u32, .int .u32, .int .u32, .int .u32, .int .u32, .int .u32, .int .u32, .int .u32, .sl .u32, .sl .u32]->Prop) (a_1 b_1 c_1 d_1 e_1 f_1 g_1 h_1 t_1 state1_1 state2_1 state3_1 state4_1 state5_1 state6_1 state7_1 state8_1 t1_1 t2_1 t3_1 t4_1 t5_1 t6_1 t7_1 t8_1:Int) (w_1:List Int) (k_1:List Int):Prop:=
 bif decide (t_1<64)then (
  True/\
 True/\
 True/\
 0<=t_1/\t_1.toNat<64/\
 atI k_1 t_1.toNat fun x3=>
 0<=t_1/\t_1.toNat<64/\
 atI w_1 t_1.toNat fun x4=>
 True/\
 True/\
 True/\
 W2 (IntKind.u32.wrap ((IntKind.u32.wrap ((IntKind.u32.wrap ((IntKind.u32.wrap ((IntKind.u32.wrap (h_1+(qK .xor .u32 (qK .xor .u32 (vz e_1 6) (vz e_1 11)) (vz e_1 25))))+(qK .xor .u32 (qK .and .u32 e_1 f_1) (qK .and .u32 (qK .xor .u32 IntKind.u32.max e_1) g_1))))+x3))+x4))+(IntKind.u32.wrap ((qK .xor .u32 (qK .xor .u32 (vz a_1 2) (vz a_1 13)) (vz a_1 22))+(qK .xor .u32 (qK .xor .u32 (qK .and .u32 a_1 b_1) (qK .and .u32 a_1 c_1)) (qK .and .u32 b_1 c_1))))),a_1,b_1,c_1,IntKind.u32.wrap (d_1+(IntKind.u32.wrap ((IntKind.u32.wrap ((IntKind.u32.wrap ((IntKind.u32.wrap (h_1+(qK .xor .u32 (qK .xor .u32 (vz e_1 6) (vz e_1 11)) (vz e_1 25))))+(qK .xor .u32 (qK .and .u32 e_1 f_1) (qK .and .u32 (qK .xor .u32 IntKind.u32.max e_1) g_1))))+x3))+x4))),e_1,f_1,g_1,IntKind.i64.wrap (t_1+1),state1_1,state2_1,state3_1,state4_1,state5_1,state6_1,state7_1,state8_1,t1_1,t2_1,t3_1,t4_1,t5_1,t6_1,t7_1,t8_1,w_1,k_1,()))
 else (
  (0:Int)<=0/\(0:Int).toNat<8/\
 0<=(0:Int)/\(0:Int).toNat<8/\
 0<=(0:Int)/\(0:Int).toNat<8/\
 (0:Int)<=1/\(1:Int).toNat<8/\
 0<=(1:Int)/\(1:Int).toNat<8/\
 0<=(1:Int)/\(1:Int).toNat<8/\
 (0:Int)<=2/\(2:Int).toNat<8/\
 0<=(2:Int)/\(2:Int).toNat<8/\
 0<=(2:Int)/\(2:Int).toNat<8/\
 (0:Int)<=3/\(3:Int).toNat<8/\
 0<=(3:Int)/\(3:Int).toNat<8/\
 0<=(3:Int)/\(3:Int).toNat<8/\
 (0:Int)<=4/\(4:Int).toNat<8/\
 0<=(4:Int)/\(4:Int).toNat<8/\
 0<=(4:Int)/\(4:Int).toNat<8/\
 (0:Int)<=5/\(5:Int).toNat<8/\
 0<=(5:Int)/\(5:Int).toNat<8/\
 0<=(5:Int)/\(5:Int).toNat<8/\
 (0:Int)<=6/\(6:Int).toNat<8/\
 0<=(6:Int)/\(6:Int).toNat<8/\
 0<=(6:Int)/\(6:Int).toNat<8/\
 (0:Int)<=7/\(7:Int).toNat<8/\
 0<=(7:Int)/\(7:Int).toNat<8/\
 0<=(7:Int)/\(7:Int).toNat<8/\
 K (.ag [.int .u32 (IntKind.u32.wrap (state1_1+a_1)), .int .u32 (IntKind.u32.wrap (state2_1+b_1)), .int .u32 (IntKind.u32.wrap (state3_1+c_1)), .int .u32 (IntKind.u32.wrap (state4_1+d_1)), .int .u32 (IntKind.u32.wrap (state5_1+e_1)), .int .u32 (IntKind.u32.wrap (state6_1+f_1)), .int .u32 (IntKind.u32.wrap (state7_1+g_1)), .int .u32 (IntKind.u32.wrap (state8_1+h_1))]) [])
def F66_L2 (K:Kn) (g:prodL [.int .u32, .int .u32, .int .u32, .int .u32, .int .u32, .int .u32, .int .u32, .int .u32, .int .i64, .int .u32, .int .u32, .int .u32, .int .u32, .int .u32, .int .u32, .int .u32, .int .u32, .int .u32, .int .u32, .int .u32, .int .u32, .int .u32, .int .u32, .int .u32, .int .u32, .sl .u32, .sl .u32]):Prop:=
 qQ (γ:=prodL [.int .u32, .int .u32, .int .u32, .int .u32, .int .u32, .int .u32, .int .u32, .int .u32, .int .i64, .int .u32, .int .u32, .int .u32, .int .u32, .int .u32, .int .u32, .int .u32, .int .u32, .int .u32, .int .u32, .int .u32, .int .u32, .int .u32, .int .u32, .int .u32, .int .u32, .sl .u32, .sl .u32]) (fun V y=>WD K V y.1 y.2.1 y.2.2.1 y.2.2.2.1 y.2.2.2.2.1 y.2.2.2.2.2.1 y.2.2.2.2.2.2.1 y.2.2.2.2.2.2.2.1 y.2.2.2.2.2.2.2.2.1 y.2.2.2.2.2.2.2.2.2.1 y.2.2.2.2.2.2.2.2.2.2.1 y.2.2.2.2.2.2.2.2.2.2.2.1 y.2.2.2.2.2.2.2.2.2.2.2.2.1 y.2.2.2.2.2.2.2.2.2.2.2.2.2.1 y.2.2.2.2.2.2.2.2.2.2.2.2.2.2.1 y.2.2.2.2.2.2.2.2.2.2.2.2.2.2.2.1 y.2.2.2.2.2.2.2.2.2.2.2.2.2.2.2.2.1 y.2.2.2.2.2.2.2.2.2.2.2.2.2.2.2.2.2.1 y.2.2.2.2.2.2.2.2.2.2.2.2.2.2.2.2.2.2.1 y.2.2.2.2.2.2.2.2.2.2.2.2.2.2.2.2.2.2.2.1 y.2.2.2.2.2.2.2.2.2.2.2.2.2.2.2.2.2.2.2.2.1 y.2.2.2.2.2.2.2.2.2.2.2.2.2.2.2.2.2.2.2.2.2.1 y.2.2.2.2.2.2.2.2.2.2.2.2.2.2.2.2.2.2.2.2.2.2.1 y.2.2.2.2.2.2.2.2.2.2.2.2.2.2.2.2.2.2.2.2.2.2.2.1 y.2.2.2.2.2.2.2.2.2.2.2.2.2.2.2.2.2.2.2.2.2.2.2.2.1 y.2.2.2.2.2.2.2.2.2.2.2.2.2.2.2.2.2.2.2.2.2.2.2.2.2.1 y.2.2.2.2.2.2.2.2.2.2.2.2.2.2.2.2.2.2.2.2.2.2.2.2.2.2.1) g
def F66 (g:prodL L66) (K:Kn):Prop:=
 sp112.pre (g.2.2.2.2.2.2.2.2.1,())/\
 True/\
 xy ((schP g.2.2.2.2.2.2.2.2.1).length*1=64/\(schP g.2.2.2.2.2.2.2.2.1).length=(List.replicate 64 (0:Int)).length) (
 xy (kL.length*1=64/\kL.length=(List.replicate 64 (0:Int)).length) (
 0<=(0:Int)/\(0:Int).toNat<8/\
 0<=(1:Int)/\(1:Int).toNat<8/\
 0<=(2:Int)/\(2:Int).toNat<8/\
 0<=(3:Int)/\(3:Int).toNat<8/\
 0<=(4:Int)/\(4:Int).toNat<8/\
 0<=(5:Int)/\(5:Int).toNat<8/\
 0<=(6:Int)/\(6:Int).toNat<8/\
 0<=(7:Int)/\(7:Int).toNat<8/\
 F66_L2 K (g.1,g.2.1,g.2.2.1,g.2.2.2.1,g.2.2.2.2.1,g.2.2.2.2.2.1,g.2.2.2.2.2.2.1,g.2.2.2.2.2.2.2.1,0,g.1,g.2.1,g.2.2.1,g.2.2.2.1,g.2.2.2.2.1,g.2.2.2.2.2.1,g.2.2.2.2.2.2.1,g.2.2.2.2.2.2.2.1,0,0,0,0,0,0,0,0,schP g.2.2.2.2.2.2.2.2.1,kL,())))
theorem F66_eq (g:prodL L66) (K X:Kn):F66 g K=qJ D (qk [] [(112,false,sp112),(113,false,sp113),(114,true,sp114)]) (qx []) H66 J66 123 [.cell 4 101] (qz Tryz.f66) (argsT S66 L66 g) [] (settle0 K) X:=by kernel_rfl
theorem F66_ok (g:prodL L66) (K X:Kn) (h:F66 g K):FCalls Tryz.prog 66 (argsT S66 L66 g) [] K X:=
 FCalls.settle0 (qq qW (jx (zj sp112_ok (zj sp113_ok (zj sp114_ok jv)))) qj rfl Tryz.func66 (c:=qz Tryz.f66) rfl Tryz.ntmps66 Tryz.results66 (by unfold qv;rw [Tryz.func66];kernel_rfl) (Nat.le_of_ble_eq_true (by kernel_rfl)) (c0:=0) (Eq.mp (F66_eq g K X) h))
end Go.Proofs.YtbglndogddddoaaGreatDoor
namespace Go.Proofs.YtbglndogddddoaaGreatDoor
open Go.RowKit
set_option maxRecDepth 100000
theorem addW_8 (x0 x1 x2 x3 x4 x5 x6 x7 a b c d e f g k:Int):Vc [x0,x1,x2,x3,x4,x5,x6,x7] [a,b,c,d,e,f,g,k]=[IntKind.u32.wrap (x0+a),IntKind.u32.wrap (x1+b),IntKind.u32.wrap (x2+c),IntKind.u32.wrap (x3+d),IntKind.u32.wrap (x4+e),IntKind.u32.wrap (x5+f),IntKind.u32.wrap (x6+g),IntKind.u32.wrap (x7+k)]:=rfl
theorem rnd_8 (w:List Int) (t:Nat) (a b c d e f g k:Int):rnd w [a,b,c,d,e,f,g,k] t=[IntKind.u32.wrap (WC w t e f g k+rndT2 a b c),a,b,c,IntKind.u32.wrap (d+WC w t e f g k),e,f,g]:=rfl
theorem kL_len:kL.length=64:=rfl
theorem vAt_zero (w s:List Int):vAt w s 0=s:=rfl
theorem F66_B2_is {K:Kn} {W:prodL [.int .u32, .int .u32, .int .u32, .int .u32, .int .u32, .int .u32, .int .u32, .int .u32, .int .i64, .int .u32, .int .u32, .int .u32, .int .u32, .int .u32, .int .u32, .int .u32, .int .u32, .int .u32, .int .u32, .int .u32, .int .u32, .int .u32, .int .u32, .int .u32, .int .u32, .sl .u32, .sl .u32]->Prop}
  {w:List Int} (hw:w.length=64) {t:Nat} (ht:t<64) {a b c d e f g k x0 x1 x2 x3 x4 x5 x6 x7:Int}
  (h:W (IntKind.u32.wrap (WC w t e f g k+rndT2 a b c),a,b,c,IntKind.u32.wrap (d+WC w t e f g k),e,f,g,((t+1:Nat):Int),x0,x1,x2,x3,x4,x5,x6,x7,0,0,0,0,0,0,0,0,w,kL,())):
  WD K W a b c d e f g k t x0 x1 x2 x3 x4 x5 x6 x7 0 0 0 0 0 0 0 0 w kL:=by
 have hk:=kL_len
 unfold WD
 rw [decide_eq_true (show (t:Int) <64 by omega),cond_true]
 unfold WC rndT2 at h
 rw [Yw (show t<kL.length by omega),Yw (show t<w.length by omega)] at h
 simp only [toN]
 rw [wI (by omega)]
 exact ⟨trivial,trivial,trivial,by omega,by omega,wb (show t<kL.length by omega) ⟨by omega,by omega,wb (show t<w.length by omega) ⟨trivial,trivial,trivial,h⟩⟩⟩
theorem F66_B2_end {K:Kn} {W:prodL [.int .u32, .int .u32, .int .u32, .int .u32, .int .u32, .int .u32, .int .u32, .int .u32, .int .i64, .int .u32, .int .u32, .int .u32, .int .u32, .int .u32, .int .u32, .int .u32, .int .u32, .int .u32, .int .u32, .int .u32, .int .u32, .int .u32, .int .u32, .int .u32, .int .u32, .sl .u32, .sl .u32]->Prop}
  {w l:List Int} {a b c d e f g k x0 x1 x2 x3 x4 x5 x6 x7:Int}
  (h:K (.ag [.int .u32 (IntKind.u32.wrap (x0+a)), .int .u32 (IntKind.u32.wrap (x1+b)), .int .u32 (IntKind.u32.wrap (x2+c)), .int .u32 (IntKind.u32.wrap (x3+d)), .int .u32 (IntKind.u32.wrap (x4+e)), .int .u32 (IntKind.u32.wrap (x5+f)), .int .u32 (IntKind.u32.wrap (x6+g)), .int .u32 (IntKind.u32.wrap (x7+k))]) []):
  WD K W a b c d e f g k 64 x0 x1 x2 x3 x4 x5 x6 x7 0 0 0 0 0 0 0 0 w l:=by
 unfold WD
 rw [decide_eq_false (by omega),cond_false]
 repeat (refine And.intro (by decide) ?_)
 exact h
theorem F66_L2_is {w:List Int} (hw:w.length=64) {x0 x1 x2 x3 x4 x5 x6 x7:Int} {K:Kn} (h:K (.ag [.int .u32 ((Vc [x0,x1,x2,x3,x4,x5,x6,x7] (vAt w [x0,x1,x2,x3,x4,x5,x6,x7] 64)).getD 0 0), .int .u32 ((Vc [x0,x1,x2,x3,x4,x5,x6,x7] (vAt w [x0,x1,x2,x3,x4,x5,x6,x7] 64)).getD 1 0), .int .u32 ((Vc [x0,x1,x2,x3,x4,x5,x6,x7] (vAt w [x0,x1,x2,x3,x4,x5,x6,x7] 64)).getD 2 0), .int .u32 ((Vc [x0,x1,x2,x3,x4,x5,x6,x7] (vAt w [x0,x1,x2,x3,x4,x5,x6,x7] 64)).getD 3 0), .int .u32 ((Vc [x0,x1,x2,x3,x4,x5,x6,x7] (vAt w [x0,x1,x2,x3,x4,x5,x6,x7] 64)).getD 4 0), .int .u32 ((Vc [x0,x1,x2,x3,x4,x5,x6,x7] (vAt w [x0,x1,x2,x3,x4,x5,x6,x7] 64)).getD 5 0), .int .u32 ((Vc [x0,x1,x2,x3,x4,x5,x6,x7] (vAt w [x0,x1,x2,x3,x4,x5,x6,x7] 64)).getD 6 0), .int .u32 ((Vc [x0,x1,x2,x3,x4,x5,x6,x7] (vAt w [x0,x1,x2,x3,x4,x5,x6,x7] 64)).getD 7 0)]) []):
  F66_L2 K (x0,x1,x2,x3,x4,x5,x6,x7,0,x0,x1,x2,x3,x4,x5,x6,x7,0,0,0,0,0,0,0,0,w,kL,()):=by
 have hs:[x0,x1,x2,x3,x4,x5,x6,x7].length=8:=rfl
 have key: ∀t,(vAt w [x0,x1,x2,x3,x4,x5,x6,x7] t).length=8:=qzZ w hs
 have hz:=vAt_zero w [x0,x1,x2,x3,x4,x5,x6,x7]
 have hsu:=vAt_succ w [x0,x1,x2,x3,x4,x5,x6,x7]
 generalize vAt w [x0,x1,x2,x3,x4,x5,x6,x7]=v at h key hz hsu
 unfold F66_L2
 refine qQ.countTo 64 (fun t=>((v t).getD 0 0,(v t).getD 1 0,(v t).getD 2 0,(v t).getD 3 0,(v t).getD 4 0,(v t).getD 5 0,(v t).getD 6 0,(v t).getD 7 0,(t:Int),x0,x1,x2,x3,x4,x5,x6,x7,0,0,0,0,0,0,0,0,w,kL,())) (fun _=>True) (by rw [hz];rfl) (fun t ht _ W hW=> ?_) trivial
 obtain ⟨a,b,c,d,e,f,g,k,hv⟩:=eight (key t)
 by_cases hlt:t<64
 . have hW:=hW hlt trivial
   rw [hsu,hv,rnd_8] at hW
   rw [hv]
   exact F66_B2_is hw hlt hW
 . have:t=64:=by omega
   subst this
   rw [hv,addW_8] at h
   rw [hv]
   exact F66_B2_end h
theorem F66_is {x0 x1 x2 x3 x4 x5 x6 x7:Int} {b:ByteArray} {K:Kn} (hb:b.size=64) (h:K (.ag [.int .u32 ((qt [x0,x1,x2,x3,x4,x5,x6,x7] b).getD 0 0), .int .u32 ((qt [x0,x1,x2,x3,x4,x5,x6,x7] b).getD 1 0), .int .u32 ((qt [x0,x1,x2,x3,x4,x5,x6,x7] b).getD 2 0), .int .u32 ((qt [x0,x1,x2,x3,x4,x5,x6,x7] b).getD 3 0), .int .u32 ((qt [x0,x1,x2,x3,x4,x5,x6,x7] b).getD 4 0), .int .u32 ((qt [x0,x1,x2,x3,x4,x5,x6,x7] b).getD 5 0), .int .u32 ((qt [x0,x1,x2,x3,x4,x5,x6,x7] b).getD 6 0), .int .u32 ((qt [x0,x1,x2,x3,x4,x5,x6,x7] b).getD 7 0)]) []):F66 (x0,x1,x2,x3,x4,x5,x6,x7,b,()) K:=by
 have hw:(schP b).length=64:=qq3 b 64
 unfold qt at h
 unfold F66
 refine ⟨hb,trivial, ?_⟩
 dsimp only
 generalize schP b=w at hw h ⊢
 refine ⟨⟨by omega,by rw [hw];rfl⟩,⟨rfl,rfl⟩, ?_⟩
 repeat (refine And.intro (by decide) ?_)
 exact F66_L2_is hw h
def sp66:Sp:=⟨S66,L66,fun g=>g.2.2.2.2.2.2.2.2.1.size=64,fun g=> .ag [.int .u32 ((qt [g.1,g.2.1,g.2.2.1,g.2.2.2.1,g.2.2.2.2.1,g.2.2.2.2.2.1,g.2.2.2.2.2.2.1,g.2.2.2.2.2.2.2.1] g.2.2.2.2.2.2.2.2.1).getD 0 0), .int .u32 ((qt [g.1,g.2.1,g.2.2.1,g.2.2.2.1,g.2.2.2.2.1,g.2.2.2.2.2.1,g.2.2.2.2.2.2.1,g.2.2.2.2.2.2.2.1] g.2.2.2.2.2.2.2.2.1).getD 1 0), .int .u32 ((qt [g.1,g.2.1,g.2.2.1,g.2.2.2.1,g.2.2.2.2.1,g.2.2.2.2.2.1,g.2.2.2.2.2.2.1,g.2.2.2.2.2.2.2.1] g.2.2.2.2.2.2.2.2.1).getD 2 0), .int .u32 ((qt [g.1,g.2.1,g.2.2.1,g.2.2.2.1,g.2.2.2.2.1,g.2.2.2.2.2.1,g.2.2.2.2.2.2.1,g.2.2.2.2.2.2.2.1] g.2.2.2.2.2.2.2.2.1).getD 3 0), .int .u32 ((qt [g.1,g.2.1,g.2.2.1,g.2.2.2.1,g.2.2.2.2.1,g.2.2.2.2.2.1,g.2.2.2.2.2.2.1,g.2.2.2.2.2.2.2.1] g.2.2.2.2.2.2.2.2.1).getD 4 0), .int .u32 ((qt [g.1,g.2.1,g.2.2.1,g.2.2.2.1,g.2.2.2.2.1,g.2.2.2.2.2.1,g.2.2.2.2.2.2.1,g.2.2.2.2.2.2.2.1] g.2.2.2.2.2.2.2.2.1).getD 5 0), .int .u32 ((qt [g.1,g.2.1,g.2.2.1,g.2.2.2.1,g.2.2.2.2.1,g.2.2.2.2.2.1,g.2.2.2.2.2.2.1,g.2.2.2.2.2.2.2.1] g.2.2.2.2.2.2.2.2.1).getD 6 0), .int .u32 ((qt [g.1,g.2.1,g.2.2.1,g.2.2.2.1,g.2.2.2.2.1,g.2.2.2.2.2.1,g.2.2.2.2.2.2.1,g.2.2.2.2.2.2.2.1] g.2.2.2.2.2.2.2.2.1).getD 7 0)],fun _=>none⟩
theorem sp66_ok:sp66.Ok Tryz.prog 66 true:=
 ⟨fun g K X hp h=>F66_ok g K X (F66_is hp h),fun _ _ _=>rfl,fun _=>rfl,fun _ _=>⟨rfl,rfl⟩⟩
end Go.Proofs.YtbglndogddddoaaGreatDoor
