import Derived.Shelf.SlSortCmp.WholeK
import Derived.Test.YtbglndogddddoaaGreatDoorE5
set_option linter.unusedVariables false
set_option linter.unusedSimpArgs false
set_option linter.unusedSectionVars false
namespace Go.Proofs.YtbglndogddddoaaGreatDoor
open Go.RowKit
attribute [local irreducible] qJ qd
set_option maxRecDepth 100000
def H118n:List (Nat×Hint):=[]
def J118n:List (Nat×Hint):=[]
abbrev S118n:List Sh:=[.nil]
abbrev Xh:List Lf:=[]
abbrev O118n:List ObSh:=[]
def F118n (g:prodL Xh) (K:Kn):Prop:=
 K (.ag [.bool true, .str (⟨#[]⟩:ByteArray), .nil]) []
theorem F118n_eq (g:prodL Xh) (K X:Kn):F118n g K=qJ D (qk [] []) (qx []) H118n J118n 5 [.cell 2 85] (qz Tryz.f118) (argsT S118n Xh g) (qg S118n O118n Xh g) (settle0 K) X 0:=by kernel_rfl
theorem F118n_ok (g:prodL Xh) (K X:Kn) (h:F118n g K):FCalls Tryz.prog 118 (argsT S118n Xh g) (qg S118n O118n Xh g) K X 0:=
 FCalls.settle0 (qq (Γ:=qk [] []) (mu:=qx []) (H:=H118n) (J:=J118n) qY (jq z8) qj rfl Tryz.func118 (c:=qz Tryz.f118) rfl Tryz.ntmps118 Tryz.results118 (by unfold qv;rw [Tryz.func118];kernel_rfl) (Nat.le_of_ble_eq_true (by kernel_rfl)) (c0:=0) (Eq.mp (F118n_eq g K X) h))
def jo:Raw:=⟨S118n,O118n,Xh,0,fun g K _=>F118n g K⟩
theorem JM:jo.Ok Tryz.prog 118:=fun g K X h=>F118n_ok g K X h
def H121:List (Nat×Hint):=[]
def J121:List (Nat×Hint):=[]
abbrev S121:List Sh:=[.leaf]
abbrev L121:List Lf:=[.int .i64]
def F121 (g:prodL L121) (K:Kn):Prop:=
 KV.pre (g.1,())/\
 K (.ag [.bool (((vZ g.1).1).isList), .str (((vZ g.1).1).atom), .sl false .sexp (((vZ g.1).1).list)]) []
theorem F121_eq (g:prodL L121) (K X:Kn):F121 g K=qJ D (qk [] [(170,false,KV)]) (qx []) H121 J121 11 [.cell 2 85] (qz Tryz.f121) (argsT S121 L121 g) [] (settle0 K) X:=by kernel_rfl
theorem F121_ok (g:prodL L121) (K X:Kn) (h:F121 g K):FCalls Tryz.prog 121 (argsT S121 L121 g) [] K X:=
 FCalls.settle0 (qq (Γ:=qk [] [(170,false,KV)]) (mu:=qx []) (H:=H121) (J:=J121) qY (qV (rs:=[]) (l:=[(170,false,KV)]) (fun p hp=>by cases hp) (by intro p hp;simp only [List.mem_cons,List.not_mem_nil,or_false] at hp;subst hp;exact sp170_ok)) qj rfl Tryz.func121 (c:=qz Tryz.f121) rfl Tryz.ntmps121 Tryz.results121 (by unfold qv;rw [Tryz.func121];kernel_rfl) (Nat.le_of_ble_eq_true (by kernel_rfl)) (c0:=0) (Eq.mp (F121_eq g K X) h))
def H79:List (Nat×Hint):=[]
def J79:List (Nat×Hint):=[]
abbrev S79:List Sh:=[.leaf]
abbrev L79:List Lf:=[.int .i64]
def F79 (g:prodL L79) (K:Kn):Prop:=
 sp133.pre (g.1,())/\
 K (.ag [.bool (((vZ g.1).1).isList), .str (((vZ g.1).1).atom), .sl false .sexp (((vZ g.1).1).list)]) []
theorem F79_eq (g:prodL L79) (K X:Kn):F79 g K=qJ D (qk [] [(133,false,sp133)]) (qx []) H79 J79 11 [.cell 2 85] (qz Tryz.f79) (argsT S79 L79 g) [] (settle0 K) X:=by kernel_rfl
theorem F79_ok (g:prodL L79) (K X:Kn) (h:F79 g K):FCalls Tryz.prog 79 (argsT S79 L79 g) [] K X:=
 FCalls.settle0 (qq (Γ:=qk [] [(133,false,sp133)]) (mu:=qx []) (H:=H79) (J:=J79) qY (qV (rs:=[]) (l:=[(133,false,sp133)]) (fun p hp=>by cases hp) (by intro p hp;simp only [List.mem_cons,List.not_mem_nil,or_false] at hp;subst hp;exact sp133_ok)) qj rfl Tryz.func79 (c:=qz Tryz.f79) rfl Tryz.ntmps79 Tryz.results79 (by unfold qv;rw [Tryz.func79];kernel_rfl) (Nat.le_of_ble_eq_true (by kernel_rfl)) (c0:=0) (Eq.mp (F79_eq g K X) h))
def H128:List (Nat×Hint):=[]
def J128:List (Nat×Hint):=[]
abbrev S128:List Sh:=[.leaf]
abbrev L128:List Lf:=[.el .dig]
def F128 (g:prodL L128) (K:Kn):Prop:=
 K (.str (XG g.1)) []
theorem F128_eq (g:prodL L128) (K X:Kn):F128 g K=qJ D (qk [] []) (qx []) H128 J128 5 [.tmp 2] (qz Tryz.f128) (argsT S128 L128 g) [] (settle0 K) X:=by kernel_rfl
theorem F128_ok (g:prodL L128) (K X:Kn) (h:F128 g K):FCalls Tryz.prog 128 (argsT S128 L128 g) [] K X:=
 FCalls.settle0 (qq qY (jq z8) qj rfl Tryz.func128 (c:=qz Tryz.f128) rfl Tryz.ntmps128 Tryz.results128 (by unfold qv;rw [Tryz.func128];kernel_rfl) (Nat.le_of_ble_eq_true (by kernel_rfl)) (c0:=0) (Eq.mp (F128_eq g K X) h))
def sp128:Sp:=⟨S128,L128,fun _=>True,fun g=> .str (XG g.1),fun _=>none⟩
theorem sp128_ok:sp128.Ok Tryz.prog 128 true:=
 ⟨fun g K X hp h=>F128_ok g K X h,fun _ _ _=>rfl,fun _=>rfl,by first | exact fun _ _=>⟨rfl,rfl⟩ | (intro h;cases h)⟩
def H74:List (Nat×Hint):=[]
def J74:List (Nat×Hint):=[]
abbrev S74:List Sh:=[.leaf]
abbrev L74:List Lf:=[.el .dig]
def F74 (g:prodL L74) (K:Kn):Prop:=
 True/\
 bif zk g.1 dz then (
  True/\
  K (.ag [.bool false, .str (⟨#[]⟩:ByteArray), .nil]) [])
 else (
  True/\
 True/\
 K (.ag [.bool false, .str (XG g.1), .nil]) [])
theorem F74_eq (g:prodL L74) (K X:Kn):F74 g K=qJ D (qk [] [(78,false,qqE),(123,true,QY),(128,true,sp128)]) (qx []) H74 J74 9 [.cell 2 85] (qz Tryz.f74) (argsT S74 L74 g) [] (settle0 K) X:=by kernel_rfl
theorem F74_ok (g:prodL L74) (K X:Kn) (h:F74 g K):FCalls Tryz.prog 74 (argsT S74 L74 g) [] K X:=
 FCalls.settle0 (qq qY (jq (zq Z6 (zq kB (zq sp128_ok z8)))) qj rfl Tryz.func74 (c:=qz Tryz.f74) rfl Tryz.ntmps74 Tryz.results74 (by unfold qv;rw [Tryz.func74];kernel_rfl) (Nat.le_of_ble_eq_true (by kernel_rfl)) (c0:=0) (Eq.mp (F74_eq g K X) h))
def H120:List (Nat×Hint):=[]
def J120:List (Nat×Hint):=[]
abbrev S120:List Sh:=[]
abbrev qqO:List Lf:=[]
abbrev O120:List ObSh:=[]
def F120 (g:prodL qqO) (K:Kn):Prop:=
 K (.mp 0) [some (.cells [.fents false [(1,(⟨#[]⟩:ByteArray),160),(2,(⟨#[]⟩:ByteArray),161),(3,(⟨#[]⟩:ByteArray),164),(4,(⟨#[]⟩:ByteArray),165),(5,(⟨#[]⟩:ByteArray),166),(6,(⟨#[]⟩:ByteArray),168),(7,(⟨#[]⟩:ByteArray),169)]])]
theorem F120_eq (g:prodL qqO) (K X:Kn):F120 g K=qJ D (qk [] []) (qx []) H120 J120 3 [.tmp 0] (qz Tryz.f120) (argsT S120 qqO g) (qg S120 O120 qqO g) (settleD (qg S120 O120 qqO g).length 0 K) X 0:=by kernel_rfl
theorem F120_ok (g:prodL qqO) (K X:Kn) (h:F120 g K):FCalls Tryz.prog 120 (argsT S120 qqO g) (qg S120 O120 qqO g) K X 0:=
 FCalls.settleD (qq (Γ:=qk [] []) (mu:=qx []) (H:=H120) (J:=J120) qY (jq z8) qj rfl Tryz.func120 (c:=qz Tryz.f120) rfl Tryz.ntmps120 (rs:=[.tmp 0]) Tryz.results120 (by unfold qv;rw [Tryz.func120];kernel_rfl) (Nat.le_of_ble_eq_true (by kernel_rfl)) (X:=X) (c0:=0) (Eq.mp (F120_eq g K X) h))
def H167:List (Nat×Hint):=[(3,⟨[((2,[]),none),((3,[]),none),((3,[2]),some .sexp)],[(2, .pt 0 0),(3, .pt 1 0),(7, .leaf),(8, .leaf),(9, .leaf)],[.cells [.leaf, .leaf, .nil], .cells [.leaf, .leaf, .oa .sexp 2], .arr .sexp],[.sl .str, .int .i64, .int .i64, .bool, .str, .bool, .str, .sl .sexp]⟩)]
def J167:List (Nat×Hint):=[]
abbrev S167:List Sh:=[.leaf]
abbrev L167:List Lf:=[.sl .str]
def ZM (K:Kn) (W6:prodL [.sl .str, .int .i64, .int .i64, .bool, .str, .bool, .str, .sl .sexp]->Prop) (t_5:List ByteArray) (t2_5 t3_5:Int) (t1_5:Bool) (t22_5:ByteArray) (x1_5:Bool) (x2_5:ByteArray) (x_5:List Sx):Prop:=
 bif decide (t3_5<t2_5)then (
  At t_5 t3_5 fun u7=>
 True/\
 ql (x_5.length+[(⟨false,u7,[]⟩:Sx)].length) 48 (
 W6 (t_5,t2_5,IntKind.i64.wrap (t3_5+1),t1_5,t22_5,x1_5,x2_5,x_5++[(⟨false,u7,[]⟩:Sx)],())))
 else (
  K (.ag [.bool x1_5, .str x2_5, .sl false .sexp x_5]) [])
def F167_L6 (K:Kn) (g:prodL [.sl .str, .int .i64, .int .i64, .bool, .str, .bool, .str, .sl .sexp]):Prop:=
 qQ (γ:=prodL [.sl .str, .int .i64, .int .i64, .bool, .str, .bool, .str, .sl .sexp]) (fun V y=>ZM K V y.1 y.2.1 y.2.2.1 y.2.2.2.1 y.2.2.2.2.1 y.2.2.2.2.2.1 y.2.2.2.2.2.2.1 y.2.2.2.2.2.2.2.1) g
def F167 (g:prodL L167) (K:Kn):Prop:=
 let g1:prodL []:=(());
 F167_L6 K (g.1,(g.1.length:Int),0,false,(⟨#[]⟩:ByteArray),true,(⟨#[]⟩:ByteArray),[],())
theorem F167_eq (g:prodL L167) (K X:Kn):F167 g K=qJ D (qk [(118,jo)] [(119,false,yC)]) (qx [(118,jo)]) H167 J167 22 [.cell 2 85] (qz Tryz.f167) (argsT S167 L167 g) [] (settle0 K) X:=by kernel_rfl
theorem F167_ok (g:prodL L167) (K X:Kn) (h:F167 g K):FCalls Tryz.prog 167 (argsT S167 L167 g) [] K X:=
 FCalls.settle0 (qq (Γ:=qk [(118,jo)] [(119,false,yC)]) (mu:=qx [(118,jo)]) (H:=H167) (J:=J167) qY (qV (rs:=[(118,jo)]) (l:=[(119,false,yC)]) (by intro p hp;simp only [List.mem_cons,List.not_mem_nil,or_false] at hp;subst hp;exact JM) (by intro p hp;simp only [List.mem_cons,List.not_mem_nil,or_false] at hp;subst hp;exact yN)) qj rfl Tryz.func167 (c:=qz Tryz.f167) rfl Tryz.ntmps167 Tryz.results167 (by unfold qv;rw [Tryz.func167];kernel_rfl) (Nat.le_of_ble_eq_true (by kernel_rfl)) (c0:=0) (Eq.mp (F167_eq g K X) h))
end Go.Proofs.YtbglndogddddoaaGreatDoor
namespace Go.Proofs.YtbglndogddddoaaGreatDoor
open Go.RowKit
set_option maxRecDepth 100000
theorem wkX {K:Kn} {b:Bool} {s:ByteArray} {f:Bool} {l:List Sx} {st:St} (h:K (.ag [.bool b, .str s, .sl false .sexp l]) st):xw K (.ag [.bool b, .str s, .sl f .sexp l]) st:=
 ⟨_,zn.ag (qM.cons (zn.refl _) (qM.cons (zn.refl _) (qM.cons (zn.sl f .sexp l) qM.nil))),h⟩
theorem wkX0 {K:Kn} {b:Bool} {s:ByteArray} {st:St} (h:K (.ag [.bool b, .str s, .sl false .sexp []]) st):xw K (.ag [.bool b, .str s, .nil]) st:=
 ⟨_,zn.ag (qM.cons (zn.refl _) (qM.cons (zn.refl _) (qM.cons (zn.nil .sexp) qM.nil))),h⟩
def xC:Sp:=⟨S121,L121,fun g=>jj g.1,fun g=> .ag (enc .sexp (qW g.1)),fun _=>none⟩
theorem JJ:xC.Ok Tryz.prog 121 false:=
 ⟨fun g K X hp h=>F121_ok g K X ⟨hp,h⟩,fun _ _ _=>rfl,fun _=>rfl,fun h=>(by cases h)⟩
def xY:Sp:=⟨S79,L79,fun g=>jj g.1,fun g=> .ag (enc .sexp (qW g.1)),fun _=>none⟩
theorem vk:xY.Ok Tryz.prog 79 false:=
 ⟨fun g K X hp h=>F79_ok g K X ⟨hp,h⟩,fun _ _ _=>rfl,fun _=>rfl,fun h=>(by cases h)⟩
def sp120:Sp:=⟨S120,qqO,fun _=>True,fun _=> .mp 0,fun _=>some (.cells [.fents false tblL])⟩
theorem sp120_ok:sp120.Ok Tryz.prog 120 false:=
 ⟨fun g K X _ h=>F120_ok g K X h,fun _ _ _=>rfl,fun _=>rfl,fun h=>(by cases h)⟩
theorem F74_is {d:Dig} {K:Kn} (h:K (.ag (enc .sexp (z6 d))) []):F74 (d,()) (xw K):=by
 unfold F74
 refine ⟨trivial, ?_⟩
 show bif zk d dz then _ else _
 unfold z6 at h
 cases c:zk d dz
 . rw [c] at h;exact ⟨trivial,trivial,wkX0 h⟩
 . rw [c] at h;exact ⟨trivial,wkX0 h⟩
def sp74:Sp:=⟨S74,L74,fun _=>True,fun g=> .ag (enc .sexp (z6 g.1)),fun _=>none⟩
theorem sp74_ok:sp74.Ok Tryz.prog 74 false:=
 ⟨fun g K X _ h=>FCalls.weak (F74_ok g (xw K) X (F74_is h)),fun _ _ _=>rfl,fun _=>rfl,fun h=>(by cases h)⟩
theorem F167_is {l:List ByteArray} {K:Kn} (hl:l.length<=4194304) (h:K (.ag (enc .sexp (yw l))) []):F167 (l,()) K:=by
 unfold F167
 refine qQ.map l qD (fun n out=>(l,(l.length:Int),n,false,⟨#[]⟩,true,⟨#[]⟩,out,())) (by omega) rfl (fun W n hn out ho hW=> ?_) fun W=> ?_
 . show ZM K W l l.length n false ⟨#[]⟩ true ⟨#[]⟩ out
   unfold ZM
   rw [qt hn,cond_true]
   exact qE hn ⟨trivial,by simp only [List.length_singleton,ho];omega,hW⟩
 . show ZM K W l l.length l.length false ⟨#[]⟩ true ⟨#[]⟩ (l.map qD)
   unfold ZM
   rw [qm,cond_false];exact h
def sp167:Sp:=⟨S167,L167,fun g=>g.1.length<=4194304,fun g=> .ag (enc .sexp (yw g.1)),fun _=>none⟩
theorem sp167_ok:sp167.Ok Tryz.prog 167 false:=
 ⟨fun g K X hp h=>F167_ok g K X (F167_is hp h),fun _ _ _=>rfl,fun _=>rfl,fun h=>(by cases h)⟩
end Go.Proofs.YtbglndogddddoaaGreatDoor
namespace Go.Proofs.YtbglndogddddoaaGreatDoor
open Go.RowKit
attribute [local irreducible] qJ qd
set_option maxRecDepth 100000
def H162:List (Nat×Hint):=[]
def J162:List (Nat×Hint):=[]
abbrev S162:List Sh:=[.leaf]
abbrev L162:List Lf:=[.el .idk]
def F162 (g:prodL L162) (K:Kn):Prop:=
 True/\
 bif Qg g.1 then (
  True/\
  xC.pre (g.1.n,())/\
  let g1:prodL [.sl .sexp]:=([(⟨false,(⟨#[]⟩:ByteArray),[]⟩:Sx),(⟨(qW g.1.n).isList,(qW g.1.n).atom,(qW g.1.n).list⟩:Sx)],());
  K (.ag [.bool true, .str (⟨#[]⟩:ByteArray), .sl true .sexp g1.1]) [])
 else (
  True/\
 xC.pre (g.1.n,())/\
 let g2:prodL [.sl .sexp]:=([(⟨false,XG g.1.patch,[]⟩:Sx),(⟨(qW g.1.n).isList,(qW g.1.n).atom,(qW g.1.n).list⟩:Sx)],());
 K (.ag [.bool true, .str (⟨#[]⟩:ByteArray), .sl true .sexp g2.1]) [])
theorem F162_eq (g:prodL L162) (K X:Kn):F162 g K=qJ D (qk [(118,kd)] [(47,true,sp47),(119,false,yC),(121,false,xC)]) (qx [(118,kd)]) H162 J162 20 [.cell 2 85] (qz Tryz.f162) (argsT S162 L162 g) [] (settle0 K) X:=by kernel_rfl
theorem F162_ok (g:prodL L162) (K X:Kn) (h:F162 g K):FCalls Tryz.prog 162 (argsT S162 L162 g) [] K X:=
 FCalls.settle0 (qq (Γ:=qk [(118,kd)] [(47,true,sp47),(119,false,yC),(121,false,xC)]) (mu:=qx [(118,kd)]) (H:=H162) (J:=J162) qY (qV (rs:=[(118,kd)]) (l:=[(47,true,sp47),(119,false,yC),(121,false,xC)]) (by intro p hp;simp only [List.mem_cons,List.not_mem_nil,or_false] at hp;subst hp;exact rw118_ok) (by intro p hp;simp only [List.mem_cons,List.not_mem_nil,or_false] at hp;rcases hp with rfl | rfl | rfl<;>first | exact qqn | exact yN | exact JJ)) qj rfl Tryz.func162 (c:=qz Tryz.f162) rfl Tryz.ntmps162 Tryz.results162 (by unfold qv;rw [Tryz.func162];kernel_rfl) (Nat.le_of_ble_eq_true (by kernel_rfl)) (c0:=0) (Eq.mp (F162_eq g K X) h))
def H129:List (Nat×Hint):=[]
def J129:List (Nat×Hint):=[]
abbrev S129:List Sh:=[.leaf]
abbrev L129:List Lf:=[.el .idk]
def F129 (g:prodL L129) (K:Kn):Prop:=
 True/\
 xY.pre (g.1.n,())/\
 True/\
 K (.ag [.bool true, .str (⟨#[]⟩:ByteArray), .sl false .sexp [(⟨(z6 g.1.patch).isList,(z6 g.1.patch).atom,(z6 g.1.patch).list⟩:Sx),(⟨(qW g.1.n).isList,(qW g.1.n).atom,(qW g.1.n).list⟩:Sx)]]) []
theorem F129_eq (g:prodL L129) (K X:Kn):F129 g K=qJ D (qk [] [(74,false,sp74),(77,false,yG),(79,false,xY)]) (qx []) H129 J129 11 [.cell 2 85] (qz Tryz.f129) (argsT S129 L129 g) [] (settle0 K) X:=by kernel_rfl
theorem F129_ok (g:prodL L129) (K X:Kn) (h:F129 g K):FCalls Tryz.prog 129 (argsT S129 L129 g) [] K X:=
 FCalls.settle0 (qq qY (jq (zq sp74_ok (zq xg (zq vk z8)))) qj rfl Tryz.func129 (c:=qz Tryz.f129) rfl Tryz.ntmps129 Tryz.results129 (by unfold qv;rw [Tryz.func129];kernel_rfl) (Nat.le_of_ble_eq_true (by kernel_rfl)) (c0:=0) (Eq.mp (F129_eq g K X) h))
end Go.Proofs.YtbglndogddddoaaGreatDoor
namespace Go.Proofs.YtbglndogddddoaaGreatDoor
open Go.RowKit
set_option maxRecDepth 100000
theorem F162_is {x:Idn} {K:Kn} (hp:jj x.n) (h:K (.ag (enc .sexp (qi x))) []):F162 (x,()) (xw K):=by
 unfold F162
 simp only [zi]
 refine ⟨trivial, ?_⟩
 unfold qi z6 at h
 unfold Qg
 cases c:zk x.patch dz
 . rw [c] at h;exact ⟨trivial,hp,wkX h⟩
 . rw [c] at h;exact ⟨trivial,hp,wkX h⟩
def j9:Sp:=⟨S162,L162,fun g=>jj g.1.n,fun g=> .ag (enc .sexp (qi g.1)),fun _=>none⟩
theorem w0:j9.Ok Tryz.prog 162 false:=
 ⟨fun g K X hp h=>FCalls.weak (F162_ok g (xw K) X (F162_is hp h)),fun _ _ _=>rfl,fun _=>rfl,fun h=>(by cases h)⟩
theorem F129_is {x:Idn} {K:Kn} (hp:jj x.n) (h:K (.ag (enc .sexp (qi x))) []):F129 (x,()) K:=by
 unfold F129
 simp only [zi]
 exact ⟨trivial,hp,trivial,h⟩
def jX:Sp:=⟨S129,L129,fun g=>jj g.1.n,fun g=> .ag (enc .sexp (qi g.1)),fun _=>none⟩
theorem wT:jX.Ok Tryz.prog 129 false:=
 ⟨fun g K X hp h=>F129_ok g K X (F129_is hp h),fun _ _ _=>rfl,fun _=>rfl,fun h=>(by cases h)⟩
end Go.Proofs.YtbglndogddddoaaGreatDoor
namespace Go.Proofs.YtbglndogddddoaaGreatDoor
open Go.RowKit
attribute [local irreducible] qJ qd
set_option maxRecDepth 100000
def H163:List (Nat×Hint):=[(3,⟨[((2,[]),none),((3,[]),none),((3,[2]),some .sexp)],[(2, .pt 0 0),(3, .pt 1 0),(7, .leaf),(8, .leaf),(9, .leaf)],[.cells [.leaf, .leaf, .nil], .cells [.leaf, .leaf, .oa .sexp 2], .arr .sexp],[.sl .idk, .int .i64, .int .i64, .bool, .str, .bool, .str, .sl .sexp]⟩)]
def J163:List (Nat×Hint):=[]
abbrev S163:List Sh:=[.leaf]
abbrev L163:List Lf:=[.sl .idk]
def Ja (K:Kn) (W6:prodL [.sl .idk, .int .i64, .int .i64, .bool, .str, .bool, .str, .sl .sexp]->Prop) (t_5:List Idn) (t2_5 t3_5:Int) (t1_5:Bool) (t22_5:ByteArray) (x1_5:Bool) (x2_5:ByteArray) (x_5:List Sx):Prop:=
 bif decide (t3_5<t2_5)then (
  At t_5 t3_5 fun u7=>
 j9.pre (u7,())/\
 ql (x_5.length+[(⟨(qi u7).isList,(qi u7).atom,(qi u7).list⟩:Sx)].length) 48 (
 W6 (t_5,t2_5,IntKind.i64.wrap (t3_5+1),t1_5,t22_5,x1_5,x2_5,x_5++[(⟨(qi u7).isList,(qi u7).atom,(qi u7).list⟩:Sx)],())))
 else (
  K (.ag [.bool x1_5, .str x2_5, .sl false .sexp x_5]) [])
def F163_L6 (K:Kn) (g:prodL [.sl .idk, .int .i64, .int .i64, .bool, .str, .bool, .str, .sl .sexp]):Prop:=
 qQ (γ:=prodL [.sl .idk, .int .i64, .int .i64, .bool, .str, .bool, .str, .sl .sexp]) (fun V y=>Ja K V y.1 y.2.1 y.2.2.1 y.2.2.2.1 y.2.2.2.2.1 y.2.2.2.2.2.1 y.2.2.2.2.2.2.1 y.2.2.2.2.2.2.2.1) g
def F163 (g:prodL L163) (K:Kn):Prop:=
 let g1:prodL []:=(());
 F163_L6 K (g.1,(g.1.length:Int),0,false,(⟨#[]⟩:ByteArray),true,(⟨#[]⟩:ByteArray),[],())
theorem F163_eq (g:prodL L163) (K X:Kn):F163 g K=qJ D (qk [(118,jo)] [(162,false,j9)]) (qx [(118,jo)]) H163 J163 22 [.cell 2 85] (qz Tryz.f163) (argsT S163 L163 g) [] (settle0 K) X:=by kernel_rfl
theorem F163_ok (g:prodL L163) (K X:Kn) (h:F163 g K):FCalls Tryz.prog 163 (argsT S163 L163 g) [] K X:=
 FCalls.settle0 (qq (Γ:=qk [(118,jo)] [(162,false,j9)]) (mu:=qx [(118,jo)]) (H:=H163) (J:=J163) qY (qV (rs:=[(118,jo)]) (l:=[(162,false,j9)]) (by intro p hp;simp only [List.mem_cons,List.not_mem_nil,or_false] at hp;subst hp;exact JM) (by intro p hp;simp only [List.mem_cons,List.not_mem_nil,or_false] at hp;subst hp;exact w0)) qj rfl Tryz.func163 (c:=qz Tryz.f163) rfl Tryz.ntmps163 Tryz.results163 (by unfold qv;rw [Tryz.func163];kernel_rfl) (Nat.le_of_ble_eq_true (by kernel_rfl)) (c0:=0) (Eq.mp (F163_eq g K X) h))
def H130:List (Nat×Hint):=[(3,⟨[((2,[]),none),((3,[]),some .sexp)],[(0, .leaf),(2, .pt 0 0),(3, .oa .sexp 1),(4, .leaf)],[.cells [.leaf, .leaf, .nil], .arr .sexp],[.sl .idk, .int .i64, .bool, .str, .sl .sexp]⟩)]
def J130:List (Nat×Hint):=[(6,⟨[((2,[]),none)],[(2, .pt 0 0),(3, .leaf)],[.cells [.leaf, .leaf, .nil]],[.sl .sexp, .bool, .str]⟩)]
abbrev S130:List Sh:=[.leaf]
abbrev L130:List Lf:=[.sl .idk]
def F130_J8 (K:Kn) (out_7:List Sx) (t1_7:Bool) (t2_7:ByteArray):Prop:=
 True/\
 K (.ag [.bool true, .str (⟨#[]⟩:ByteArray), .sl false .sexp out_7]) []
def Jg (K:Kn) (W5:prodL [.sl .idk, .int .i64, .bool, .str, .sl .sexp]->Prop) (l_4:List Idn) (i_4:Int) (t1_4:Bool) (t2_4:ByteArray) (out_4:List Sx):Prop:=
 bif decide (i_4< (l_4.length:Int))then (
  At l_4 i_4 fun u6=>
 jX.pre (u6,())/\
 ql (out_4.length+[(⟨(qi u6).isList,(qi u6).atom,(qi u6).list⟩:Sx)].length) 48 (
 W5 (l_4,IntKind.i64.wrap (i_4+1),t1_4,t2_4,out_4++[(⟨(qi u6).isList,(qi u6).atom,(qi u6).list⟩:Sx)],())))
 else (
  F130_J8 K out_4 t1_4 t2_4)
def F130_L5 (K:Kn) (g:prodL [.sl .idk, .int .i64, .bool, .str, .sl .sexp]):Prop:=
 qQ (γ:=prodL [.sl .idk, .int .i64, .bool, .str, .sl .sexp]) (fun V y=>Jg K V y.1 y.2.1 y.2.2.1 y.2.2.2.1 y.2.2.2.2.1) g
def F130 (g:prodL L130) (K:Kn):Prop:=
 F130_L5 K (g.1,0,false,(⟨#[]⟩:ByteArray),[],())
theorem F130_eq (g:prodL L130) (K X:Kn):F130 g K=qJ D (qk [] [(77,false,yG),(129,false,jX)]) (qx []) H130 J130 22 [.cell 2 85] (qz Tryz.f130) (argsT S130 L130 g) [] (settle0 K) X:=by kernel_rfl
theorem F130_ok (g:prodL L130) (K X:Kn) (h:F130 g K):FCalls Tryz.prog 130 (argsT S130 L130 g) [] K X:=
 FCalls.settle0 (qq qY (jq (zq xg (zq wT z8))) qj rfl Tryz.func130 (c:=qz Tryz.f130) rfl Tryz.ntmps130 Tryz.results130 (by unfold qv;rw [Tryz.func130];kernel_rfl) (Nat.le_of_ble_eq_true (by kernel_rfl)) (c0:=0) (Eq.mp (F130_eq g K X) h))
end Go.Proofs.YtbglndogddddoaaGreatDoor
namespace Go.Proofs.YtbglndogddddoaaGreatDoor
open Go.RowKit
set_option maxRecDepth 100000
theorem F163_is {l:List Idn} {K:Kn} (hp:ovP l) (h:K (.ag (enc .sexp (qp l))) []):F163 (l,()) K:=by
 obtain ⟨hl,hi⟩:=hp
 unfold F163
 refine qQ.map l qi (fun n out=>(l,(l.length:Int),n,false,⟨#[]⟩,true,⟨#[]⟩,out,())) (by omega) rfl (fun W n hn out ho hW=> ?_) fun W=> ?_
 . show Ja K W l l.length n false ⟨#[]⟩ true ⟨#[]⟩ out
   unfold Ja
   rw [qt hn,cond_true]
   simp only [zi]
   exact qE hn ⟨hi _ (List.getElem_mem _),by simp only [List.length_singleton,ho];omega,hW⟩
 . show Ja K W l l.length l.length false ⟨#[]⟩ true ⟨#[]⟩ (l.map qi)
   unfold Ja
   rw [qm,cond_false];exact h
def wO:Sp:=⟨S163,L163,fun g=>ovP g.1,fun g=> .ag (enc .sexp (qp g.1)),fun _=>none⟩
theorem yO:wO.Ok Tryz.prog 163 false:=
 ⟨fun g K X hp h=>F163_ok g K X (F163_is hp h),fun _ _ _=>rfl,fun _=>rfl,fun h=>(by cases h)⟩
theorem F130_is {l:List Idn} {K:Kn} (hp:ovP l) (h:K (.ag (enc .sexp (qp l))) []):F130 (l,()) K:=by
 obtain ⟨hl,hi⟩:=hp
 unfold F130
 refine qQ.map l qi (fun n out=>(l,n,false,⟨#[]⟩,out,())) (by omega) rfl (fun W n hn out ho hW=> ?_) fun W=> ?_
 . show Jg K W l n false ⟨#[]⟩ out
   unfold Jg
   rw [qt hn,cond_true]
   simp only [zi]
   exact qE hn ⟨hi _ (List.getElem_mem _),by simp only [List.length_singleton,ho];omega,hW⟩
 . show Jg K W l l.length false ⟨#[]⟩ (l.map qi)
   unfold Jg
   rw [qm,cond_false];exact ⟨trivial,h⟩
def xO:Sp:=⟨S130,L130,fun g=>ovP g.1,fun g=> .ag (enc .sexp (qp g.1)),fun _=>none⟩
theorem kr:xO.Ok Tryz.prog 130 false:=
 ⟨fun g K X hp h=>F130_ok g K X (F130_is hp h),fun _ _ _=>rfl,fun _=>rfl,fun h=>(by cases h)⟩
end Go.Proofs.YtbglndogddddoaaGreatDoor
namespace Go.Proofs.YtbglndogddddoaaGreatDoor
open Go.RowKit
attribute [local irreducible] qJ qd
set_option maxRecDepth 100000
def H160:List (Nat×Hint):=[]
def J160:List (Nat×Hint):=[]
abbrev S160:List Sh:=[.leaf]
abbrev L160:List Lf:=[.el .chg]
def F160 (g:prodL L160) (K:Kn):Prop:=
 xC.pre (g.1.typ,())/\
 K (.sl true .sexp [(⟨(qW g.1.typ).isList,(qW g.1.typ).atom,(qW g.1.typ).list⟩:Sx)]) []
theorem F160_eq (g:prodL L160) (K X:Kn):F160 g K=qJ D (qk [] [(121,false,xC)]) (qx []) H160 J160 7 [.tmp 2] (qz Tryz.f160) (argsT S160 L160 g) [] (settle0 K) X:=by kernel_rfl
theorem F160_ok (g:prodL L160) (K X:Kn) (h:F160 g K):FCalls Tryz.prog 160 (argsT S160 L160 g) [] K X:=
 FCalls.settle0 (qq (Γ:=qk [] [(121,false,xC)]) (mu:=qx []) (H:=H160) (J:=J160) qY (qV (rs:=[]) (l:=[(121,false,xC)]) (fun p hp=>by cases hp) (by intro p hp;simp only [List.mem_cons,List.not_mem_nil,or_false] at hp;subst hp;exact JJ)) qj rfl Tryz.func160 (c:=qz Tryz.f160) rfl Tryz.ntmps160 Tryz.results160 (by unfold qv;rw [Tryz.func160];kernel_rfl) (Nat.le_of_ble_eq_true (by kernel_rfl)) (c0:=0) (Eq.mp (F160_eq g K X) h))
def H161:List (Nat×Hint):=[]
def J161:List (Nat×Hint):=[]
abbrev S161:List Sh:=[.leaf]
abbrev L161:List Lf:=[.el .chg]
def F161 (g:prodL L161) (K:Kn):Prop:=
 j9.pre (g.1.file,())/\
 j9.pre (g.1.parent,())/\
 True/\
 wO.pre (g.1.over,())/\
 K (.sl true .sexp [(⟨(qi g.1.file).isList,(qi g.1.file).atom,(qi g.1.file).list⟩:Sx),(⟨(qi g.1.parent).isList,(qi g.1.parent).atom,(qi g.1.parent).list⟩:Sx),(⟨false,g.1.name,[]⟩:Sx),(⟨(qp g.1.over).isList,(qp g.1.over).atom,(qp g.1.over).list⟩:Sx)]) []
theorem F161_eq (g:prodL L161) (K X:Kn):F161 g K=qJ D (qk [] [(119,false,yC),(162,false,j9),(163,false,wO)]) (qx []) H161 J161 16 [.tmp 2] (qz Tryz.f161) (argsT S161 L161 g) [] (settle0 K) X:=by kernel_rfl
theorem F161_ok (g:prodL L161) (K X:Kn) (h:F161 g K):FCalls Tryz.prog 161 (argsT S161 L161 g) [] K X:=
 FCalls.settle0 (qq qY (jq (zq yN (zq w0 (zq yO z8)))) qj rfl Tryz.func161 (c:=qz Tryz.f161) rfl Tryz.ntmps161 Tryz.results161 (by unfold qv;rw [Tryz.func161];kernel_rfl) (Nat.le_of_ble_eq_true (by kernel_rfl)) (c0:=0) (Eq.mp (F161_eq g K X) h))
def H164:List (Nat×Hint):=[]
def J164:List (Nat×Hint):=[]
abbrev S164:List Sh:=[.leaf]
abbrev L164:List Lf:=[.el .chg]
def F164 (g:prodL L164) (K:Kn):Prop:=
 j9.pre (g.1.file,())/\
 xC.pre (g.1.mode,())/\
 wO.pre (g.1.over,())/\
 K (.sl true .sexp [(⟨(qi g.1.file).isList,(qi g.1.file).atom,(qi g.1.file).list⟩:Sx),(⟨(qW g.1.mode).isList,(qW g.1.mode).atom,(qW g.1.mode).list⟩:Sx),(⟨(qp g.1.over).isList,(qp g.1.over).atom,(qp g.1.over).list⟩:Sx)]) []
theorem F164_eq (g:prodL L164) (K X:Kn):F164 g K=qJ D (qk [] [(121,false,xC),(162,false,j9),(163,false,wO)]) (qx []) H164 J164 13 [.tmp 2] (qz Tryz.f164) (argsT S164 L164 g) [] (settle0 K) X:=by kernel_rfl
theorem F164_ok (g:prodL L164) (K X:Kn) (h:F164 g K):FCalls Tryz.prog 164 (argsT S164 L164 g) [] K X:=
 FCalls.settle0 (qq qY (jq (zq JJ (zq w0 (zq yO z8)))) qj rfl Tryz.func164 (c:=qz Tryz.f164) rfl Tryz.ntmps164 Tryz.results164 (by unfold qv;rw [Tryz.func164];kernel_rfl) (Nat.le_of_ble_eq_true (by kernel_rfl)) (c0:=0) (Eq.mp (F164_eq g K X) h))
def H165:List (Nat×Hint):=[]
def J165:List (Nat×Hint):=[]
abbrev S165:List Sh:=[.leaf]
abbrev L165:List Lf:=[.el .chg]
def F165 (g:prodL L165) (K:Kn):Prop:=
 j9.pre (g.1.file,())/\
 True/\
 wO.pre (g.1.over,())/\
 K (.sl true .sexp [(⟨(qi g.1.file).isList,(qi g.1.file).atom,(qi g.1.file).list⟩:Sx),(⟨false,g.1.data,[]⟩:Sx),(⟨(qp g.1.over).isList,(qp g.1.over).atom,(qp g.1.over).list⟩:Sx)]) []
theorem F165_eq (g:prodL L165) (K X:Kn):F165 g K=qJ D (qk [] [(119,false,yC),(162,false,j9),(163,false,wO)]) (qx []) H165 J165 13 [.tmp 2] (qz Tryz.f165) (argsT S165 L165 g) [] (settle0 K) X:=by kernel_rfl
theorem F165_ok (g:prodL L165) (K X:Kn) (h:F165 g K):FCalls Tryz.prog 165 (argsT S165 L165 g) [] K X:=
 FCalls.settle0 (qq qY (jq (zq yN (zq w0 (zq yO z8)))) qj rfl Tryz.func165 (c:=qz Tryz.f165) rfl Tryz.ntmps165 Tryz.results165 (by unfold qv;rw [Tryz.func165];kernel_rfl) (Nat.le_of_ble_eq_true (by kernel_rfl)) (c0:=0) (Eq.mp (F165_eq g K X) h))
def H166:List (Nat×Hint):=[]
def J166:List (Nat×Hint):=[]
abbrev S166:List Sh:=[.leaf]
abbrev L166:List Lf:=[.el .chg]
def F166 (g:prodL L166) (K:Kn):Prop:=
 j9.pre (g.1.file,())/\
 j9.pre (g.1.after,())/\
 j9.pre (g.1.before,())/\
 sp167.pre (g.1.lines,())/\
 K (.sl true .sexp [(⟨(qi g.1.file).isList,(qi g.1.file).atom,(qi g.1.file).list⟩:Sx),(⟨(qi g.1.after).isList,(qi g.1.after).atom,(qi g.1.after).list⟩:Sx),(⟨(qi g.1.before).isList,(qi g.1.before).atom,(qi g.1.before).list⟩:Sx),(⟨(yw g.1.lines).isList,(yw g.1.lines).atom,(yw g.1.lines).list⟩:Sx)]) []
theorem F166_eq (g:prodL L166) (K X:Kn):F166 g K=qJ D (qk [] [(162,false,j9),(167,false,sp167)]) (qx []) H166 J166 16 [.tmp 2] (qz Tryz.f166) (argsT S166 L166 g) [] (settle0 K) X:=by kernel_rfl
theorem F166_ok (g:prodL L166) (K X:Kn) (h:F166 g K):FCalls Tryz.prog 166 (argsT S166 L166 g) [] K X:=
 FCalls.settle0 (qq qY (jq (zq w0 (zq sp167_ok z8))) qj rfl Tryz.func166 (c:=qz Tryz.f166) rfl Tryz.ntmps166 Tryz.results166 (by unfold qv;rw [Tryz.func166];kernel_rfl) (Nat.le_of_ble_eq_true (by kernel_rfl)) (c0:=0) (Eq.mp (F166_eq g K X) h))
def H168:List (Nat×Hint):=[]
def J168:List (Nat×Hint):=[]
abbrev S168:List Sh:=[.leaf]
abbrev L168:List Lf:=[.el .chg]
def F168 (g:prodL L168) (K:Kn):Prop:=
 j9.pre (g.1.file,())/\
 j9.pre (g.1.after,())/\
 j9.pre (g.1.before,())/\
 wO.pre (g.1.over,())/\
 K (.sl true .sexp [(⟨(qi g.1.file).isList,(qi g.1.file).atom,(qi g.1.file).list⟩:Sx),(⟨(qi g.1.after).isList,(qi g.1.after).atom,(qi g.1.after).list⟩:Sx),(⟨(qi g.1.before).isList,(qi g.1.before).atom,(qi g.1.before).list⟩:Sx),(⟨(qp g.1.over).isList,(qp g.1.over).atom,(qp g.1.over).list⟩:Sx)]) []
theorem F168_eq (g:prodL L168) (K X:Kn):F168 g K=qJ D (qk [] [(162,false,j9),(163,false,wO)]) (qx []) H168 J168 16 [.tmp 2] (qz Tryz.f168) (argsT S168 L168 g) [] (settle0 K) X:=by kernel_rfl
theorem F168_ok (g:prodL L168) (K X:Kn) (h:F168 g K):FCalls Tryz.prog 168 (argsT S168 L168 g) [] K X:=
 FCalls.settle0 (qq qY (jq (zq w0 (zq yO z8))) qj rfl Tryz.func168 (c:=qz Tryz.f168) rfl Tryz.ntmps168 Tryz.results168 (by unfold qv;rw [Tryz.func168];kernel_rfl) (Nat.le_of_ble_eq_true (by kernel_rfl)) (c0:=0) (Eq.mp (F168_eq g K X) h))
def H169:List (Nat×Hint):=[]
def J169:List (Nat×Hint):=[]
abbrev S169:List Sh:=[.leaf]
abbrev L169:List Lf:=[.el .chg]
def F169 (g:prodL L169) (K:Kn):Prop:=
 wO.pre (g.1.over,())/\
 K (.sl true .sexp [(⟨(qp g.1.over).isList,(qp g.1.over).atom,(qp g.1.over).list⟩:Sx)]) []
theorem F169_eq (g:prodL L169) (K X:Kn):F169 g K=qJ D (qk [] [(163,false,wO)]) (qx []) H169 J169 7 [.tmp 2] (qz Tryz.f169) (argsT S169 L169 g) [] (settle0 K) X:=by kernel_rfl
theorem F169_ok (g:prodL L169) (K X:Kn) (h:F169 g K):FCalls Tryz.prog 169 (argsT S169 L169 g) [] K X:=
 FCalls.settle0 (qq (Γ:=qk [] [(163,false,wO)]) (mu:=qx []) (H:=H169) (J:=J169) qY (qV (rs:=[]) (l:=[(163,false,wO)]) (fun p hp=>by cases hp) (by intro p hp;simp only [List.mem_cons,List.not_mem_nil,or_false] at hp;subst hp;exact yO)) qj rfl Tryz.func169 (c:=qz Tryz.f169) rfl Tryz.ntmps169 Tryz.results169 (by unfold qv;rw [Tryz.func169];kernel_rfl) (Nat.le_of_ble_eq_true (by kernel_rfl)) (c0:=0) (Eq.mp (F169_eq g K X) h))
def H75k1:List (Nat×Hint):=[]
def J75k1:List (Nat×Hint):=[(25,⟨[((2,[]),none)],[(2, .pt 0 0),(3, .leaf)],[.cells [.leaf, .leaf, .nil]],[.sl .sexp, .bool, .str]⟩)]
abbrev S75k1:List Sh:=[.leaf]
abbrev XV:List Lf:=[.el .chg]
def kv75k1 (g:prodL XV):prodL XV:=(⟨1,g.1.file,g.1.typ,g.1.parent,g.1.name,g.1.mode,g.1.data,g.1.after,g.1.before,g.1.lines,g.1.over⟩,g.2)
def F75k1_J2 (K:Kn) (out_1:List Sx) (t1_1:Bool) (t2_1:ByteArray):Prop:=
 True/\
 K (.ag [.bool true, .str (⟨#[]⟩:ByteArray), .sl false .sexp out_1]) []
def F75k1 (g:prodL XV) (K:Kn):Prop:=
 xY.pre (1,())/\
 xY.pre (g.1.typ,())/\
 jz (0< [(⟨(qW g.1.typ).isList,(qW g.1.typ).atom,(qW g.1.typ).list⟩:Sx)].length) (ql ([(⟨(qW 1).isList,(qW 1).atom,(qW 1).list⟩:Sx)].length+[(⟨(qW g.1.typ).isList,(qW g.1.typ).atom,(qW g.1.typ).list⟩:Sx)].length) 48 (
 F75k1_J2 K ([(⟨(qW 1).isList,(qW 1).atom,(qW 1).list⟩:Sx)]++[(⟨(qW g.1.typ).isList,(qW g.1.typ).atom,(qW g.1.typ).list⟩:Sx)]) false (⟨#[]⟩:ByteArray)))
theorem F75k1_eq (g:prodL XV) (K X:Kn):F75k1 g K=qJ D (qk [] [(77,false,yG),(79,false,xY)]) (qx []) H75k1 J75k1 109 [.cell 2 85] (qz Tryz.f75) (argsT S75k1 XV (kv75k1 g)) [] (settle0 K) X:=by kernel_rfl
theorem F75k1_ok (g:prodL XV) (K X:Kn) (h:F75k1 g K):FCalls Tryz.prog 75 (argsT S75k1 XV (kv75k1 g)) [] K X:=
 FCalls.settle0 (qq (Γ:=qk [] [(77,false,yG),(79,false,xY)]) (mu:=qx []) (H:=H75k1) (J:=J75k1) qY (jq (zq xg (zq vk z8))) qj rfl Tryz.func75 (c:=qz Tryz.f75) rfl Tryz.ntmps75 Tryz.results75 (by unfold qv;rw [Tryz.func75];kernel_rfl) (Nat.le_of_ble_eq_true (by kernel_rfl)) (c0:=0) (Eq.mp (F75k1_eq g K X) h))
def H75k2:List (Nat×Hint):=[]
def J75k2:List (Nat×Hint):=[(25,⟨[((2,[]),none)],[(2, .pt 0 0),(3, .leaf)],[.cells [.leaf, .leaf, .nil]],[.sl .sexp, .bool, .str]⟩)]
abbrev S75k2:List Sh:=[.leaf]
abbrev WT:List Lf:=[.el .chg]
def kv75k2 (g:prodL WT):prodL WT:=(⟨2,g.1.file,g.1.typ,g.1.parent,g.1.name,g.1.mode,g.1.data,g.1.after,g.1.before,g.1.lines,g.1.over⟩,g.2)
def F75k2_J2 (K:Kn) (out_1:List Sx) (t1_1:Bool) (t2_1:ByteArray):Prop:=
 True/\
 K (.ag [.bool true, .str (⟨#[]⟩:ByteArray), .sl false .sexp out_1]) []
def F75k2 (g:prodL WT) (K:Kn):Prop:=
 xY.pre (2,())/\
 jX.pre (g.1.file,())/\
 jz (0< [(⟨(qi g.1.file).isList,(qi g.1.file).atom,(qi g.1.file).list⟩:Sx)].length) (ql ([(⟨(qW 2).isList,(qW 2).atom,(qW 2).list⟩:Sx)].length+[(⟨(qi g.1.file).isList,(qi g.1.file).atom,(qi g.1.file).list⟩:Sx)].length) 48 (
 jX.pre (g.1.parent,())/\
 True/\
 ql (([(⟨(qW 2).isList,(qW 2).atom,(qW 2).list⟩:Sx)]++[(⟨(qi g.1.file).isList,(qi g.1.file).atom,(qi g.1.file).list⟩:Sx)]).length+[(⟨(qi g.1.parent).isList,(qi g.1.parent).atom,(qi g.1.parent).list⟩:Sx),(⟨false,g.1.name,[]⟩:Sx)].length) 48 (
 xO.pre (g.1.over,())/\
 ql ((([(⟨(qW 2).isList,(qW 2).atom,(qW 2).list⟩:Sx)]++[(⟨(qi g.1.file).isList,(qi g.1.file).atom,(qi g.1.file).list⟩:Sx)])++[(⟨(qi g.1.parent).isList,(qi g.1.parent).atom,(qi g.1.parent).list⟩:Sx),(⟨false,g.1.name,[]⟩:Sx)]).length+[(⟨(qp g.1.over).isList,(qp g.1.over).atom,(qp g.1.over).list⟩:Sx)].length) 48 (
 F75k2_J2 K ((([(⟨(qW 2).isList,(qW 2).atom,(qW 2).list⟩:Sx)]++[(⟨(qi g.1.file).isList,(qi g.1.file).atom,(qi g.1.file).list⟩:Sx)])++[(⟨(qi g.1.parent).isList,(qi g.1.parent).atom,(qi g.1.parent).list⟩:Sx),(⟨false,g.1.name,[]⟩:Sx)])++[(⟨(qp g.1.over).isList,(qp g.1.over).atom,(qp g.1.over).list⟩:Sx)]) false (⟨#[]⟩:ByteArray)))))
theorem F75k2_eq (g:prodL WT) (K X:Kn):F75k2 g K=qJ D (qk [] [(77,false,yG),(78,false,qqE),(79,false,xY),(129,false,jX),(130,false,xO)]) (qx []) H75k2 J75k2 109 [.cell 2 85] (qz Tryz.f75) (argsT S75k2 WT (kv75k2 g)) [] (settle0 K) X:=by kernel_rfl
theorem F75k2_ok (g:prodL WT) (K X:Kn) (h:F75k2 g K):FCalls Tryz.prog 75 (argsT S75k2 WT (kv75k2 g)) [] K X:=
 FCalls.settle0 (qq (Γ:=qk [] [(77,false,yG),(78,false,qqE),(79,false,xY),(129,false,jX),(130,false,xO)]) (mu:=qx []) (H:=H75k2) (J:=J75k2) qY (jq (zq xg (zq Z6 (zq vk (zq wT (zq kr z8)))))) qj rfl Tryz.func75 (c:=qz Tryz.f75) rfl Tryz.ntmps75 Tryz.results75 (by unfold qv;rw [Tryz.func75];kernel_rfl) (Nat.le_of_ble_eq_true (by kernel_rfl)) (c0:=0) (Eq.mp (F75k2_eq g K X) h))
def H75k3:List (Nat×Hint):=[]
def J75k3:List (Nat×Hint):=[(25,⟨[((2,[]),none)],[(2, .pt 0 0),(3, .leaf)],[.cells [.leaf, .leaf, .nil]],[.sl .sexp, .bool, .str]⟩)]
abbrev S75k3:List Sh:=[.leaf]
abbrev Vd:List Lf:=[.el .chg]
def kv75k3 (g:prodL Vd):prodL Vd:=(⟨3,g.1.file,g.1.typ,g.1.parent,g.1.name,g.1.mode,g.1.data,g.1.after,g.1.before,g.1.lines,g.1.over⟩,g.2)
def F75k3_J2 (K:Kn) (out_1:List Sx) (t1_1:Bool) (t2_1:ByteArray):Prop:=
 True/\
 K (.ag [.bool true, .str (⟨#[]⟩:ByteArray), .sl false .sexp out_1]) []
def F75k3 (g:prodL Vd) (K:Kn):Prop:=
 xY.pre (3,())/\
 jX.pre (g.1.file,())/\
 jz (0< [(⟨(qi g.1.file).isList,(qi g.1.file).atom,(qi g.1.file).list⟩:Sx)].length) (ql ([(⟨(qW 3).isList,(qW 3).atom,(qW 3).list⟩:Sx)].length+[(⟨(qi g.1.file).isList,(qi g.1.file).atom,(qi g.1.file).list⟩:Sx)].length) 48 (
 xY.pre (g.1.mode,())/\
 ql (([(⟨(qW 3).isList,(qW 3).atom,(qW 3).list⟩:Sx)]++[(⟨(qi g.1.file).isList,(qi g.1.file).atom,(qi g.1.file).list⟩:Sx)]).length+[(⟨(qW g.1.mode).isList,(qW g.1.mode).atom,(qW g.1.mode).list⟩:Sx)].length) 48 (
 xO.pre (g.1.over,())/\
 ql ((([(⟨(qW 3).isList,(qW 3).atom,(qW 3).list⟩:Sx)]++[(⟨(qi g.1.file).isList,(qi g.1.file).atom,(qi g.1.file).list⟩:Sx)])++[(⟨(qW g.1.mode).isList,(qW g.1.mode).atom,(qW g.1.mode).list⟩:Sx)]).length+[(⟨(qp g.1.over).isList,(qp g.1.over).atom,(qp g.1.over).list⟩:Sx)].length) 48 (
 F75k3_J2 K ((([(⟨(qW 3).isList,(qW 3).atom,(qW 3).list⟩:Sx)]++[(⟨(qi g.1.file).isList,(qi g.1.file).atom,(qi g.1.file).list⟩:Sx)])++[(⟨(qW g.1.mode).isList,(qW g.1.mode).atom,(qW g.1.mode).list⟩:Sx)])++[(⟨(qp g.1.over).isList,(qp g.1.over).atom,(qp g.1.over).list⟩:Sx)]) false (⟨#[]⟩:ByteArray)))))
theorem F75k3_eq (g:prodL Vd) (K X:Kn):F75k3 g K=qJ D (qk [] [(77,false,yG),(79,false,xY),(129,false,jX),(130,false,xO)]) (qx []) H75k3 J75k3 109 [.cell 2 85] (qz Tryz.f75) (argsT S75k3 Vd (kv75k3 g)) [] (settle0 K) X:=by kernel_rfl
theorem F75k3_ok (g:prodL Vd) (K X:Kn) (h:F75k3 g K):FCalls Tryz.prog 75 (argsT S75k3 Vd (kv75k3 g)) [] K X:=
 FCalls.settle0 (qq (Γ:=qk [] [(77,false,yG),(79,false,xY),(129,false,jX),(130,false,xO)]) (mu:=qx []) (H:=H75k3) (J:=J75k3) qY (jq (zq xg (zq vk (zq wT (zq kr z8))))) qj rfl Tryz.func75 (c:=qz Tryz.f75) rfl Tryz.ntmps75 Tryz.results75 (by unfold qv;rw [Tryz.func75];kernel_rfl) (Nat.le_of_ble_eq_true (by kernel_rfl)) (c0:=0) (Eq.mp (F75k3_eq g K X) h))
def H75k4:List (Nat×Hint):=[]
def J75k4:List (Nat×Hint):=[(25,⟨[((2,[]),none)],[(2, .pt 0 0),(3, .leaf)],[.cells [.leaf, .leaf, .nil]],[.sl .sexp, .bool, .str]⟩)]
abbrev S75k4:List Sh:=[.leaf]
abbrev W0:List Lf:=[.el .chg]
def kv75k4 (g:prodL W0):prodL W0:=(⟨4,g.1.file,g.1.typ,g.1.parent,g.1.name,g.1.mode,g.1.data,g.1.after,g.1.before,g.1.lines,g.1.over⟩,g.2)
def F75k4_J2 (K:Kn) (out_1:List Sx) (t1_1:Bool) (t2_1:ByteArray):Prop:=
 True/\
 K (.ag [.bool true, .str (⟨#[]⟩:ByteArray), .sl false .sexp out_1]) []
def F75k4 (g:prodL W0) (K:Kn):Prop:=
 xY.pre (4,())/\
 jX.pre (g.1.file,())/\
 jz (0< [(⟨(qi g.1.file).isList,(qi g.1.file).atom,(qi g.1.file).list⟩:Sx)].length) (ql ([(⟨(qW 4).isList,(qW 4).atom,(qW 4).list⟩:Sx)].length+[(⟨(qi g.1.file).isList,(qi g.1.file).atom,(qi g.1.file).list⟩:Sx)].length) 48 (
 True/\
 ql (([(⟨(qW 4).isList,(qW 4).atom,(qW 4).list⟩:Sx)]++[(⟨(qi g.1.file).isList,(qi g.1.file).atom,(qi g.1.file).list⟩:Sx)]).length+[(⟨false,g.1.data,[]⟩:Sx)].length) 48 (
 xO.pre (g.1.over,())/\
 ql ((([(⟨(qW 4).isList,(qW 4).atom,(qW 4).list⟩:Sx)]++[(⟨(qi g.1.file).isList,(qi g.1.file).atom,(qi g.1.file).list⟩:Sx)])++[(⟨false,g.1.data,[]⟩:Sx)]).length+[(⟨(qp g.1.over).isList,(qp g.1.over).atom,(qp g.1.over).list⟩:Sx)].length) 48 (
 F75k4_J2 K ((([(⟨(qW 4).isList,(qW 4).atom,(qW 4).list⟩:Sx)]++[(⟨(qi g.1.file).isList,(qi g.1.file).atom,(qi g.1.file).list⟩:Sx)])++[(⟨false,g.1.data,[]⟩:Sx)])++[(⟨(qp g.1.over).isList,(qp g.1.over).atom,(qp g.1.over).list⟩:Sx)]) false (⟨#[]⟩:ByteArray)))))
theorem F75k4_eq (g:prodL W0) (K X:Kn):F75k4 g K=qJ D (qk [] [(77,false,yG),(78,false,qqE),(79,false,xY),(129,false,jX),(130,false,xO)]) (qx []) H75k4 J75k4 109 [.cell 2 85] (qz Tryz.f75) (argsT S75k4 W0 (kv75k4 g)) [] (settle0 K) X:=by kernel_rfl
theorem F75k4_ok (g:prodL W0) (K X:Kn) (h:F75k4 g K):FCalls Tryz.prog 75 (argsT S75k4 W0 (kv75k4 g)) [] K X:=
 FCalls.settle0 (qq (Γ:=qk [] [(77,false,yG),(78,false,qqE),(79,false,xY),(129,false,jX),(130,false,xO)]) (mu:=qx []) (H:=H75k4) (J:=J75k4) qY (jq (zq xg (zq Z6 (zq vk (zq wT (zq kr z8)))))) qj rfl Tryz.func75 (c:=qz Tryz.f75) rfl Tryz.ntmps75 Tryz.results75 (by unfold qv;rw [Tryz.func75];kernel_rfl) (Nat.le_of_ble_eq_true (by kernel_rfl)) (c0:=0) (Eq.mp (F75k4_eq g K X) h))
def H75k5:List (Nat×Hint):=[(19,⟨[((1,[]),none),((2,[]),none),((3,[]),none),((4,[]),some .sexp)],[(1, .pt 0 0),(2, .pt 1 0),(3, .oa .sexp 2),(4, .oa .sexp 3),(5, .leaf)],[.el, .cells [.leaf, .leaf, .nil], .arr .sexp, .arr .sexp],[.int .i64, .el .chg, .bool, .str, .sl .sexp, .sl .sexp]⟩)]
def J75k5:List (Nat×Hint):=[(22,⟨[((2,[]),none),((3,[]),none)],[(2, .pt 0 0),(3, .oa .sexp 1),(4, .leaf)],[.cells [.leaf, .leaf, .nil], .arr .sexp],[.sl .sexp, .bool, .str, .sl .sexp]⟩),(25,⟨[((2,[]),none)],[(2, .pt 0 0),(3, .leaf)],[.cells [.leaf, .leaf, .nil]],[.sl .sexp, .bool, .str]⟩)]
abbrev S75k5:List Sh:=[.leaf]
abbrev VR:List Lf:=[.el .chg]
def Wy (g:prodL VR):prodL VR:=(⟨5,g.1.file,g.1.typ,g.1.parent,g.1.name,g.1.mode,g.1.data,g.1.after,g.1.before,g.1.lines,g.1.over⟩,g.2)
def F75k5_J10 (K:Kn) (out_9:List Sx) (t1_9:Bool) (t2_9:ByteArray):Prop:=
 True/\
 K (.ag [.bool true, .str (⟨#[]⟩:ByteArray), .sl false .sexp out_9]) []
def F75k5_J8 (K:Kn) (l_7:List Sx) (t1_7:Bool) (t2_7:ByteArray) (out_7:List Sx):Prop:=
 True/\
 ql (out_7.length+[(⟨true,(⟨#[]⟩:ByteArray),l_7⟩:Sx)].length) 48 (
 F75k5_J10 K (out_7++[(⟨true,(⟨#[]⟩:ByteArray),l_7⟩:Sx)]) t1_7 t2_7)
def kz (K:Kn) (W5:prodL [.int .i64, .el .chg, .bool, .str, .sl .sexp, .sl .sexp]->Prop) (i_4:Int) (c_4:Chg) (t1_4:Bool) (t2_4:ByteArray) (out_4:List Sx) (l_4:List Sx):Prop:=
 bif decide (i_4< (c_4.lines.length:Int))then (
  At c_4.lines i_4 fun u6=>
 True/\
 ql (l_4.length+[(⟨false,u6,[]⟩:Sx)].length) 48 (
 W5 (IntKind.i64.wrap (i_4+1),c_4,t1_4,t2_4,out_4,l_4++[(⟨false,u6,[]⟩:Sx)],())))
 else (
  F75k5_J8 K l_4 t1_4 t2_4 out_4)
def F75k5_L5 (K:Kn) (g:prodL [.int .i64, .el .chg, .bool, .str, .sl .sexp, .sl .sexp]):Prop:=
 qQ (γ:=prodL [.int .i64, .el .chg, .bool, .str, .sl .sexp, .sl .sexp]) (fun V y=>kz K V y.1 y.2.1 y.2.2.1 y.2.2.2.1 y.2.2.2.2.1 y.2.2.2.2.2.1) g
def F75k5 (g:prodL VR) (K:Kn):Prop:=
 xY.pre (5,())/\
 jX.pre (g.1.file,())/\
 jz (0< [(⟨(qi g.1.file).isList,(qi g.1.file).atom,(qi g.1.file).list⟩:Sx)].length) (ql ([(⟨(qW 5).isList,(qW 5).atom,(qW 5).list⟩:Sx)].length+[(⟨(qi g.1.file).isList,(qi g.1.file).atom,(qi g.1.file).list⟩:Sx)].length) 48 (
 jX.pre (g.1.after,())/\
 jX.pre (g.1.before,())/\
 ql (([(⟨(qW 5).isList,(qW 5).atom,(qW 5).list⟩:Sx)]++[(⟨(qi g.1.file).isList,(qi g.1.file).atom,(qi g.1.file).list⟩:Sx)]).length+[(⟨(qi g.1.after).isList,(qi g.1.after).atom,(qi g.1.after).list⟩:Sx),(⟨(qi g.1.before).isList,(qi g.1.before).atom,(qi g.1.before).list⟩:Sx)].length) 48 (
 F75k5_L5 K (0,(⟨5,g.1.file,g.1.typ,g.1.parent,g.1.name,g.1.mode,g.1.data,g.1.after,g.1.before,g.1.lines,g.1.over⟩:Chg),false,(⟨#[]⟩:ByteArray),([(⟨(qW 5).isList,(qW 5).atom,(qW 5).list⟩:Sx)]++[(⟨(qi g.1.file).isList,(qi g.1.file).atom,(qi g.1.file).list⟩:Sx)])++[(⟨(qi g.1.after).isList,(qi g.1.after).atom,(qi g.1.after).list⟩:Sx),(⟨(qi g.1.before).isList,(qi g.1.before).atom,(qi g.1.before).list⟩:Sx)],[],()))))
theorem F75k5_eq (g:prodL VR) (K X:Kn):F75k5 g K=qJ D (qk [] [(77,false,yG),(78,false,qqE),(79,false,xY),(129,false,jX)]) (qx []) H75k5 J75k5 109 [.cell 2 85] (qz Tryz.f75) (argsT S75k5 VR (Wy g)) [] (settle0 K) X:=by kernel_rfl
theorem F75k5_ok (g:prodL VR) (K X:Kn) (h:F75k5 g K):FCalls Tryz.prog 75 (argsT S75k5 VR (Wy g)) [] K X:=
 FCalls.settle0 (qq (Γ:=qk [] [(77,false,yG),(78,false,qqE),(79,false,xY),(129,false,jX)]) (mu:=qx []) (H:=H75k5) (J:=J75k5) qY (jq (zq xg (zq Z6 (zq vk (zq wT z8))))) qj rfl Tryz.func75 (c:=qz Tryz.f75) rfl Tryz.ntmps75 Tryz.results75 (by unfold qv;rw [Tryz.func75];kernel_rfl) (Nat.le_of_ble_eq_true (by kernel_rfl)) (c0:=0) (Eq.mp (F75k5_eq g K X) h))
def H75k6:List (Nat×Hint):=[]
def J75k6:List (Nat×Hint):=[(25,⟨[((2,[]),none)],[(2, .pt 0 0),(3, .leaf)],[.cells [.leaf, .leaf, .nil]],[.sl .sexp, .bool, .str]⟩)]
abbrev S75k6:List Sh:=[.leaf]
abbrev Wl:List Lf:=[.el .chg]
def kv75k6 (g:prodL Wl):prodL Wl:=(⟨6,g.1.file,g.1.typ,g.1.parent,g.1.name,g.1.mode,g.1.data,g.1.after,g.1.before,g.1.lines,g.1.over⟩,g.2)
def F75k6_J2 (K:Kn) (out_1:List Sx) (t1_1:Bool) (t2_1:ByteArray):Prop:=
 True/\
 K (.ag [.bool true, .str (⟨#[]⟩:ByteArray), .sl false .sexp out_1]) []
def F75k6 (g:prodL Wl) (K:Kn):Prop:=
 xY.pre (6,())/\
 jX.pre (g.1.file,())/\
 jz (0< [(⟨(qi g.1.file).isList,(qi g.1.file).atom,(qi g.1.file).list⟩:Sx)].length) (ql ([(⟨(qW 6).isList,(qW 6).atom,(qW 6).list⟩:Sx)].length+[(⟨(qi g.1.file).isList,(qi g.1.file).atom,(qi g.1.file).list⟩:Sx)].length) 48 (
 jX.pre (g.1.after,())/\
 jX.pre (g.1.before,())/\
 ql (([(⟨(qW 6).isList,(qW 6).atom,(qW 6).list⟩:Sx)]++[(⟨(qi g.1.file).isList,(qi g.1.file).atom,(qi g.1.file).list⟩:Sx)]).length+[(⟨(qi g.1.after).isList,(qi g.1.after).atom,(qi g.1.after).list⟩:Sx),(⟨(qi g.1.before).isList,(qi g.1.before).atom,(qi g.1.before).list⟩:Sx)].length) 48 (
 xO.pre (g.1.over,())/\
 ql ((([(⟨(qW 6).isList,(qW 6).atom,(qW 6).list⟩:Sx)]++[(⟨(qi g.1.file).isList,(qi g.1.file).atom,(qi g.1.file).list⟩:Sx)])++[(⟨(qi g.1.after).isList,(qi g.1.after).atom,(qi g.1.after).list⟩:Sx),(⟨(qi g.1.before).isList,(qi g.1.before).atom,(qi g.1.before).list⟩:Sx)]).length+[(⟨(qp g.1.over).isList,(qp g.1.over).atom,(qp g.1.over).list⟩:Sx)].length) 48 (
 F75k6_J2 K ((([(⟨(qW 6).isList,(qW 6).atom,(qW 6).list⟩:Sx)]++[(⟨(qi g.1.file).isList,(qi g.1.file).atom,(qi g.1.file).list⟩:Sx)])++[(⟨(qi g.1.after).isList,(qi g.1.after).atom,(qi g.1.after).list⟩:Sx),(⟨(qi g.1.before).isList,(qi g.1.before).atom,(qi g.1.before).list⟩:Sx)])++[(⟨(qp g.1.over).isList,(qp g.1.over).atom,(qp g.1.over).list⟩:Sx)]) false (⟨#[]⟩:ByteArray)))))
theorem F75k6_eq (g:prodL Wl) (K X:Kn):F75k6 g K=qJ D (qk [] [(77,false,yG),(79,false,xY),(129,false,jX),(130,false,xO)]) (qx []) H75k6 J75k6 109 [.cell 2 85] (qz Tryz.f75) (argsT S75k6 Wl (kv75k6 g)) [] (settle0 K) X:=by kernel_rfl
theorem F75k6_ok (g:prodL Wl) (K X:Kn) (h:F75k6 g K):FCalls Tryz.prog 75 (argsT S75k6 Wl (kv75k6 g)) [] K X:=
 FCalls.settle0 (qq (Γ:=qk [] [(77,false,yG),(79,false,xY),(129,false,jX),(130,false,xO)]) (mu:=qx []) (H:=H75k6) (J:=J75k6) qY (jq (zq xg (zq vk (zq wT (zq kr z8))))) qj rfl Tryz.func75 (c:=qz Tryz.f75) rfl Tryz.ntmps75 Tryz.results75 (by unfold qv;rw [Tryz.func75];kernel_rfl) (Nat.le_of_ble_eq_true (by kernel_rfl)) (c0:=0) (Eq.mp (F75k6_eq g K X) h))
def H75k7:List (Nat×Hint):=[]
def J75k7:List (Nat×Hint):=[(25,⟨[((2,[]),none)],[(2, .pt 0 0),(3, .leaf)],[.cells [.leaf, .leaf, .nil]],[.sl .sexp, .bool, .str]⟩)]
abbrev S75k7:List Sh:=[.leaf]
abbrev Wi:List Lf:=[.el .chg]
def kv75k7 (g:prodL Wi):prodL Wi:=(⟨7,g.1.file,g.1.typ,g.1.parent,g.1.name,g.1.mode,g.1.data,g.1.after,g.1.before,g.1.lines,g.1.over⟩,g.2)
def F75k7_J2 (K:Kn) (out_1:List Sx) (t1_1:Bool) (t2_1:ByteArray):Prop:=
 True/\
 K (.ag [.bool true, .str (⟨#[]⟩:ByteArray), .sl false .sexp out_1]) []
def F75k7 (g:prodL Wi) (K:Kn):Prop:=
 xY.pre (7,())/\
 xO.pre (g.1.over,())/\
 jz (0< [(⟨(qp g.1.over).isList,(qp g.1.over).atom,(qp g.1.over).list⟩:Sx)].length) (ql ([(⟨(qW 7).isList,(qW 7).atom,(qW 7).list⟩:Sx)].length+[(⟨(qp g.1.over).isList,(qp g.1.over).atom,(qp g.1.over).list⟩:Sx)].length) 48 (
 F75k7_J2 K ([(⟨(qW 7).isList,(qW 7).atom,(qW 7).list⟩:Sx)]++[(⟨(qp g.1.over).isList,(qp g.1.over).atom,(qp g.1.over).list⟩:Sx)]) false (⟨#[]⟩:ByteArray)))
theorem F75k7_eq (g:prodL Wi) (K X:Kn):F75k7 g K=qJ D (qk [] [(77,false,yG),(79,false,xY),(130,false,xO)]) (qx []) H75k7 J75k7 109 [.cell 2 85] (qz Tryz.f75) (argsT S75k7 Wi (kv75k7 g)) [] (settle0 K) X:=by kernel_rfl
theorem F75k7_ok (g:prodL Wi) (K X:Kn) (h:F75k7 g K):FCalls Tryz.prog 75 (argsT S75k7 Wi (kv75k7 g)) [] K X:=
 FCalls.settle0 (qq (Γ:=qk [] [(77,false,yG),(79,false,xY),(130,false,xO)]) (mu:=qx []) (H:=H75k7) (J:=J75k7) qY (jq (zq xg (zq vk (zq kr z8)))) qj rfl Tryz.func75 (c:=qz Tryz.f75) rfl Tryz.ntmps75 Tryz.results75 (by unfold qv;rw [Tryz.func75];kernel_rfl) (Nat.le_of_ble_eq_true (by kernel_rfl)) (c0:=0) (Eq.mp (F75k7_eq g K X) h))
end Go.Proofs.YtbglndogddddoaaGreatDoor
namespace Go.Proofs.YtbglndogddddoaaGreatDoor
open Go.RowKit
set_option maxRecDepth 100000
def sp160:Sp:=⟨S160,L160,fun g=>wl g.1/\chW g.1,fun g=> .sl false .sexp (zH 1 g.1),fun _=>none⟩
theorem sp160_ok:sp160.Ok Tryz.prog 160 false:=
 ⟨fun g K X hp h=>FCalls.weak (F160_ok g (xw K) X (by obtain ⟨hp,w1,w2,w3,w4,w5,w6,w7⟩:=hp;unfold F160;simp only [zi];exact ⟨w1,xw.sl h⟩)),fun _ _ _=>rfl,fun _=>rfl,fun h=>(by cases h)⟩
def Kl:Sp:=⟨S161,L161,fun g=>wl g.1/\chW g.1,fun g=> .sl false .sexp (zH 2 g.1),fun _=>none⟩
theorem sp161_ok:Kl.Ok Tryz.prog 161 false:=
 ⟨fun g K X hp h=>FCalls.weak (F161_ok g (xw K) X (by have ho:=QD hp.1 hp.2;obtain ⟨hp,w1,w2,w3,w4,w5,w6,w7⟩:=hp;unfold F161;simp only [zi];exact ⟨w3,w4,trivial,ho,xw.sl h⟩)),fun _ _ _=>rfl,fun _=>rfl,fun h=>(by cases h)⟩
def KX:Sp:=⟨S164,L164,fun g=>wl g.1/\chW g.1,fun g=> .sl false .sexp (zH 3 g.1),fun _=>none⟩
theorem sp164_ok:KX.Ok Tryz.prog 164 false:=
 ⟨fun g K X hp h=>FCalls.weak (F164_ok g (xw K) X (by have ho:=QD hp.1 hp.2;obtain ⟨hp,w1,w2,w3,w4,w5,w6,w7⟩:=hp;unfold F164;simp only [zi];exact ⟨w3,w2,ho,xw.sl h⟩)),fun _ _ _=>rfl,fun _=>rfl,fun h=>(by cases h)⟩
def KU:Sp:=⟨S165,L165,fun g=>wl g.1/\chW g.1,fun g=> .sl false .sexp (zH 4 g.1),fun _=>none⟩
theorem sp165_ok:KU.Ok Tryz.prog 165 false:=
 ⟨fun g K X hp h=>FCalls.weak (F165_ok g (xw K) X (by have ho:=QD hp.1 hp.2;obtain ⟨hp,w1,w2,w3,w4,w5,w6,w7⟩:=hp;unfold F165;simp only [zi];exact ⟨w3,trivial,ho,xw.sl h⟩)),fun _ _ _=>rfl,fun _=>rfl,fun h=>(by cases h)⟩
def Kq:Sp:=⟨S166,L166,fun g=>wl g.1/\chW g.1,fun g=> .sl false .sexp (zH 5 g.1),fun _=>none⟩
theorem sp166_ok:Kq.Ok Tryz.prog 166 false:=
 ⟨fun g K X hp h=>FCalls.weak (F166_ok g (xw K) X (by have hl:=(zV hp.1).2.2.1;obtain ⟨hp,w1,w2,w3,w4,w5,w6,w7⟩:=hp;unfold F166;simp only [zi];exact ⟨w3,w5,w6,hl,xw.sl h⟩)),fun _ _ _=>rfl,fun _=>rfl,fun h=>(by cases h)⟩
def Y3:Sp:=⟨S168,L168,fun g=>wl g.1/\chW g.1,fun g=> .sl false .sexp (zH 6 g.1),fun _=>none⟩
theorem sp168_ok:Y3.Ok Tryz.prog 168 false:=
 ⟨fun g K X hp h=>FCalls.weak (F168_ok g (xw K) X (by have ho:=QD hp.1 hp.2;obtain ⟨hp,w1,w2,w3,w4,w5,w6,w7⟩:=hp;unfold F168;simp only [zi];exact ⟨w3,w5,w6,ho,xw.sl h⟩)),fun _ _ _=>rfl,fun _=>rfl,fun h=>(by cases h)⟩
def KH:Sp:=⟨S169,L169,fun g=>wl g.1/\chW g.1,fun g=> .sl false .sexp (zH 7 g.1),fun _=>none⟩
theorem sp169_ok:KH.Ok Tryz.prog 169 false:=
 ⟨fun g K X hp h=>FCalls.weak (F169_ok g (xw K) X (by have ho:=QD hp.1 hp.2;unfold F169;simp only [zi];exact ⟨ho,xw.sl h⟩)),fun _ _ _=>rfl,fun _=>rfl,fun h=>(by cases h)⟩
theorem F75k5_is {c:Chg} {K:Kn} (hp:wl c) (hw:chW c) (h:K (.ag (enc .sexp (zy [qW 5,qi c.file,qi c.after,qi c.before,yw c.lines]))) []):F75k5 (c,()) K:=by
 have hl:=(zV hp).2.2.1
 obtain ⟨w1,w2,w3,w4,w5,w6,w7⟩:=hw
 unfold F75k5
 simp only [zi]
 refine ⟨⟨by decide,by decide⟩,w3,Nat.le_of_ble_eq_true rfl,Nat.le_of_ble_eq_true rfl,w5,w6,Nat.le_of_ble_eq_true rfl, ?_⟩
 unfold F75k5_L5
 refine qQ.map c.lines qD (fun n out=>(n,(Wy (c,())).1,false,⟨#[]⟩,[qW 5,qi c.file,qi c.after,qi c.before],out,())) (by omega) rfl (fun W n hn out ho hW=> ?_) fun W=> ?_
 . show kz K W n (Wy (c,())).1 false ⟨#[]⟩ [qW 5,qi c.file,qi c.after,qi c.before] out
   unfold kz
   show bif decide ((n:Int) < (c.lines.length:Int))then _ else _
   rw [qt hn,cond_true]
   exact qE hn ⟨trivial,by simp only [List.length_singleton,ho];omega,hW⟩
 . show kz K W c.lines.length (Wy (c,())).1 false ⟨#[]⟩ [qW 5,qi c.file,qi c.after,qi c.before] (c.lines.map qD)
   unfold kz
   show bif decide ((c.lines.length:Int) < (c.lines.length:Int))then _ else _
   rw [qm,cond_false]
   exact ⟨trivial,Nat.le_of_ble_eq_true rfl,trivial,h⟩
def sp75:Sp:=⟨S75k1,XV,fun g=>wl g.1/\chW g.1/\jk g.1,fun g=> .ag (enc .sexp (chX g.1)),fun _=>none⟩
theorem sp75_ok:sp75.Ok Tryz.prog 75 false:=
 ⟨fun g K X hp h=>by
  obtain ⟨⟨kind,file,typ,parent,name,mode,data,after,before,lines,over⟩,⟨⟩⟩:=g
  obtain ⟨hp,hw,hk⟩:=hp
  have ho:=QD hp hw
  have hw':=hw
  obtain ⟨w1,w2,w3,w4,w5,w6,w7⟩:=hw'
  have hk1:(1:Int)<=kind/\kind<=7:=hk
  have:kind=1∨kind=2∨kind=3∨kind=4∨kind=5∨kind=6∨kind=7:=by omega
  rcases this with rfl | rfl | rfl | rfl | rfl | rfl | rfl
  . refine F75k1_ok (⟨1,file,typ,parent,name,mode,data,after,before,lines,over⟩,()) K X ?_
    unfold F75k1;simp only [zi]
    exact ⟨⟨by decide,by decide⟩,w1,Nat.le_of_ble_eq_true rfl,Nat.le_of_ble_eq_true rfl,trivial,h⟩
  . refine F75k2_ok (⟨2,file,typ,parent,name,mode,data,after,before,lines,over⟩,()) K X ?_
    unfold F75k2;simp only [zi]
    exact ⟨⟨by decide,by decide⟩,w3,Nat.le_of_ble_eq_true rfl,Nat.le_of_ble_eq_true rfl,w4,trivial,Nat.le_of_ble_eq_true rfl,ho,Nat.le_of_ble_eq_true rfl,trivial,h⟩
  . refine F75k3_ok (⟨3,file,typ,parent,name,mode,data,after,before,lines,over⟩,()) K X ?_
    unfold F75k3;simp only [zi]
    exact ⟨⟨by decide,by decide⟩,w3,Nat.le_of_ble_eq_true rfl,Nat.le_of_ble_eq_true rfl,w2,Nat.le_of_ble_eq_true rfl,ho,Nat.le_of_ble_eq_true rfl,trivial,h⟩
  . refine F75k4_ok (⟨4,file,typ,parent,name,mode,data,after,before,lines,over⟩,()) K X ?_
    unfold F75k4;simp only [zi]
    exact ⟨⟨by decide,by decide⟩,w3,Nat.le_of_ble_eq_true rfl,Nat.le_of_ble_eq_true rfl,trivial,Nat.le_of_ble_eq_true rfl,ho,Nat.le_of_ble_eq_true rfl,trivial,h⟩
  . exact F75k5_ok (⟨5,file,typ,parent,name,mode,data,after,before,lines,over⟩,()) K X (F75k5_is hp hw h)
  . refine F75k6_ok (⟨6,file,typ,parent,name,mode,data,after,before,lines,over⟩,()) K X ?_
    unfold F75k6;simp only [zi]
    exact ⟨⟨by decide,by decide⟩,w3,Nat.le_of_ble_eq_true rfl,Nat.le_of_ble_eq_true rfl,w5,w6,Nat.le_of_ble_eq_true rfl,ho,Nat.le_of_ble_eq_true rfl,trivial,h⟩
  . refine F75k7_ok (⟨7,file,typ,parent,name,mode,data,after,before,lines,over⟩,()) K X ?_
    unfold F75k7;simp only [zi]
    exact ⟨⟨by decide,by decide⟩,ho,Nat.le_of_ble_eq_true rfl,Nat.le_of_ble_eq_true rfl,trivial,h⟩,fun _ _ _=>rfl,fun _=>rfl,fun h=>(by cases h)⟩
end Go.Proofs.YtbglndogddddoaaGreatDoor
namespace Go.Proofs.YtbglndogddddoaaGreatDoor
open Go.RowKit
attribute [local irreducible] qJ qd
set_option maxRecDepth 100000
def H70:List (Nat×Hint):=[(3,⟨[((1,[]),none),((4,[]),none),((5,[]),none),((4,[2]),some .sexp)],[(1, .pt 0 0),(4, .pt 1 0),(5, .pt 2 0),(15, .leaf),(16, .leaf),(17, .leaf)],[.cells [.leaf, .leaf, .leaf, .leaf, .leaf], .cells [.leaf, .leaf, .oa .sexp 3], .cells [.leaf, .leaf, .nil], .arr .sexp],[.sl .dig, .int .i64, .int .i64, .str, .str, .int .i64, .sl .dig, .sl .chg, .bool, .str, .bool, .str, .sl .sexp]⟩),(9,⟨[((1,[]),none),((4,[]),none),((5,[]),none),((8,[]),none),((4,[2]),none),((5,[2]),some .sexp)],[(1, .pt 0 0),(4, .pt 1 0),(5, .pt 2 0),(8, .mp 3),(32, .leaf),(33, .leaf),(34, .leaf)],[.cells [.leaf, .leaf, .leaf, .leaf, .leaf], .cells [.leaf, .leaf, .oa .sexp 4], .cells [.leaf, .leaf, .oa .sexp 5], .cells [.fe [(1,160),(2,161),(3,164),(4,165),(5,166),(6,168),(7,169)]], .arr .sexp, .arr .sexp],[.sl .chg, .int .i64, .int .i64, .str, .str, .int .i64, .sl .dig, .sl .chg, .bool, .str, .bool, .str, .sl .sexp, .sl .sexp]⟩)]
def J70:List (Nat×Hint):=[(13,⟨[((1,[]),none),((4,[]),none),((5,[]),none),((8,[]),none),((11,[]),none),((4,[2]),none),((5,[2]),none)],[(1, .pt 0 0),(4, .pt 1 0),(5, .pt 2 0),(8, .mp 3),(11, .pt 4 0),(32, .leaf),(33, .leaf),(34, .leaf)],[.cells [.leaf, .leaf, .leaf, .leaf, .leaf], .cells [.leaf, .leaf, .oa .sexp 5], .cells [.leaf, .leaf, .oa .sexp 6], .cells [.fe [(1,160),(2,161),(3,164),(4,165),(5,166),(6,168),(7,169)]], .cells [.leaf, .leaf, .leaf], .arr .sexp, .arr .sexp],[.sl .chg, .int .i64, .int .i64, .str, .str, .int .i64, .sl .dig, .sl .chg, .bool, .str, .bool, .str, .bool, .str, .sl .sexp, .sl .sexp, .sl .sexp]⟩),(15,⟨[((1,[]),none),((4,[]),none),((5,[]),none)],[(1, .pt 0 0),(4, .pt 1 0),(5, .pt 2 0)],[.cells [.leaf, .leaf, .leaf, .leaf, .leaf], .cells [.leaf, .leaf, .leaf], .cells [.leaf, .leaf, .leaf]],[.str, .str, .int .i64, .sl .dig, .sl .chg, .bool, .str, .sl .sexp, .bool, .str, .sl .sexp]⟩)]
abbrev S70:List Sh:=[.ag [.leaf, .leaf, .leaf, .leaf, .leaf]]
abbrev L70:List Lf:=[.str, .str, .int .i64, .sl .dig, .sl .chg]
def F70_J23 (K:Kn) (p1_21 p2_21:ByteArray) (p3_21:Int) (p4_21:List Dig) (p5_21:List Chg) (deps1_21:Bool) (deps2_21:ByteArray) (deps3_21:List Sx) (changes1_21:Bool) (changes2_21:ByteArray) (changes3_21:List Sx):Prop:=
 True/\
 True/\
 True/\
 xC.pre (p3_21,())/\
 let g22:prodL [.sl .sexp]:=([(⟨false,(⟨#[113,117,105,108,116,49]⟩:ByteArray),[]⟩:Sx),(⟨false,p1_21,[]⟩:Sx),(⟨false,p2_21,[]⟩:Sx),(⟨(qW p3_21).isList,(qW p3_21).atom,(qW p3_21).list⟩:Sx),(⟨deps1_21,deps2_21,deps3_21⟩:Sx),(⟨changes1_21,changes2_21,changes3_21⟩:Sx)],());
 sp122.pre (true,(⟨#[]⟩:ByteArray),g22.1,())/\
 K (.tu [.str ((xi ⟨true,(⟨#[]⟩:ByteArray),g22.1⟩).1), .int .i64 ((xi ⟨true,(⟨#[]⟩:ByteArray),g22.1⟩).2)]) []
def zj (K:Kn) (W16:prodL [.sl .chg, .int .i64, .int .i64, .str, .str, .int .i64, .sl .dig, .sl .chg, .bool, .str, .bool, .str, .sl .sexp, .sl .sexp]->Prop) (t_19:List Chg) (t2_19 t3_19:Int) (p1_19 p2_19:ByteArray) (p3_19:Int) (p4_19:List Dig) (p5_19:List Chg) (deps1_19:Bool) (deps2_19:ByteArray) (changes1_19:Bool) (changes2_19:ByteArray) (x1_19:Bool) (x2_19:ByteArray) (x3_19:List Sx) (deps_19:List Sx) (changes_19:List Sx):Prop:=
 ql (changes_19.length+[(⟨x1_19,x2_19,x3_19⟩:Sx)].length) 48 (
 W16 (t_19,t2_19,IntKind.i64.wrap (t3_19+1),p1_19,p2_19,p3_19,p4_19,p5_19,deps1_19,deps2_19,changes1_19,changes2_19,deps_19,changes_19++[(⟨x1_19,x2_19,x3_19⟩:Sx)],()))
def Z0 (K:Kn) (W16:prodL [.sl .chg, .int .i64, .int .i64, .str, .str, .int .i64, .sl .dig, .sl .chg, .bool, .str, .bool, .str, .sl .sexp, .sl .sexp]->Prop) (t_15:List Chg) (t2_15 t3_15:Int) (p1_15 p2_15:ByteArray) (p3_15:Int) (p4_15:List Dig) (p5_15:List Chg) (deps1_15:Bool) (deps2_15:ByteArray) (changes1_15:Bool) (changes2_15:ByteArray) (deps_15:List Sx) (changes_15:List Sx):Prop:=
 bif decide (t3_15<t2_15)then (
  At t_15 t3_15 fun u17=>
 xC.pre (u17.kind,())/\
 let g18:prodL [.sl .sexp]:=([(⟨(qW u17.kind).isList,(qW u17.kind).atom,(qW u17.kind).list⟩:Sx)],());
 bif decide (u17.kind=1)then (
  sp160.pre (u17,())/\
  bif decide ((zH 1 u17).length=0)then (
   zj K W16 t_15 t2_15 t3_15 p1_15 p2_15 p3_15 p4_15 p5_15 deps1_15 deps2_15 changes1_15 changes2_15 true (⟨#[]⟩:ByteArray) g18.1 deps_15 changes_15)
  else (
   jz (0< (zH 1 u17).length) (ql (g18.1.length+(zH 1 u17).length) 48 (
   zj K W16 t_15 t2_15 t3_15 p1_15 p2_15 p3_15 p4_15 p5_15 deps1_15 deps2_15 changes1_15 changes2_15 true (⟨#[]⟩:ByteArray) (g18.1++(zH 1 u17)) deps_15 changes_15))))
 else (
  bif decide (u17.kind=2)then (
   Kl.pre (u17,())/\
   bif decide ((zH 2 u17).length=0)then (
    zj K W16 t_15 t2_15 t3_15 p1_15 p2_15 p3_15 p4_15 p5_15 deps1_15 deps2_15 changes1_15 changes2_15 true (⟨#[]⟩:ByteArray) g18.1 deps_15 changes_15)
   else (
    jz (0< (zH 2 u17).length) (ql (g18.1.length+(zH 2 u17).length) 48 (
    zj K W16 t_15 t2_15 t3_15 p1_15 p2_15 p3_15 p4_15 p5_15 deps1_15 deps2_15 changes1_15 changes2_15 true (⟨#[]⟩:ByteArray) (g18.1++(zH 2 u17)) deps_15 changes_15))))
  else (
   bif decide (u17.kind=3)then (
    KX.pre (u17,())/\
    bif decide ((zH 3 u17).length=0)then (
     zj K W16 t_15 t2_15 t3_15 p1_15 p2_15 p3_15 p4_15 p5_15 deps1_15 deps2_15 changes1_15 changes2_15 true (⟨#[]⟩:ByteArray) g18.1 deps_15 changes_15)
    else (
     jz (0< (zH 3 u17).length) (ql (g18.1.length+(zH 3 u17).length) 48 (
     zj K W16 t_15 t2_15 t3_15 p1_15 p2_15 p3_15 p4_15 p5_15 deps1_15 deps2_15 changes1_15 changes2_15 true (⟨#[]⟩:ByteArray) (g18.1++(zH 3 u17)) deps_15 changes_15))))
   else (
    bif decide (u17.kind=4)then (
     KU.pre (u17,())/\
     bif decide ((zH 4 u17).length=0)then (
      zj K W16 t_15 t2_15 t3_15 p1_15 p2_15 p3_15 p4_15 p5_15 deps1_15 deps2_15 changes1_15 changes2_15 true (⟨#[]⟩:ByteArray) g18.1 deps_15 changes_15)
     else (
      jz (0< (zH 4 u17).length) (ql (g18.1.length+(zH 4 u17).length) 48 (
      zj K W16 t_15 t2_15 t3_15 p1_15 p2_15 p3_15 p4_15 p5_15 deps1_15 deps2_15 changes1_15 changes2_15 true (⟨#[]⟩:ByteArray) (g18.1++(zH 4 u17)) deps_15 changes_15))))
    else (
     bif decide (u17.kind=5)then (
      Kq.pre (u17,())/\
      bif decide ((zH 5 u17).length=0)then (
       zj K W16 t_15 t2_15 t3_15 p1_15 p2_15 p3_15 p4_15 p5_15 deps1_15 deps2_15 changes1_15 changes2_15 true (⟨#[]⟩:ByteArray) g18.1 deps_15 changes_15)
      else (
       jz (0< (zH 5 u17).length) (ql (g18.1.length+(zH 5 u17).length) 48 (
       zj K W16 t_15 t2_15 t3_15 p1_15 p2_15 p3_15 p4_15 p5_15 deps1_15 deps2_15 changes1_15 changes2_15 true (⟨#[]⟩:ByteArray) (g18.1++(zH 5 u17)) deps_15 changes_15))))
     else (
      bif decide (u17.kind=6)then (
       Y3.pre (u17,())/\
       bif decide ((zH 6 u17).length=0)then (
        zj K W16 t_15 t2_15 t3_15 p1_15 p2_15 p3_15 p4_15 p5_15 deps1_15 deps2_15 changes1_15 changes2_15 true (⟨#[]⟩:ByteArray) g18.1 deps_15 changes_15)
       else (
        jz (0< (zH 6 u17).length) (ql (g18.1.length+(zH 6 u17).length) 48 (
        zj K W16 t_15 t2_15 t3_15 p1_15 p2_15 p3_15 p4_15 p5_15 deps1_15 deps2_15 changes1_15 changes2_15 true (⟨#[]⟩:ByteArray) (g18.1++(zH 6 u17)) deps_15 changes_15))))
      else (
       bif decide (u17.kind=7)then (
        KH.pre (u17,())/\
        bif decide ((zH 7 u17).length=0)then (
         zj K W16 t_15 t2_15 t3_15 p1_15 p2_15 p3_15 p4_15 p5_15 deps1_15 deps2_15 changes1_15 changes2_15 true (⟨#[]⟩:ByteArray) g18.1 deps_15 changes_15)
        else (
         jz (0< (zH 7 u17).length) (ql (g18.1.length+(zH 7 u17).length) 48 (
         zj K W16 t_15 t2_15 t3_15 p1_15 p2_15 p3_15 p4_15 p5_15 deps1_15 deps2_15 changes1_15 changes2_15 true (⟨#[]⟩:ByteArray) (g18.1++(zH 7 u17)) deps_15 changes_15))))
       else (
        False))))))))
 else (
  F70_J23 K p1_15 p2_15 p3_15 p4_15 p5_15 deps1_15 deps2_15 deps_15 changes1_15 changes2_15 changes_15)
def F70_L16 (K:Kn) (g:prodL [.sl .chg, .int .i64, .int .i64, .str, .str, .int .i64, .sl .dig, .sl .chg, .bool, .str, .bool, .str, .sl .sexp, .sl .sexp]):Prop:=
 qQ (γ:=prodL [.sl .chg, .int .i64, .int .i64, .str, .str, .int .i64, .sl .dig, .sl .chg, .bool, .str, .bool, .str, .sl .sexp, .sl .sexp]) (fun V y=>Z0 K V y.1 y.2.1 y.2.2.1 y.2.2.2.1 y.2.2.2.2.1 y.2.2.2.2.2.1 y.2.2.2.2.2.2.1 y.2.2.2.2.2.2.2.1 y.2.2.2.2.2.2.2.2.1 y.2.2.2.2.2.2.2.2.2.1 y.2.2.2.2.2.2.2.2.2.2.1 y.2.2.2.2.2.2.2.2.2.2.2.1 y.2.2.2.2.2.2.2.2.2.2.2.2.1 y.2.2.2.2.2.2.2.2.2.2.2.2.2.1) g
def W1 (K:Kn) (W7:prodL [.sl .dig, .int .i64, .int .i64, .str, .str, .int .i64, .sl .dig, .sl .chg, .bool, .str, .bool, .str, .sl .sexp]->Prop) (t_6:List Dig) (t2_6 t3_6:Int) (p1_6 p2_6:ByteArray) (p3_6:Int) (p4_6:List Dig) (p5_6:List Chg) (deps1_6:Bool) (deps2_6:ByteArray) (changes1_6:Bool) (changes2_6:ByteArray) (deps_6:List Sx):Prop:=
 bif decide (t3_6<t2_6)then (
  At t_6 t3_6 fun u8=>
 True/\
 ql (deps_6.length+[(⟨false,XG u8,[]⟩:Sx)].length) 48 (
 W7 (t_6,t2_6,IntKind.i64.wrap (t3_6+1),p1_6,p2_6,p3_6,p4_6,p5_6,deps1_6,deps2_6,changes1_6,changes2_6,deps_6++[(⟨false,XG u8,[]⟩:Sx)],())))
 else (
  True/\
 F70_L16 K (p5_6,(p5_6.length:Int),0,p1_6,p2_6,p3_6,p4_6,p5_6,deps1_6,deps2_6,changes1_6,changes2_6,deps_6,[],()))
def F70_L7 (K:Kn) (g:prodL [.sl .dig, .int .i64, .int .i64, .str, .str, .int .i64, .sl .dig, .sl .chg, .bool, .str, .bool, .str, .sl .sexp]):Prop:=
 qQ (γ:=prodL [.sl .dig, .int .i64, .int .i64, .str, .str, .int .i64, .sl .dig, .sl .chg, .bool, .str, .bool, .str, .sl .sexp]) (fun V y=>W1 K V y.1 y.2.1 y.2.2.1 y.2.2.2.1 y.2.2.2.2.1 y.2.2.2.2.2.1 y.2.2.2.2.2.2.1 y.2.2.2.2.2.2.2.1 y.2.2.2.2.2.2.2.2.1 y.2.2.2.2.2.2.2.2.2.1 y.2.2.2.2.2.2.2.2.2.2.1 y.2.2.2.2.2.2.2.2.2.2.2.1 y.2.2.2.2.2.2.2.2.2.2.2.2.1) g
def F70 (g:prodL L70) (K:Kn):Prop:=
 let g1:prodL []:=(());
 let g2:prodL []:=(());
 F70_L7 K (g.2.2.2.1,(g.2.2.2.1.length:Int),0,g.1,g.2.1,g.2.2.1,g.2.2.2.1,g.2.2.2.2.1,true,(⟨#[]⟩:ByteArray),true,(⟨#[]⟩:ByteArray),[],())
theorem F70_eq (g:prodL L70) (K X:Kn):F70 g K=qJ D (qk [(118,kd),(118,jo)] [(119,false,yC),(120,false,sp120),(121,false,xC),(122,true,sp122),(160,false,sp160),(161,false,Kl),(164,false,KX),(165,false,KU),(166,false,Kq),(168,false,Y3),(169,false,KH)]) (qx [(118,kd),(118,jo)]) H70 J70 77 [.tmp 2, .tmp 3] (qz Tryz.f70) (argsT S70 L70 g) [] (settle0 K) X:=by kernel_rfl
theorem F70_ok (g:prodL L70) (K X:Kn) (h:F70 g K):FCalls Tryz.prog 70 (argsT S70 L70 g) [] K X:=
 FCalls.settle0 (qq (Γ:=qk [(118,kd),(118,jo)] [(119,false,yC),(120,false,sp120),(121,false,xC),(122,true,sp122),(160,false,sp160),(161,false,Kl),(164,false,KX),(165,false,KU),(166,false,Kq),(168,false,Y3),(169,false,KH)]) (mu:=qx [(118,kd),(118,jo)]) (H:=H70) (J:=J70) qY (qV (rs:=[(118,kd),(118,jo)]) (l:=[(119,false,yC),(120,false,sp120),(121,false,xC),(122,true,sp122),(160,false,sp160),(161,false,Kl),(164,false,KX),(165,false,KU),(166,false,Kq),(168,false,Y3),(169,false,KH)]) (by intro p hp;simp only [List.mem_cons,List.not_mem_nil,or_false] at hp;rcases hp with rfl | rfl<;>first | exact rw118_ok | exact JM) (by intro p hp;simp only [List.mem_cons,List.not_mem_nil,or_false] at hp;rcases hp with rfl | rfl | rfl | rfl | rfl | rfl | rfl | rfl | rfl | rfl | rfl<;>first | exact yN | exact sp120_ok | exact JJ | exact sp122_ok | exact sp160_ok | exact sp161_ok | exact sp164_ok | exact sp165_ok | exact sp166_ok | exact sp168_ok | exact sp169_ok)) qj rfl Tryz.func70 (c:=qz Tryz.f70) rfl Tryz.ntmps70 Tryz.results70 (by unfold qv;rw [Tryz.func70];kernel_rfl) (Nat.le_of_ble_eq_true (by kernel_rfl)) (c0:=0) (Eq.mp (F70_eq g K X) h))
def H38:List (Nat×Hint):=[(3,⟨[((1,[]),none),((4,[]),some .sexp)],[(1, .pt 0 0),(4, .oa .sexp 1),(5, .nil),(6, .leaf)],[.cells [.leaf, .leaf, .leaf, .leaf, .leaf], .arr .sexp],[.int .i64, .str, .str, .int .i64, .sl .dig, .sl .chg, .sl .sexp]⟩),(7,⟨[((1,[]),none),((4,[]),none),((5,[]),some .sexp)],[(1, .pt 0 0),(4, .oa .sexp 1),(5, .oa .sexp 2),(7, .leaf)],[.cells [.leaf, .leaf, .leaf, .leaf, .leaf], .arr .sexp, .arr .sexp],[.int .i64, .str, .str, .int .i64, .sl .dig, .sl .chg, .sl .sexp, .sl .sexp]⟩)]
def J38:List (Nat×Hint):=[(10,⟨[((1,[]),none)],[(1, .pt 0 0),(4, .leaf),(5, .leaf)],[.cells [.leaf, .leaf, .leaf, .leaf, .leaf]],[.sl .sexp, .sl .sexp, .str, .str, .int .i64, .sl .dig, .sl .chg]⟩),(12,⟨[],[(8, .leaf),(70, .leaf)],[],[.str, .bool]⟩)]
abbrev S38:List Sh:=[.ag [.leaf, .leaf, .leaf, .leaf, .leaf]]
abbrev L38:List Lf:=[.str, .str, .int .i64, .sl .dig, .sl .chg]
def ZN (K:Kn) (s_14:ByteArray) (t_14:Bool):Prop:=
 bif t_14 then (
  K (.tu [.str (⟨#[]⟩:ByteArray), .int .i64 4]) [])
 else (
  K (.tu [.str s_14, .int .i64 0]) [])
def F38_J16 (K:Kn) (l_13:List Sx) (m_13:List Sx) (p1_13 p2_13:ByteArray) (p3_13:Int) (p4_13:List Dig) (p5_13:List Chg):Prop:=
 True/\
 True/\
 True/\
 xY.pre (p3_13,())/\
 True/\
 True/\
 True/\
 sp76.pre (true,(⟨#[]⟩:ByteArray),[(⟨false,(⟨#[113,117,105,108,116,49]⟩:ByteArray),[]⟩:Sx),(⟨false,p1_13,[]⟩:Sx),(⟨false,p2_13,[]⟩:Sx),(⟨(qW p3_13).isList,(qW p3_13).atom,(qW p3_13).list⟩:Sx),(⟨true,(⟨#[]⟩:ByteArray),l_13⟩:Sx),(⟨true,(⟨#[]⟩:ByteArray),m_13⟩:Sx)],())/\
 bif !decide ((xi ⟨true,(⟨#[]⟩:ByteArray),[(⟨false,(⟨#[113,117,105,108,116,49]⟩:ByteArray),[]⟩:Sx),(⟨false,p1_13,[]⟩:Sx),(⟨false,p2_13,[]⟩:Sx),(⟨(qW p3_13).isList,(qW p3_13).atom,(qW p3_13).list⟩:Sx),(⟨true,(⟨#[]⟩:ByteArray),l_13⟩:Sx),(⟨true,(⟨#[]⟩:ByteArray),m_13⟩:Sx)]⟩).2=0)then (
  ZN K ((xi ⟨true,(⟨#[]⟩:ByteArray),[(⟨false,(⟨#[113,117,105,108,116,49]⟩:ByteArray),[]⟩:Sx),(⟨false,p1_13,[]⟩:Sx),(⟨false,p2_13,[]⟩:Sx),(⟨(qW p3_13).isList,(qW p3_13).atom,(qW p3_13).list⟩:Sx),(⟨true,(⟨#[]⟩:ByteArray),l_13⟩:Sx),(⟨true,(⟨#[]⟩:ByteArray),m_13⟩:Sx)]⟩).1) true)
 else (
  ZN K ((xi ⟨true,(⟨#[]⟩:ByteArray),[(⟨false,(⟨#[113,117,105,108,116,49]⟩:ByteArray),[]⟩:Sx),(⟨false,p1_13,[]⟩:Sx),(⟨false,p2_13,[]⟩:Sx),(⟨(qW p3_13).isList,(qW p3_13).atom,(qW p3_13).list⟩:Sx),(⟨true,(⟨#[]⟩:ByteArray),l_13⟩:Sx),(⟨true,(⟨#[]⟩:ByteArray),m_13⟩:Sx)]⟩).1) (decide (65536< (((xi ⟨true,(⟨#[]⟩:ByteArray),[(⟨false,(⟨#[113,117,105,108,116,49]⟩:ByteArray),[]⟩:Sx),(⟨false,p1_13,[]⟩:Sx),(⟨false,p2_13,[]⟩:Sx),(⟨(qW p3_13).isList,(qW p3_13).atom,(qW p3_13).list⟩:Sx),(⟨true,(⟨#[]⟩:ByteArray),l_13⟩:Sx),(⟨true,(⟨#[]⟩:ByteArray),m_13⟩:Sx)]⟩).1).size:Int))))
def ZY (K:Kn) (W11:prodL [.int .i64, .str, .str, .int .i64, .sl .dig, .sl .chg, .sl .sexp, .sl .sexp]->Prop) (i_10:Int) (p1_10 p2_10:ByteArray) (p3_10:Int) (p4_10:List Dig) (p5_10:List Chg) (l_10:List Sx) (m_10:List Sx):Prop:=
 bif decide (i_10< (p5_10.length:Int))then (
  At p5_10 i_10 fun u12=>
 sp75.pre (u12,())/\
 ql (m_10.length+[(⟨(chX u12).isList,(chX u12).atom,(chX u12).list⟩:Sx)].length) 48 (
 W11 (IntKind.i64.wrap (i_10+1),p1_10,p2_10,p3_10,p4_10,p5_10,l_10,m_10++[(⟨(chX u12).isList,(chX u12).atom,(chX u12).list⟩:Sx)],())))
 else (
  F38_J16 K l_10 m_10 p1_10 p2_10 p3_10 p4_10 p5_10)
def F38_L11 (K:Kn) (g:prodL [.int .i64, .str, .str, .int .i64, .sl .dig, .sl .chg, .sl .sexp, .sl .sexp]):Prop:=
 qQ (γ:=prodL [.int .i64, .str, .str, .int .i64, .sl .dig, .sl .chg, .sl .sexp, .sl .sexp]) (fun V y=>ZY K V y.1 y.2.1 y.2.2.1 y.2.2.2.1 y.2.2.2.2.1 y.2.2.2.2.2.1 y.2.2.2.2.2.2.1 y.2.2.2.2.2.2.2.1) g
def Vp (K:Kn) (W5:prodL [.int .i64, .str, .str, .int .i64, .sl .dig, .sl .chg, .sl .sexp]->Prop) (i_4:Int) (p1_4 p2_4:ByteArray) (p3_4:Int) (p4_4:List Dig) (p5_4:List Chg) (l_4:List Sx):Prop:=
 bif decide (i_4< (p4_4.length:Int))then (
  At p4_4 i_4 fun u6=>
 True/\
 ql (l_4.length+[(⟨(z6 u6).isList,(z6 u6).atom,(z6 u6).list⟩:Sx)].length) 48 (
 W5 (IntKind.i64.wrap (i_4+1),p1_4,p2_4,p3_4,p4_4,p5_4,l_4++[(⟨(z6 u6).isList,(z6 u6).atom,(z6 u6).list⟩:Sx)],())))
 else (
  F38_L11 K (0,p1_4,p2_4,p3_4,p4_4,p5_4,l_4,[],()))
def F38_L5 (K:Kn) (g:prodL [.int .i64, .str, .str, .int .i64, .sl .dig, .sl .chg, .sl .sexp]):Prop:=
 qQ (γ:=prodL [.int .i64, .str, .str, .int .i64, .sl .dig, .sl .chg, .sl .sexp]) (fun V y=>Vp K V y.1 y.2.1 y.2.2.1 y.2.2.2.1 y.2.2.2.2.1 y.2.2.2.2.2.1 y.2.2.2.2.2.2.1) g
def F38 (g:prodL L38) (K:Kn):Prop:=
 F38_L5 K (0,g.1,g.2.1,g.2.2.1,g.2.2.2.1,g.2.2.2.2.1,[],())
theorem F38_eq (g:prodL L38) (K X:Kn):F38 g K=qJ D (qk [] [(74,false,sp74),(75,false,sp75),(76,true,sp76),(77,false,yG),(78,false,qqE),(79,false,xY)]) (qx []) H38 J38 72 [.tmp 2, .tmp 3] (qz Tryz.f38) (argsT S38 L38 g) [] (settle0 K) X:=by kernel_rfl
theorem F38_ok (g:prodL L38) (K X:Kn) (h:F38 g K):FCalls Tryz.prog 38 (argsT S38 L38 g) [] K X:=
 FCalls.settle0 (qq qY (jq (zq sp74_ok (zq sp75_ok (zq sp76_ok (zq xg (zq Z6 (zq vk z8))))))) qj rfl Tryz.func38 (c:=qz Tryz.f38) rfl Tryz.ntmps38 Tryz.results38 (by unfold qv;rw [Tryz.func38];kernel_rfl) (Nat.le_of_ble_eq_true (by kernel_rfl)) (c0:=0) (Eq.mp (F38_eq g K X) h))
end Go.Proofs.YtbglndogddddoaaGreatDoor
namespace Go.Proofs.YtbglndogddddoaaGreatDoor
open Go.RowKit
set_option maxRecDepth 100000
def paP (a m:ByteArray) (t:Int) (ds:List Dig) (cs:List Chg):Prop:=
 jj t/\a.size<=4194304/\m.size<=4194304/\ds.length<=4194304/\(cs.map qr).sum<=4194304/\ ∀c∈cs,chW c/\jk c
theorem Xz {cs:List Chg} (h:(cs.map qr).sum<=4194304) {c:Chg} (hc:c∈cs):wl c:=Nat.le_trans (ZI qr hc) h
theorem JD {cs:List Chg} (h:(cs.map qr).sum<=4194304):cs.length<=40000:=by
 have:=yb qr 135 cs fun c _=>by unfold qr;omega
 omega
theorem kind_int {c:Chg} (h:jk c):jj c.kind:=⟨by have:=h.1;omega,by have:=h.2;omega⟩
theorem bk_chs: ∀{cs:List Chg},(∀c∈cs,wl c/\chW c/\jk c)->zl (cs.map chX)<=5*(cs.map qr).sum+300*cs.length
 | [],_=>by simp [zl]
 | c::cs,h=>by
  obtain ⟨h1,h2,h3⟩:=h c (List.mem_cons_self ..)
  have:=bk_chX h1 h2 (kind_int h3)
  have:=bk_chs fun c hc=>h c (List.mem_cons_of_mem _ hc)
  simp only [List.map_cons,zl,List.sum_cons,List.length_cons]
  omega
theorem bk_patX {a m:ByteArray} {t:Int} {ds:List Dig} {cs:List Chg} (hp:paP a m t ds cs) (f:Dig->Sx) (hf: ∀d,xo (f d)<=35):xo (zu a m t (ds.map f) cs)<=vK:=by
 obtain ⟨h1,h2,h3,h4,h5,h6⟩:=hp
 have e1:=bk_chs fun c hc=>⟨Xz h5 hc,h6 c hc⟩
 have e2:=JD h5
 have e3:=VD f 35 ds fun d _=>hf d
 have e4:=Z5 h1
 have e5:WC.size=6:=rfl
 have e6:vK=1073741824:=rfl
 unfold zu
 rw [wE]
 simp only [zl,y7,wE,e5]
 omega
theorem Qu {w:Sx} {l:List Sx} (J:List Sx->Prop) (hl:l.length<=4294967295) (h:J (w::l)):bif decide (l.length=0)then J [w] else jz (0<l.length) (ql ([w].length+l.length) 48 (J ([w]++l))):=by
 by_cases e:l.length=0
 . rw [decide_eq_true e,cond_true]
   rwa [List.length_eq_zero_iff.1 e] at h
 . rw [decide_eq_false e,cond_false]
   exact ⟨by omega,by simp only [List.length_singleton];omega,h⟩
theorem F70_L16_is {a m:ByteArray} {t:Int} {ds:List Dig} {cs:List Chg} {K:Kn} {D:List Sx} (hp:paP a m t ds cs)
  (h:F70_J23 K a m t ds cs true ⟨#[]⟩ D true ⟨#[]⟩ (cs.map chX)):F70_L16 K (cs,(cs.length:Int),0,a,m,t,ds,cs,true,⟨#[]⟩,true,⟨#[]⟩,D,[],()):=by
 obtain ⟨h1,h2,h3,h4,h5,h6⟩:=hp
 have hl:=JD h5
 unfold F70_L16
 refine qQ.map cs chX (fun n out=>(cs,(cs.length:Int),n,a,m,t,ds,cs,true,⟨#[]⟩,true,⟨#[]⟩,D,out,())) (by omega) rfl (fun W n hn out ho hW=> ?_) fun W=> ?_
 . show Z0 K W cs cs.length n a m t ds cs true ⟨#[]⟩ true ⟨#[]⟩ D out
   unfold Z0
   rw [qt hn,cond_true]
   have hm:=List.getElem_mem hn
   have hc:=Xz h5 hm
   obtain ⟨hw,hk⟩:=h6 _ hm
   refine qE hn ⟨kind_int hk, ?_⟩
   simp only [zi]
   have hfl: ∀k,(zH k cs[n]).length<=4294967295:=fun k=>by unfold zH;split<;>simp
   have hJ: ∀l,qW cs[n].kind::zH cs[n].kind.toNat cs[n]=l->zj K W cs cs.length n a m t ds cs true ⟨#[]⟩ true ⟨#[]⟩ true ⟨#[]⟩ l D out:=by
    rintro l rfl
    unfold zj
    exact ⟨by simp only [List.length_singleton,ho];omega,hW⟩
   generalize cs[n]=u at hm hc hw hk hW hfl hJ ⊢
   obtain ⟨kind,file,typ,parent,name,mode,data,after,before,lines,over⟩:=u
   have hk1:(1:Int)<=kind/\kind<=7:=hk
   have:kind=1∨kind=2∨kind=3∨kind=4∨kind=5∨kind=6∨kind=7:=by omega
   rcases this with rfl | rfl | rfl | rfl | rfl | rfl | rfl
   . exact ⟨⟨hc,hw⟩,Qu (fun l=>zj K W cs cs.length n a m t ds cs true ⟨#[]⟩ true ⟨#[]⟩ true ⟨#[]⟩ l D out) (hfl 1) (hJ _ rfl)⟩
   . show Kl.pre _/\_
     exact ⟨⟨hc,hw⟩,Qu (fun l=>zj K W cs cs.length n a m t ds cs true ⟨#[]⟩ true ⟨#[]⟩ true ⟨#[]⟩ l D out) (hfl 2) (hJ _ rfl)⟩
   . show KX.pre _/\_
     exact ⟨⟨hc,hw⟩,Qu (fun l=>zj K W cs cs.length n a m t ds cs true ⟨#[]⟩ true ⟨#[]⟩ true ⟨#[]⟩ l D out) (hfl 3) (hJ _ rfl)⟩
   . show KU.pre _/\_
     exact ⟨⟨hc,hw⟩,Qu (fun l=>zj K W cs cs.length n a m t ds cs true ⟨#[]⟩ true ⟨#[]⟩ true ⟨#[]⟩ l D out) (hfl 4) (hJ _ rfl)⟩
   . show Kq.pre _/\_
     exact ⟨⟨hc,hw⟩,Qu (fun l=>zj K W cs cs.length n a m t ds cs true ⟨#[]⟩ true ⟨#[]⟩ true ⟨#[]⟩ l D out) (hfl 5) (hJ _ rfl)⟩
   . show Y3.pre _/\_
     exact ⟨⟨hc,hw⟩,Qu (fun l=>zj K W cs cs.length n a m t ds cs true ⟨#[]⟩ true ⟨#[]⟩ true ⟨#[]⟩ l D out) (hfl 6) (hJ _ rfl)⟩
   . show KH.pre _/\_
     exact ⟨⟨hc,hw⟩,Qu (fun l=>zj K W cs cs.length n a m t ds cs true ⟨#[]⟩ true ⟨#[]⟩ true ⟨#[]⟩ l D out) (hfl 7) (hJ _ rfl)⟩
 . show Z0 K W cs cs.length cs.length a m t ds cs true ⟨#[]⟩ true ⟨#[]⟩ D (cs.map chX)
   unfold Z0
   rw [qm,cond_false];exact h
def jS (ds:List Dig):List Sx:=ds.map fun d=>qD (XG d)
theorem F70_is {a m:ByteArray} {t:Int} {ds:List Dig} {cs:List Chg} {K:Kn} (hp:paP a m t ds cs) (h:K (.tu [.str (xi (zu a m t (jS ds) cs)).1, .int .i64 (xi (zu a m t (jS ds) cs)).2]) []):F70 (a,m,t,ds,cs,()) K:=by
 have hl:=hp.2.2.2.1
 unfold F70
 show F70_L7 K _
 unfold F70_L7
 refine qQ.map ds (fun d=>qD (XG d)) (fun n out=>(ds,(ds.length:Int),n,a,m,t,ds,cs,true,⟨#[]⟩,true,⟨#[]⟩,out,())) (by omega) rfl (fun W n hn out ho hW=> ?_) fun W=> ?_
 . show W1 K W ds ds.length n a m t ds cs true ⟨#[]⟩ true ⟨#[]⟩ out
   unfold W1
   rw [qt hn,cond_true]
   exact qE hn ⟨trivial,by simp only [List.length_singleton,ho];omega,hW⟩
 . show W1 K W ds ds.length ds.length a m t ds cs true ⟨#[]⟩ true ⟨#[]⟩ (ds.map fun d=>qD (XG d))
   unfold W1
   rw [qm,cond_false]
   refine ⟨trivial,F70_L16_is hp ?_⟩
   unfold F70_J23
   simp only [zi]
   exact ⟨trivial,trivial,trivial,hp.1,⟨bk_patX hp (fun d=>qD (XG d)) fun d=>by rw [y7,YT];omega,encode_ok⟩,h⟩
def sp70:Sp:=⟨S70,L70,fun g=>paP g.1 g.2.1 g.2.2.1 g.2.2.2.1 g.2.2.2.2.1,fun g=> .tu [.str (xi (zu g.1 g.2.1 g.2.2.1 (jS g.2.2.2.1) g.2.2.2.2.1)).1, .int .i64 (xi (zu g.1 g.2.1 g.2.2.1 (jS g.2.2.2.1) g.2.2.2.2.1)).2],fun _=>none⟩
theorem sp70_ok:sp70.Ok Tryz.prog 70 true:=
 ⟨fun g K X hp h=>F70_ok g K X (F70_is hp h),fun _ _ _=>rfl,fun _=>rfl,fun _ _=>⟨rfl,rfl⟩⟩
theorem F38_is {a m:ByteArray} {t:Int} {ds:List Dig} {cs:List Chg} {K:Kn} (hp:paP a m t ds cs) (h:K (.tu [.str (YD a m t ds cs).1, .int .i64 (YD a m t ds cs).2]) []):F38 (a,m,t,ds,cs,()) K:=by
 have hb:=bk_patX hp z6 bk_digX
 obtain ⟨h1,h2,h3,h4,h5,h6⟩:=hp
 have hl:=JD h5
 unfold F38 F38_L5
 refine qQ.map ds z6 (fun n out=>(n,a,m,t,ds,cs,out,())) (by omega) rfl (fun W n hn out ho hW=> ?_) fun W=> ?_
 . show Vp K W n a m t ds cs out
   unfold Vp
   rw [qt hn,cond_true]
   simp only [zi]
   exact qE hn ⟨trivial,by simp only [List.length_singleton,ho];omega,hW⟩
 . show Vp K W ds.length a m t ds cs (ds.map z6)
   unfold Vp
   rw [qm,cond_false]
   unfold F38_L11
   refine qQ.map cs chX (fun n out=>(n,a,m,t,ds,cs,ds.map z6,out,())) (by omega) rfl (fun W n hn out ho hW=> ?_) fun W=> ?_
   . show ZY K W n a m t ds cs (ds.map z6) out
     unfold ZY
     rw [qt hn,cond_true]
     simp only [zi]
     have hm:=List.getElem_mem hn
     exact qE hn ⟨⟨Xz h5 hm,(h6 _ hm).1,(h6 _ hm).2⟩,by simp only [List.length_singleton,ho];omega,hW⟩
   . show ZY K W cs.length a m t ds cs (ds.map z6) (cs.map chX)
     unfold ZY
     rw [qm,cond_false]
     unfold F38_J16
     simp only [zi]
     refine ⟨trivial,trivial,trivial,h1,trivial,trivial,trivial,hb, ?_⟩
     have hJ: ∀b,K (.tu [.str (bif b then ((⟨#[]⟩:ByteArray),(4:Int))else ((xi (zu a m t (ds.map z6) cs)).1,0)).1, .int .i64 (bif b then ((⟨#[]⟩:ByteArray),(4:Int))else ((xi (zu a m t (ds.map z6) cs)).1,0)).2]) []->ZN K (xi (zu a m t (ds.map z6) cs)).1 b:=by
      intro b h
      unfold ZN
      cases b
      . exact h
      . exact h
     exact xF (J:=ZN K (xi (zu a m t (ds.map z6) cs)).1) (f:=fun b=>bif b then ((⟨#[]⟩:ByteArray),(4:Int))else ((xi (zu a m t (ds.map z6) cs)).1,0)) (K:=fun r=>K (.tu [.str r.1, .int .i64 r.2]) []) hJ h
def sp38:Sp:=⟨S38,L38,fun g=>paP g.1 g.2.1 g.2.2.1 g.2.2.2.1 g.2.2.2.2.1,fun g=> .tu [.str (YD g.1 g.2.1 g.2.2.1 g.2.2.2.1 g.2.2.2.2.1).1, .int .i64 (YD g.1 g.2.1 g.2.2.1 g.2.2.2.1 g.2.2.2.2.1).2],fun _=>none⟩
theorem sp38_ok:sp38.Ok Tryz.prog 38 true:=
 ⟨fun g K X hp h=>F38_ok g K X (F38_is hp h),fun _ _ _=>rfl,fun _=>rfl,fun _ _=>⟨rfl,rfl⟩⟩
set_option maxRecDepth 100000
def overK (k:Int):Int:=match vS .ment (.int .i64 k) (yF .ment (.int .i64 6) ((⟨6,6⟩:Ment):Ment) (yF .ment (.int .i64 4) ((⟨4,4⟩:Ment):Ment) (yF .ment (.int .i64 3) ((⟨3,3⟩:Ment):Ment) (yF .ment (.int .i64 2) ((⟨2,2⟩:Ment):Ment) ([]:List Ment)))))with | some x=>x.val | none=>0
def fitDa (x:Atm):Bool:=bif decide (x.kind=1)then (bif decide (x.typ=2)then true else decide (x.typ=3))else false
def fitTx (x:Atm):Bool:=bif decide (x.kind=1)then decide (x.typ=1)else false
def fitDi (x:Atm):Bool:=bif decide (x.kind=1)then decide (x.typ=4)else false
def WE (x:Atm) (c:Chg):Bool:=bif qs x.id c.file then true else bif decide (x.kind=5)then qs x.file c.file else false
def Yg (x:Atm) (c:Chg):Bool:=bif decide (c.kind=7)then true else bif decide (x.kind=overK c.kind)then qs x.file c.file else false
def fitFd:Fd->Atm->Bool
 | .file,x=>decide (x.kind=1)
 | .data,x=>fitDa x
 | .txt,x=>fitTx x
 | .dir,x=>fitDi x
 | .fin c,x=>WE x c
 | .sup c,x=>Yg x c
def qqK (c:Chg):List Rfn:=c.over.map fun x=>⟨x,Fd.sup c⟩
def rL17 (c:Chg) (t:Bool) (out:List Rfn):List Rfn:=bif t then (out++[⟨c.after,Fd.fin c⟩])++[⟨c.before,Fd.fin c⟩]++qqK c else out++qqK c
def rL24 (c:Chg) (out:List Rfn):List Rfn:=rL17 c (bif decide (c.kind=5)then true else decide (c.kind=6)) out
def rL12 (c:Chg) (t:Bool) (out:List Rfn):List Rfn:=bif t then rL24 c (out++[⟨c.parent,Fd.dir⟩])else rL24 c out
def rL25 (c:Chg) (out:List Rfn):List Rfn:=rL12 c (bif decide (c.kind=2)then !(qs c.parent ⟨dz, -1⟩)else false) out
def rL7 (c:Chg) (t:Bool):List Rfn:=bif t then rL25 c [⟨c.file,Fd.txt⟩] else rL25 c []
def rL8 (c:Chg) (k:Int) (t:Bool):List Rfn:=bif t then rL25 c [⟨c.file,Fd.file⟩] else bif decide (k=4)then rL25 c [⟨c.file,Fd.data⟩] else rL7 c (bif decide (k=5)then true else decide (k=6))
def z7 (c:Chg):List Rfn:=rL8 c c.kind (bif decide (c.kind=2)then true else decide (c.kind=3))
def yE (own:List Atm) (r:Rfn):Int:=
 bif (bif decide (r.id.n<0)then true else bif (bif Qg r.id then decide ((own.length:Int)<=r.id.n)else false)then true else decide (100000<=r.id.n))then 7 else
 bif (bif Qg r.id then !(fitFd r.fits (own.getD r.id.n.toNat az))else false)then 8 else 0
def ZV (t:Bool) (c:Chg):Int:=bif (bif t then true else bif decide (c.kind=5)then (bif qs c.after c.before then !(qs c.after c.file)else false)else false)then 1 else 0
def Zh (t:Bool) (c:Chg):Int:=bif t then 20 else ZV (bif decide (c.kind=6)then qs c.after c.before else false) c
def Zd (c:Chg):Int:=Zh (bif decide (c.kind=2)then qs c.parent c.file else false) c
def ka (c:Chg) (own:List Atm):Int:=bif !decide (errs ((z7 c).map (yE own))=0)then errs ((z7 c).map (yE own))else Zd c
def QE (n:Int):Idn:=⟨dz,n⟩
def lnA (c:Chg) (n:Int) (s:ByteArray):Atm:=⟨QE n,5,c.file,0,iz,⟨#[]⟩,0,⟨#[]⟩,s,iz,iz,[]⟩
def egA (c:Chg) (n:Int) (f t:Idn):Atm:=⟨QE n,6,c.file,0,iz,⟨#[]⟩,0,⟨#[]⟩,⟨#[]⟩,f,t,[]⟩
def lnI (c:Chg) (n:Int) (i:Nat):Atm:=lnA c (n+i) (c.lines.getD i ⟨#[]⟩)
def tilI (c:Chg) (n:Int) (i:Nat):Idn:=bif decide (i<c.lines.length)then QE (n+i)else c.before
def frmI (c:Chg) (n:Int):Nat->Idn
 | 0=>c.after
 | i+1=>QE (n+i)
def egI (c:Chg) (n:Int) (i:Nat):Atm:=egA c (n+c.lines.length+i) (frmI c n i) (tilI c n i)
def Qx (c:Chg) (n:Int):List Atm:=(List.range c.lines.length).map (lnI c n)
def egsL (c:Chg) (n:Int):List Atm:=(List.range (c.lines.length+1)).map (egI c n)
def madK (k:Nat) (c:Chg) (n:Int):List Atm:=match k with
 | 1=>[⟨QE n,1,QE n,c.typ,iz,⟨#[]⟩,0,⟨#[]⟩,⟨#[]⟩,iz,iz,[]⟩]
 | 2=>[⟨QE n,2,c.file,0,c.parent,c.name,0,⟨#[]⟩,⟨#[]⟩,iz,iz,c.over⟩]
 | 3=>[⟨QE n,3,c.file,0,iz,⟨#[]⟩,c.mode,⟨#[]⟩,⟨#[]⟩,iz,iz,c.over⟩]
 | 4=>[⟨QE n,4,c.file,0,iz,⟨#[]⟩,0,c.data,⟨#[]⟩,iz,iz,c.over⟩]
 | 5=>Qx c n++egsL c n
 | 6=>[⟨QE n,6,c.file,0,iz,⟨#[]⟩,0,⟨#[]⟩,⟨#[]⟩,c.after,c.before,c.over⟩]
 | 7=>[⟨QE n,7,iz,0,iz,⟨#[]⟩,0,⟨#[]⟩,⟨#[]⟩,iz,iz,c.over⟩]
 | _=>[]
def j4 (c:Chg) (n:Int):List Atm:=madK c.kind.toNat c n
theorem K7 {c:Chg} {n:Int} (hk:jk c):(j4 c n).length=if c.kind=5 then 2*c.lines.length+1 else 1:=by
 obtain ⟨kind,file,typ,parent,name,mode,data,after,before,lines,over⟩:=c
 have hk1:(1:Int)<=kind/\kind<=7:=hk
 have:kind=1∨kind=2∨kind=3∨kind=4∨kind=5∨kind=6∨kind=7:=by omega
 rcases this with rfl | rfl | rfl | rfl | rfl | rfl | rfl<;>try rfl
 show (Qx _ n++egsL _ n).length=_
 simp [Qx,egsL]
 omega
theorem Vs {c:Chg} {n:Int} (hk:jk c):(j4 c n).length<=2*qr c:=by
 rw [K7 hk]
 have:=yb ja 1 c.lines fun x _=>by unfold ja;omega
 unfold qr
 split<;>omega
def preM (c:Chg) (n:Int):Prop:=jk c/\c.lines.length<=4194304/\0<=n/\n<=1099511627776
def pre84 (g:prodL [.pr .i64, .pr .chg, .sl .atm]):Prop:=preM g.2.1 g.1/\g.2.2.1.length<=16777216
def xB (f:Chg->Int) (r:Chg->List Atm->Int):List Chg->List Atm->List Atm×Int
 | [],own=>(own,0)
 | c::l,own=>bif !decide (f c=0)then ([],f c)else bif !decide (r c own=0)then ([],r c own)else xB f r l (own++j4 c own.length)
def QQ (cs:List Chg):List Atm×Int:=xB zo ka cs []
def yH (cs:List Chg):List Atm×Int:=xB jH QZ cs []
def exP5 (l:List Atm) (s:ByteArray) (t:Bool):List Atm×ByteArray×Int:=bif t then ([],⟨#[]⟩,4)else (l,s,0)
def JZ (r:List Atm×Int) (x:ByteArray×Int):List Atm×ByteArray×Int:=
 bif !decide (r.2=0)then ([],⟨#[]⟩,r.2)else exP5 r.1 x.1 (bif !decide (x.2=0)then true else decide (65536< (x.1.size:Int)))
def xe (a m:ByteArray) (t:Int) (ds:List Dig) (cs:List Chg):List Atm×ByteArray×Int:=
 bif !decide (zP zG a m t ds cs=0)then ([],⟨#[]⟩,zP zG a m t ds cs)else JZ (QQ cs) (xi (zu a m t (jS ds) cs))
def JQ (a m:ByteArray) (t:Int) (ds:List Dig) (cs:List Chg):List Atm×Int:=
 bif !decide (zP ju a m t ds cs=0)then ([],zP ju a m t ds cs)else yH cs
def xP (a m:ByteArray) (t:Int) (ds:List Dig) (cs:List Chg):Prop:=
 jj t/\a.size<=4194304/\m.size<=4194304/\ds.length<=4194304/\(cs.map qr).sum<=4194304/\ ∀c∈cs,chW c
theorem jG {c:Chg} (h:zo c=0):jk c:=by
 unfold zo fP10 at h
 by_cases h1:c.kind<1
 . rw [decide_eq_true h1,cond_true,cond_true] at h;cases h
 . rw [decide_eq_false h1,cond_false] at h
   by_cases h2:7<c.kind
   . rw [decide_eq_true h2,cond_true] at h;cases h
   . exact ⟨by omega,by omega⟩
theorem jI {c:Chg} (h:jH c=0):jk c:=by
 unfold jH fR2 at h
 by_cases h1:c.kind<1
 . rw [decide_eq_true h1,cond_true,cond_true] at h;cases h
 . rw [decide_eq_false h1,cond_false] at h
   by_cases h2:7<c.kind
   . rw [decide_eq_true h2,cond_true] at h;cases h
   . exact ⟨by omega,by omega⟩
theorem qQ.mapN {β γ:Type} {body:(γ->Prop)->γ->Prop} {g:γ} (N:Nat) (f:Nat->β) (S:Nat->List β->γ) (hg:g=S 0 [])
  (step: ∀(W:γ->Prop) (n:Nat),n<N-> ∀out:List β,out.length=n->W (S (n+1) (out++[f n]))->body W (S n out))
  (last: ∀W:γ->Prop,body W (S N ((List.range N).map f))):qQ body g:=by
 refine qQ.countTo N (fun n=>S n ((List.range n).map f)) (fun _=>True) hg (fun n hn _ W hW=> ?_) trivial
 by_cases hlt:n<N
 . refine step W n hlt _ (by simp) ?_
   have:=hW hlt trivial
   rwa [List.range_succ,List.map_append] at this
 . have:n=N:=by omega
   subst this
   exact last W
end Go.Proofs.YtbglndogddddoaaGreatDoor
namespace Go.Proofs.YtbglndogddddoaaGreatDoor
open Go.RowKit
attribute [local irreducible] qJ qd
set_option maxRecDepth 100000
def H95:List (Nat×Hint):=[]
def J95:List (Nat×Hint):=[]
abbrev S95:List Sh:=[.leaf]
abbrev L95:List Lf:=[.int .i64]
def F95 (g:prodL L95) (K:Kn):Prop:=
 K (.int .i64 (match vS .ment (.int .i64 g.1) (yF .ment (.int .i64 6) ((⟨6,6⟩:Ment):Ment) (yF .ment (.int .i64 4) ((⟨4,4⟩:Ment):Ment) (yF .ment (.int .i64 3) ((⟨3,3⟩:Ment):Ment) (yF .ment (.int .i64 2) ((⟨2,2⟩:Ment):Ment) ([]:List Ment)))))with | some x=>x.val | none=>0)) []
theorem F95_eq (g:prodL L95) (K X:Kn):F95 g K=qJ D (qk [] []) (qx []) H95 J95 7 [.tmp 2] (qz Tryz.f95) (argsT S95 L95 g) [] (settle0 K) X:=by kernel_rfl
theorem F95_ok (g:prodL L95) (K X:Kn) (h:F95 g K):FCalls Tryz.prog 95 (argsT S95 L95 g) [] K X:=
 FCalls.settle0 (qq qY (jq z8) qj rfl Tryz.func95 (c:=qz Tryz.f95) rfl Tryz.ntmps95 Tryz.results95 (by unfold qv;rw [Tryz.func95];kernel_rfl) (Nat.le_of_ble_eq_true (by kernel_rfl)) (c0:=0) (Eq.mp (F95_eq g K X) h))
def sp95:Sp:=⟨S95,L95,fun _=>True,fun g=> .int .i64 (overK g.1),fun _=>none⟩
theorem sp95_ok:sp95.Ok Tryz.prog 95 true:=
 ⟨fun g K X hp h=>F95_ok g K X h,fun _ _ _=>rfl,fun _=>rfl,by first | exact fun _ _=>⟨rfl,rfl⟩ | (intro h;cases h)⟩
def H89:List (Nat×Hint):=[]
def J89:List (Nat×Hint):=[]
abbrev S89:List Sh:=[.leaf]
abbrev L89:List Lf:=[.el .atm]
def F89 (g:prodL L89) (K:Kn):Prop:=
 K (.bool (decide (g.1.kind=1))) []
theorem F89_eq (g:prodL L89) (K X:Kn):F89 g K=qJ D (qk [] []) (qx []) H89 J89 6 [.tmp 2] (qz Tryz.f89) (argsT S89 L89 g) [] (settle0 K) X:=by kernel_rfl
theorem F89_ok (g:prodL L89) (K X:Kn) (h:F89 g K):FCalls Tryz.prog 89 (argsT S89 L89 g) [] K X:=
 FCalls.settle0 (qq qY (jq z8) qj rfl Tryz.func89 (c:=qz Tryz.f89) rfl Tryz.ntmps89 Tryz.results89 (by unfold qv;rw [Tryz.func89];kernel_rfl) (Nat.le_of_ble_eq_true (by kernel_rfl)) (c0:=0) (Eq.mp (F89_eq g K X) h))
def sp89:Sp:=⟨S89,L89,fun _=>True,fun g=> .bool (decide (g.1.kind=1)),fun _=>none⟩
theorem sp89_ok:sp89.Ok Tryz.prog 89 false:=
 ⟨fun g K X hp h=>F89_ok g K X h,fun _ _ _=>rfl,fun _=>rfl,by first | exact fun _ _=>⟨rfl,rfl⟩ | (intro h;cases h)⟩
def H90:List (Nat×Hint):=[]
def J90:List (Nat×Hint):=[]
abbrev S90:List Sh:=[.leaf]
abbrev L90:List Lf:=[.el .atm]
def F90 (g:prodL L90) (K:Kn):Prop:=
 bif decide (g.1.kind=1)then (
  bif decide (g.1.typ=2)then (
   K (.bool true) [])
  else (
   K (.bool (decide (g.1.typ=3))) []))
 else (
  K (.bool false) [])
theorem F90_eq (g:prodL L90) (K X:Kn):F90 g K=qJ D (qk [] []) (qx []) H90 J90 16 [.tmp 2] (qz Tryz.f90) (argsT S90 L90 g) [] (settle0 K) X:=by kernel_rfl
theorem F90_ok (g:prodL L90) (K X:Kn) (h:F90 g K):FCalls Tryz.prog 90 (argsT S90 L90 g) [] K X:=
 FCalls.settle0 (qq qY (jq z8) qj rfl Tryz.func90 (c:=qz Tryz.f90) rfl Tryz.ntmps90 Tryz.results90 (by unfold qv;rw [Tryz.func90];kernel_rfl) (Nat.le_of_ble_eq_true (by kernel_rfl)) (c0:=0) (Eq.mp (F90_eq g K X) h))
def sp90:Sp:=⟨S90,L90,fun _=>True,fun g=> .bool (fitDa g.1),fun _=>none⟩
theorem sp90_ok:sp90.Ok Tryz.prog 90 true:=
 ⟨fun g K X hp h=>F90_ok g K X (by
  have h:K (.bool (fitDa g.1)) []:=h
  revert h;unfold F90 fitDa;show (fun v=>K (.bool v) []) _->_
  repeat' (first | exact id | refine qI (K:=fun v=>K (.bool v) []) ?_ ?_ | (intro h;refine ⟨trivial, ?_⟩;revert h))),fun _ _ _=>rfl,fun _=>rfl,by first | exact fun _ _=>⟨rfl,rfl⟩ | (intro h;cases h)⟩
def H91:List (Nat×Hint):=[]
def J91:List (Nat×Hint):=[]
abbrev S91:List Sh:=[.leaf]
abbrev L91:List Lf:=[.el .atm]
def F91 (g:prodL L91) (K:Kn):Prop:=
 bif decide (g.1.kind=1)then (
  K (.bool (decide (g.1.typ=1))) [])
 else (
  K (.bool false) [])
theorem F91_eq (g:prodL L91) (K X:Kn):F91 g K=qJ D (qk [] []) (qx []) H91 J91 11 [.tmp 2] (qz Tryz.f91) (argsT S91 L91 g) [] (settle0 K) X:=by kernel_rfl
theorem F91_ok (g:prodL L91) (K X:Kn) (h:F91 g K):FCalls Tryz.prog 91 (argsT S91 L91 g) [] K X:=
 FCalls.settle0 (qq qY (jq z8) qj rfl Tryz.func91 (c:=qz Tryz.f91) rfl Tryz.ntmps91 Tryz.results91 (by unfold qv;rw [Tryz.func91];kernel_rfl) (Nat.le_of_ble_eq_true (by kernel_rfl)) (c0:=0) (Eq.mp (F91_eq g K X) h))
def sp91:Sp:=⟨S91,L91,fun _=>True,fun g=> .bool (fitTx g.1),fun _=>none⟩
theorem sp91_ok:sp91.Ok Tryz.prog 91 true:=
 ⟨fun g K X hp h=>F91_ok g K X (by
  have h:K (.bool (fitTx g.1)) []:=h
  revert h;unfold F91 fitTx;show (fun v=>K (.bool v) []) _->_
  repeat' (first | exact id | refine qI (K:=fun v=>K (.bool v) []) ?_ ?_ | (intro h;refine ⟨trivial, ?_⟩;revert h))),fun _ _ _=>rfl,fun _=>rfl,by first | exact fun _ _=>⟨rfl,rfl⟩ | (intro h;cases h)⟩
def H92:List (Nat×Hint):=[]
def J92:List (Nat×Hint):=[]
abbrev S92:List Sh:=[.leaf]
abbrev L92:List Lf:=[.el .atm]
def F92 (g:prodL L92) (K:Kn):Prop:=
 bif decide (g.1.kind=1)then (
  K (.bool (decide (g.1.typ=4))) [])
 else (
  K (.bool false) [])
theorem F92_eq (g:prodL L92) (K X:Kn):F92 g K=qJ D (qk [] []) (qx []) H92 J92 11 [.tmp 2] (qz Tryz.f92) (argsT S92 L92 g) [] (settle0 K) X:=by kernel_rfl
theorem F92_ok (g:prodL L92) (K X:Kn) (h:F92 g K):FCalls Tryz.prog 92 (argsT S92 L92 g) [] K X:=
 FCalls.settle0 (qq qY (jq z8) qj rfl Tryz.func92 (c:=qz Tryz.f92) rfl Tryz.ntmps92 Tryz.results92 (by unfold qv;rw [Tryz.func92];kernel_rfl) (Nat.le_of_ble_eq_true (by kernel_rfl)) (c0:=0) (Eq.mp (F92_eq g K X) h))
def sp92:Sp:=⟨S92,L92,fun _=>True,fun g=> .bool (fitDi g.1),fun _=>none⟩
theorem sp92_ok:sp92.Ok Tryz.prog 92 true:=
 ⟨fun g K X hp h=>F92_ok g K X (by
  have h:K (.bool (fitDi g.1)) []:=h
  revert h;unfold F92 fitDi;show (fun v=>K (.bool v) []) _->_
  repeat' (first | exact id | refine qI (K:=fun v=>K (.bool v) []) ?_ ?_ | (intro h;refine ⟨trivial, ?_⟩;revert h))),fun _ _ _=>rfl,fun _=>rfl,by first | exact fun _ _=>⟨rfl,rfl⟩ | (intro h;cases h)⟩
def H93:List (Nat×Hint):=[]
def J93:List (Nat×Hint):=[]
abbrev S93:List Sh:=[.leaf, .leaf]
abbrev L93:List Lf:=[.el .atm, .pr .chg]
def F93 (g:prodL L93) (K:Kn):Prop:=
 bif qs g.1.id g.2.1.file then (
  K (.bool true) [])
 else (
  bif decide (g.1.kind=5)then (
   K (.bool (qs g.1.file g.2.1.file)) [])
  else (
   K (.bool false) []))
theorem F93_eq (g:prodL L93) (K X:Kn):F93 g K=qJ D (qk [] []) (qx []) H93 J93 21 [.tmp 3] (qz Tryz.f93) (argsT S93 L93 g) [] (settle0 K) X:=by kernel_rfl
theorem F93_ok (g:prodL L93) (K X:Kn) (h:F93 g K):FCalls Tryz.prog 93 (argsT S93 L93 g) [] K X:=
 FCalls.settle0 (qq qY (jq z8) qj rfl Tryz.func93 (c:=qz Tryz.f93) rfl Tryz.ntmps93 Tryz.results93 (by unfold qv;rw [Tryz.func93];kernel_rfl) (Nat.le_of_ble_eq_true (by kernel_rfl)) (c0:=0) (Eq.mp (F93_eq g K X) h))
def sp93:Sp:=⟨S93,L93,fun _=>True,fun g=> .bool (WE g.1 g.2.1),fun _=>none⟩
theorem sp93_ok:sp93.Ok Tryz.prog 93 true:=
 ⟨fun g K X hp h=>F93_ok g K X (by
  have h:K (.bool (WE g.1 g.2.1)) []:=h
  revert h;unfold F93 WE;show (fun v=>K (.bool v) []) _->_
  repeat' (first | exact id | refine qI (K:=fun v=>K (.bool v) []) ?_ ?_ | (intro h;refine ⟨trivial, ?_⟩;revert h))),fun _ _ _=>rfl,fun _=>rfl,by first | exact fun _ _=>⟨rfl,rfl⟩ | (intro h;cases h)⟩
def H94:List (Nat×Hint):=[]
def J94:List (Nat×Hint):=[]
abbrev S94:List Sh:=[.leaf, .leaf]
abbrev L94:List Lf:=[.el .atm, .pr .chg]
def F94 (g:prodL L94) (K:Kn):Prop:=
 bif decide (g.2.1.kind=7)then (
  K (.bool true) [])
 else (
  True/\
  bif decide (g.1.kind=overK g.2.1.kind)then (
   K (.bool (qs g.1.file g.2.1.file)) [])
  else (
   K (.bool false) []))
theorem F94_eq (g:prodL L94) (K X:Kn):F94 g K=qJ D (qk [] [(95,true,sp95)]) (qx []) H94 J94 22 [.tmp 3] (qz Tryz.f94) (argsT S94 L94 g) [] (settle0 K) X:=by kernel_rfl
theorem F94_ok (g:prodL L94) (K X:Kn) (h:F94 g K):FCalls Tryz.prog 94 (argsT S94 L94 g) [] K X:=
 FCalls.settle0 (qq (Γ:=qk [] [(95,true,sp95)]) (mu:=qx []) (H:=H94) (J:=J94) qY (qV (rs:=[]) (l:=[(95,true,sp95)]) (fun p hp=>by cases hp) (by intro p hp;simp only [List.mem_cons,List.not_mem_nil,or_false] at hp;subst hp;exact sp95_ok)) qj rfl Tryz.func94 (c:=qz Tryz.f94) rfl Tryz.ntmps94 Tryz.results94 (by unfold qv;rw [Tryz.func94];kernel_rfl) (Nat.le_of_ble_eq_true (by kernel_rfl)) (c0:=0) (Eq.mp (F94_eq g K X) h))
def sp94:Sp:=⟨S94,L94,fun _=>True,fun g=> .bool (Yg g.1 g.2.1),fun _=>none⟩
theorem sp94_ok:sp94.Ok Tryz.prog 94 true:=
 ⟨fun g K X hp h=>F94_ok g K X (by
  have h:K (.bool (Yg g.1 g.2.1)) []:=h
  revert h;unfold F94 Yg;show (fun v=>K (.bool v) []) _->_
  repeat' (first | exact id | refine qI (K:=fun v=>K (.bool v) []) ?_ ?_ | (intro h;refine ⟨trivial, ?_⟩;revert h))),fun _ _ _=>rfl,fun _=>rfl,by first | exact fun _ _=>⟨rfl,rfl⟩ | (intro h;cases h)⟩
def H88:List (Nat×Hint):=[]
def J88:List (Nat×Hint):=[]
abbrev S88:List Sh:=[.leaf, .leaf, .pt 0 0]
abbrev L88:List Lf:=[.el .idk, .fd, .sl .ref]
abbrev O88:List ObSh:=[.cells [.oa .ref 1], .arr .ref]
def F88 (g:prodL L88) (K:Kn):Prop:=
 ql (g.2.2.1.length+[(⟨g.1,g.2.1⟩:Rfn)].length) 48 (
 K (.tu []) [some (.cells [.oa .ref 1 0]),some (.arr 0 .ref (g.2.2.1++[(⟨g.1,g.2.1⟩:Rfn)]))])
theorem F88_eq (g:prodL L88) (K X:Kn):F88 g K=qJ D (qk [] []) (qx []) H88 J88 11 [] (qz Tryz.f88) (argsT S88 L88 g) (qg S88 O88 L88 g) (settleD (qg S88 O88 L88 g).length 0 K) X 0:=by kernel_rfl
theorem F88_ok (g:prodL L88) (K X:Kn) (h:F88 g K):FCalls Tryz.prog 88 (argsT S88 L88 g) (qg S88 O88 L88 g) K X 0:=
 FCalls.settleD (qq (Γ:=qk [] []) (mu:=qx []) (H:=H88) (J:=J88) qY (jq z8) qj rfl Tryz.func88 (c:=qz Tryz.f88) rfl Tryz.ntmps88 (rs:=[]) Tryz.results88 (by unfold qv;rw [Tryz.func88];kernel_rfl) (Nat.le_of_ble_eq_true (by kernel_rfl)) (X:=X) (c0:=0) (Eq.mp (F88_eq g K X) h))
def rw88:Raw:=⟨S88,O88,L88,0,fun g K _=>F88 g K⟩
theorem rw88_ok:rw88.Ok Tryz.prog 88:=fun g K X h=>F88_ok g K X h
def H88n:List (Nat×Hint):=[]
def J88n:List (Nat×Hint):=[]
abbrev S88n:List Sh:=[.leaf, .leaf, .pt 0 0]
abbrev qqc:List Lf:=[.el .idk, .fd]
abbrev O88n:List ObSh:=[.cells [.nil]]
def F88n (g:prodL qqc) (K:Kn):Prop:=
 ql ([(⟨g.1,g.2.1⟩:Rfn)].length) 48 (
 K (.tu []) [some (.cells [.oa .ref 1 0]),some (.arr 0 .ref [(⟨g.1,g.2.1⟩:Rfn)])])
theorem F88n_eq (g:prodL qqc) (K X:Kn):F88n g K=qJ D (qk [] []) (qx []) H88n J88n 11 [] (qz Tryz.f88) (argsT S88n qqc g) (qg S88n O88n qqc g) (settleD (qg S88n O88n qqc g).length 0 K) X 0:=by kernel_rfl
theorem F88n_ok (g:prodL qqc) (K X:Kn) (h:F88n g K):FCalls Tryz.prog 88 (argsT S88n qqc g) (qg S88n O88n qqc g) K X 0:=
 FCalls.settleD (qq (Γ:=qk [] []) (mu:=qx []) (H:=H88n) (J:=J88n) qY (jq z8) qj rfl Tryz.func88 (c:=qz Tryz.f88) rfl Tryz.ntmps88 (rs:=[]) Tryz.results88 (by unfold qv;rw [Tryz.func88];kernel_rfl) (Nat.le_of_ble_eq_true (by kernel_rfl)) (X:=X) (c0:=0) (Eq.mp (F88n_eq g K X) h))
def Y8:Raw:=⟨S88n,O88n,qqc,0,fun g K _=>F88n g K⟩
theorem rw88n_ok:Y8.Ok Tryz.prog 88:=fun g K X h=>F88n_ok g K X h
def H43:List (Nat×Hint):=[]
def J43:List (Nat×Hint):=[]
abbrev S43:List Sh:=[.leaf, .leaf]
abbrev L43:List Lf:=[.el .chg, .int .i64]
def F43 (g:prodL L43) (K:Kn):Prop:=
 K (.fn 84 [] [.pr .i64 g.2.1 0, .pr .chg g.1 0]) []
theorem F43_eq (g:prodL L43) (K X:Kn):F43 g K=qJ D (qk [] []) (qx []) H43 J43 6 [.tmp 4] (qz Tryz.f43) (argsT S43 L43 g) [] (settle0 K) X:=by kernel_rfl
theorem F43_ok (g:prodL L43) (K X:Kn) (h:F43 g K):FCalls Tryz.prog 43 (argsT S43 L43 g) [] K X:=
 FCalls.settle0 (qq qY (jq z8) qj rfl Tryz.func43 (c:=qz Tryz.f43) rfl Tryz.ntmps43 Tryz.results43 (by unfold qv;rw [Tryz.func43];kernel_rfl) (Nat.le_of_ble_eq_true (by kernel_rfl)) (c0:=0) (Eq.mp (F43_eq g K X) h))
def sp43:Sp:=⟨S43,L43,fun _=>True,fun g=> .fn 84 [] [.pr .i64 g.2.1 0, .pr .chg g.1 0],fun _=>none⟩
theorem sp43_ok:sp43.Ok Tryz.prog 43 false:=
 ⟨fun g K X hp h=>F43_ok g K X (by
  have h:K (.fn 84 [] [.pr .i64 g.2.1 0, .pr .chg g.1 0]) []:=h
  exact h),fun _ _ _=>rfl,fun _=>rfl,by first | exact fun _ _=>⟨rfl,rfl⟩ | (intro h;cases h)⟩
def H85:List (Nat×Hint):=[]
def J85:List (Nat×Hint):=[]
abbrev S85:List Sh:=[.leaf, .leaf]
abbrev L85:List Lf:=[.int .i64, .pr .i64]
def F85 (g:prodL L85) (K:Kn):Prop:=
 K (.ag (enc .idk (⟨dz,IntKind.i64.wrap (g.2.1+g.1)⟩:Idn))) []
theorem F85_eq (g:prodL L85) (K X:Kn):F85 g K=qJ D (qk [] []) (qx []) H85 J85 8 [.cell 3 36] (qz Tryz.f85) (argsT S85 L85 g) [] (settle0 K) X:=by kernel_rfl
theorem F85_ok (g:prodL L85) (K X:Kn) (h:F85 g K):FCalls Tryz.prog 85 (argsT S85 L85 g) [] K X:=
 FCalls.settle0 (qq qY (jq z8) qj rfl Tryz.func85 (c:=qz Tryz.f85) rfl Tryz.ntmps85 Tryz.results85 (by unfold qv;rw [Tryz.func85];kernel_rfl) (Nat.le_of_ble_eq_true (by kernel_rfl)) (c0:=0) (Eq.mp (F85_eq g K X) h))
def sp85:Sp:=⟨S85,L85,fun _=>True,fun g=> .ag (enc .idk (⟨dz,IntKind.i64.wrap (g.2.1+g.1)⟩:Idn)),fun _=>none⟩
theorem sp85_ok:sp85.Ok Tryz.prog 85 false:=
 ⟨fun g K X hp h=>F85_ok g K X (by
  have h:K (.ag (enc .idk (⟨dz,IntKind.i64.wrap (g.2.1+g.1)⟩:Idn))) []:=h
  exact h),fun _ _ _=>rfl,fun _=>rfl,by first | exact fun _ _=>⟨rfl,rfl⟩ | (intro h;cases h)⟩
def H1036016:List (Nat×Hint):=[]
def J1036016:List (Nat×Hint):=[]
abbrev wP:List Sh:=[.leaf, .pt 0 0]
abbrev xZ:List Lf:=[.el .atm, .sl .atm]
abbrev ZD:List ObSh:=[.cells [.oa .atm 1], .arr .atm]
def VY (g:prodL xZ) (K:Kn):Prop:=
 ql (g.2.1.length+[g.1].length) 296 (
 K (.bool true) [some (.cells [.oa .atm 1 0]),some (.arr 0 .atm (g.2.1++[g.1]))])
theorem F1036016_eq (g:prodL xZ) (K:Kn):VY g K=qd D (qk [] []) (qx []) H1036016 J1036016 (QP Tryz.prog 1036016) [6] (argsT wP xZ g) (qg wP ZD xZ g) (settleD (qg wP ZD xZ g).length 0 K) 0:=by kernel_rfl
theorem F1036016_ok (g:prodL xZ) (K X:Kn) (h:VY g K):FCalls Tryz.prog 1036016 (argsT wP xZ g) (qg wP ZD xZ g) K X 0:=
 FCalls.settleD (YO (Γ:=qk [] []) (mu:=qx []) (H:=H1036016) (J:=J1036016) qY (jq z8) qj rfl (yi:=⟨36,16,[6]⟩) rfl (by kernel_rfl) (by kernel_rfl) (by kernel_rfl) (by rw [F1036016_eq g K] at h;exact h))
def vW:Raw:=⟨wP,ZD,xZ,0,fun g K _=>VY g K⟩
theorem qqI:vW.Ok Tryz.prog 1036016:=fun g K X h=>F1036016_ok g K X h
set_option maxRecDepth 100000
def H46:List (Nat×Hint):=[(19,⟨[((3,[]),none),((3,[0]),none)],[(1, .leaf),(3, .pt 0 0),(4, .fn 88 [] [.pt 0 0]),(64, .leaf),(65, .leaf),(66, .leaf)],[.cells [.oa .ref 1], .arr .ref],[.pr .chg, .sl .idk, .int .i64, .int .i64, .sl .ref]⟩)]
def J46:List (Nat×Hint):=[(1,⟨[],[(1, .leaf)],[],[.pr .chg]⟩),(6,⟨[((3,[]),none)],[(1, .leaf),(3, .pt 0 0),(4, .fn 88 [] [.pt 0 0]),(10, .leaf),(11, .leaf)],[.cells [.nil]],[.pr .chg, .int .i64, .bool]⟩),(11,⟨[((3,[]),none)],[(1, .leaf),(3, .pt 0 0),(4, .fn 88 [] [.pt 0 0]),(24, .leaf)],[.cells [.nil]],[.pr .chg, .bool]⟩),(12,⟨[((3,[]),none),((3,[0]),some .ref)],[(1, .leaf),(3, .pt 0 0),(4, .fn 88 [] [.pt 0 0])],[.cells [.oa .ref 1], .arr .ref],[.pr .chg, .sl .ref]⟩),(13,⟨[((3,[]),none),((3,[0]),none)],[(1, .leaf),(3, .pt 0 0),(4, .fn 88 [] [.pt 0 0]),(39, .leaf)],[.cells [.oa .ref 1], .arr .ref],[.pr .chg, .bool, .sl .ref]⟩),(14,⟨[((3,[]),none),((3,[0]),none)],[(1, .leaf),(3, .pt 0 0),(4, .fn 88 [] [.pt 0 0])],[.cells [.oa .ref 1], .arr .ref],[.pr .chg, .sl .ref]⟩),(15,⟨[((3,[]),none),((3,[0]),none)],[(1, .leaf),(3, .pt 0 0),(4, .fn 88 [] [.pt 0 0]),(51, .leaf)],[.cells [.oa .ref 1], .arr .ref],[.pr .chg, .bool, .sl .ref]⟩),(18,⟨[((3,[]),none),((3,[0]),none)],[(1, .leaf),(3, .pt 0 0),(4, .fn 88 [] [.pt 0 0])],[.cells [.oa .ref 1], .arr .ref],[.pr .chg, .sl .ref]⟩)]
abbrev S46:List Sh:=[.leaf]
abbrev L46:List Lf:=[.el .chg]
def ZR (K:Kn) (W20:prodL [.pr .chg, .sl .idk, .int .i64, .int .i64, .sl .ref]->Prop) (c_19:Chg) (t_19:List Idn) (t2_19 t3_19:Int) (out_19:List Rfn):Prop:=
 bif decide (t3_19<t2_19)then (
  At t_19 t3_19 fun u21=>
 let g22:prodL [.el .idk, .fd, .sl .ref]:=(u21,Fd.sup c_19,out_19,());
 ql (g22.2.2.1.length+[(⟨g22.1,g22.2.1⟩:Rfn)].length) 48 (
 W20 (c_19,t_19,t2_19,IntKind.i64.wrap (t3_19+1),g22.2.2.1++[(⟨g22.1,g22.2.1⟩:Rfn)],())))
 else (
  K (.sl false .ref out_19) [])
def F46_L20 (K:Kn) (g:prodL [.pr .chg, .sl .idk, .int .i64, .int .i64, .sl .ref]):Prop:=
 qQ (γ:=prodL [.pr .chg, .sl .idk, .int .i64, .int .i64, .sl .ref]) (fun V y=>ZR K V y.1 y.2.1 y.2.2.1 y.2.2.2.1 y.2.2.2.2.1) g
def X5 (K:Kn) (c_18:Chg) (out_18:List Rfn):Prop:=
 F46_L20 K (c_18,c_18.over,(c_18.over.length:Int),0,out_18,())
def ZU (K:Kn) (c_14:Chg) (t_14:Bool) (out_14:List Rfn):Prop:=
 bif t_14 then (
  let g15:prodL [.el .idk, .fd, .sl .ref]:=(c_14.after,Fd.fin c_14,out_14,());
  ql (g15.2.2.1.length+[(⟨g15.1,g15.2.1⟩:Rfn)].length) 48 (
  let g16:prodL [.el .idk, .fd, .sl .ref]:=(c_14.before,Fd.fin c_14,g15.2.2.1++[(⟨g15.1,g15.2.1⟩:Rfn)],());
  ql (g16.2.2.1.length+[(⟨g16.1,g16.2.1⟩:Rfn)].length) 48 (
  X5 K c_14 (g16.2.2.1++[(⟨g16.1,g16.2.1⟩:Rfn)]))))
 else (
  X5 K c_14 out_14)
def qqC (K:Kn) (c_13:Chg) (out_13:List Rfn):Prop:=
 bif decide (c_13.kind=5)then (
  ZU K c_13 true out_13)
 else (
  ZU K c_13 (decide (c_13.kind=6)) out_13)
def XH (K:Kn) (c_10:Chg) (t_10:Bool) (out_10:List Rfn):Prop:=
 bif t_10 then (
  let g11:prodL [.el .idk, .fd, .sl .ref]:=(c_10.parent,Fd.dir,out_10,());
  ql (g11.2.2.1.length+[(⟨g11.1,g11.2.1⟩:Rfn)].length) 48 (
  qqC K c_10 (g11.2.2.1++[(⟨g11.1,g11.2.1⟩:Rfn)])))
 else (
  qqC K c_10 out_10)
def kC (K:Kn) (c_9:Chg) (out_9:List Rfn):Prop:=
 bif decide (c_9.kind=2)then (
  True/\
  XH K c_9 (!(qs c_9.parent (⟨dz, -1⟩:Idn))) out_9)
 else (
  XH K c_9 false out_9)
def VW (K:Kn) (c_5:Chg) (t_5:Bool):Prop:=
 bif t_5 then (
    let g6:prodL [.el .idk, .fd]:=(c_5.file,Fd.txt,());
    ql ([(⟨g6.1,g6.2.1⟩:Rfn)].length) 48 (
    kC K c_5 [(⟨g6.1,g6.2.1⟩:Rfn)]))
   else (
    kC K c_5 [])
def Ye (K:Kn) (c_2:Chg) (t_2:Int) (t2_2:Bool):Prop:=
 bif t2_2 then (
  let g3:prodL [.el .idk, .fd]:=(c_2.file,Fd.file,());
  ql ([(⟨g3.1,g3.2.1⟩:Rfn)].length) 48 (
  kC K c_2 [(⟨g3.1,g3.2.1⟩:Rfn)]))
 else (
  bif decide (t_2=4)then (
   let g4:prodL [.el .idk, .fd]:=(c_2.file,Fd.data,());
   ql ([(⟨g4.1,g4.2.1⟩:Rfn)].length) 48 (
   kC K c_2 [(⟨g4.1,g4.2.1⟩:Rfn)]))
  else (
   bif decide (t_2=5)then (
    VW K c_2 true)
   else (
    VW K c_2 (decide (t_2=6)))))
def F46_J26 (K:Kn) (c_1:Chg):Prop:=
 bif decide (c_1.kind=2)then (
  Ye K c_1 c_1.kind true)
 else (
  Ye K c_1 c_1.kind (decide (c_1.kind=3)))
def F46 (g:prodL L46) (K:Kn):Prop:=
 F46_J26 K g.1
theorem F46_eq (g:prodL L46) (K X:Kn):F46 g K=qJ D (qk [(88,rw88),(88,Y8)] [(28,false,sp28)]) (qx [(88,rw88),(88,Y8)]) H46 J46 76 [.tmp 2] (qz Tryz.f46) (argsT S46 L46 g) [] (settle0 K) X:=by kernel_rfl
theorem F46_ok (g:prodL L46) (K X:Kn) (h:F46 g K):FCalls Tryz.prog 46 (argsT S46 L46 g) [] K X:=
 FCalls.settle0 (qq (Γ:=qk [(88,rw88),(88,Y8)] [(28,false,sp28)]) (mu:=qx [(88,rw88),(88,Y8)]) (H:=H46) (J:=J46) qY (qV (rs:=[(88,rw88),(88,Y8)]) (l:=[(28,false,sp28)]) (by intro p hp;simp only [List.mem_cons,List.not_mem_nil,or_false] at hp;rcases hp with rfl | rfl<;>first | exact rw88_ok | exact rw88n_ok) (by intro p hp;simp only [List.mem_cons,List.not_mem_nil,or_false] at hp;subst hp;exact qzz)) qj rfl Tryz.func46 (c:=qz Tryz.f46) rfl Tryz.ntmps46 Tryz.results46 (by unfold qv;rw [Tryz.func46];kernel_rfl) (Nat.le_of_ble_eq_true (by kernel_rfl)) (c0:=0) (Eq.mp (F46_eq g K X) h))
def H84:List (Nat×Hint):=[(16,⟨[],[(0, .fn 1036016 [] [.pt 0 0]),(2, .leaf),(4, .fn 85 [] [.leaf]),(93, .leaf),(94, .leaf),(95, .leaf)],[.cells [.oa .atm 1], .arr .atm],[.pr .chg, .pr .i64, .sl .str, .int .i64, .int .i64, .sl .atm]⟩),(23,⟨[((8,[]),none)],[(0, .fn 1036016 [] [.pt 0 0]),(2, .leaf),(4, .fn 85 [] [.leaf]),(7, .leaf),(8, .pt 2 0),(117, .leaf),(118, .leaf)],[.cells [.oa .atm 1], .arr .atm, .el],[.pr .chg, .pr .i64, .int .i64, .int .i64, .int .i64, .sl .atm, .el .idk]⟩)]
def J84:List (Nat×Hint):=[(28,⟨[((8,[]),none),((10,[]),none)],[(0, .fn 1036016 [] [.pt 0 0]),(2, .leaf),(4, .fn 85 [] [.leaf]),(7, .leaf),(8, .pt 2 0),(9, .leaf),(10, .pt 3 0),(117, .leaf),(118, .leaf)],[.cells [.oa .atm 1], .arr .atm, .el, .el],[.pr .chg, .pr .i64, .int .i64, .int .i64, .int .i64, .int .i64, .sl .atm, .el .idk, .el .idk]⟩)]
abbrev S84:List Sh:=[.fn 1036016 [] [.pt 0 0], .leaf, .leaf]
abbrev L84:List Lf:=[.pr .i64, .pr .chg, .sl .atm]
abbrev O84:List ObSh:=[.cells [.oa .atm 1], .arr .atm]
def VJ (K:Kn) (W12:prodL [.pr .chg, .pr .i64, .int .i64, .int .i64, .int .i64, .sl .atm, .el .idk]->Prop) (t_13:Chg) (id_13 k_13 i_13 t2_13 t3_13:Int) (o1_13:List Atm) (from_13 to_13:Idn):Prop:=
 True/\
        let g14:prodL [.el .atm, .sl .atm]:=((⟨(⟨dz,IntKind.i64.wrap (id_13+(IntKind.i64.wrap (k_13+i_13)))⟩:Idn),6,t_13.file,0,iz,(⟨#[]⟩:ByteArray),0,(⟨#[]⟩:ByteArray),(⟨#[]⟩:ByteArray),from_13,to_13,[]⟩:Atm),o1_13,());
        ql (g14.2.1.length+[g14.1].length) 296 (
        W12 (t_13,id_13,k_13,t2_13,IntKind.i64.wrap (t3_13+1),g14.2.1++[g14.1],to_13,()))
def Jb (K:Kn) (W12:prodL [.pr .chg, .pr .i64, .int .i64, .int .i64, .int .i64, .sl .atm, .el .idk]->Prop) (t_11:Chg) (id_11 k_11 t2_11 t3_11:Int) (o1_11:List Atm) (from_11:Idn):Prop:=
 bif decide (t3_11<t2_11)then (
         bif decide (t3_11<k_11)then (
         True/\
         VJ K W12 t_11 id_11 k_11 t3_11 t2_11 t3_11 o1_11 from_11 (⟨dz,IntKind.i64.wrap (id_11+t3_11)⟩:Idn))
        else (
         VJ K W12 t_11 id_11 k_11 t3_11 t2_11 t3_11 o1_11 from_11 t_11.before))
        else (
         K (.tu []) [some (.cells [.oa .atm 1 0]),some (.arr 0 .atm o1_11)])
def F84_L12 (K:Kn) (g:prodL [.pr .chg, .pr .i64, .int .i64, .int .i64, .int .i64, .sl .atm, .el .idk]):Prop:=
 qQ (γ:=prodL [.pr .chg, .pr .i64, .int .i64, .int .i64, .int .i64, .sl .atm, .el .idk]) (fun V y=>Jb K V y.1 y.2.1 y.2.2.1 y.2.2.2.1 y.2.2.2.2.1 y.2.2.2.2.2.1 y.2.2.2.2.2.2.1) g
def Vm (K:Kn) (W8:prodL [.pr .chg, .pr .i64, .sl .str, .int .i64, .int .i64, .sl .atm]->Prop) (t_7:Chg) (id_7:Int) (t2_7:List ByteArray) (t3_7 t4_7:Int) (o1_7:List Atm):Prop:=
 bif decide (t4_7<t3_7)then (
         At t2_7 t4_7 fun u9=>
        True/\
        let g10:prodL [.el .atm, .sl .atm]:=((⟨(⟨dz,IntKind.i64.wrap (id_7+t4_7)⟩:Idn),5,t_7.file,0,iz,(⟨#[]⟩:ByteArray),0,(⟨#[]⟩:ByteArray),u9,iz,iz,[]⟩:Atm),o1_7,());
        ql (g10.2.1.length+[g10.1].length) 296 (
        W8 (t_7,id_7,t2_7,t3_7,IntKind.i64.wrap (t4_7+1),g10.2.1++[g10.1],())))
        else (
         F84_L12 K (t_7,id_7,(t_7.lines.length:Int),IntKind.i64.wrap ((t_7.lines.length:Int)+1),0,o1_7,t_7.after,()))
def F84_L8 (K:Kn) (g:prodL [.pr .chg, .pr .i64, .sl .str, .int .i64, .int .i64, .sl .atm]):Prop:=
 qQ (γ:=prodL [.pr .chg, .pr .i64, .sl .str, .int .i64, .int .i64, .sl .atm]) (fun V y=>Vm K V y.1 y.2.1 y.2.2.1 y.2.2.2.1 y.2.2.2.2.1 y.2.2.2.2.2.1) g
def F84 (g:prodL L84) (K:Kn):Prop:=
 bif decide (g.2.1.kind=1)then (
  True/\
  True/\
  let g1:prodL [.el .atm, .sl .atm]:=((⟨(⟨dz,IntKind.i64.wrap (g.1+0)⟩:Idn),1,(⟨dz,IntKind.i64.wrap (g.1+0)⟩:Idn),g.2.1.typ,iz,(⟨#[]⟩:ByteArray),0,(⟨#[]⟩:ByteArray),(⟨#[]⟩:ByteArray),iz,iz,[]⟩:Atm),g.2.2.1,());
  ql (g1.2.1.length+[g1.1].length) 296 (
  K (.tu []) [some (.cells [.oa .atm 1 0]),some (.arr 0 .atm (g1.2.1++[g1.1]))]))
 else (
  bif decide (g.2.1.kind=2)then (
   True/\
   let g2:prodL [.el .atm, .sl .atm]:=((⟨(⟨dz,IntKind.i64.wrap (g.1+0)⟩:Idn),2,g.2.1.file,0,g.2.1.parent,g.2.1.name,0,(⟨#[]⟩:ByteArray),(⟨#[]⟩:ByteArray),iz,iz,g.2.1.over⟩:Atm),g.2.2.1,());
   ql (g2.2.1.length+[g2.1].length) 296 (
   K (.tu []) [some (.cells [.oa .atm 1 0]),some (.arr 0 .atm (g2.2.1++[g2.1]))]))
  else (
   bif decide (g.2.1.kind=3)then (
    True/\
    let g3:prodL [.el .atm, .sl .atm]:=((⟨(⟨dz,IntKind.i64.wrap (g.1+0)⟩:Idn),3,g.2.1.file,0,iz,(⟨#[]⟩:ByteArray),g.2.1.mode,(⟨#[]⟩:ByteArray),(⟨#[]⟩:ByteArray),iz,iz,g.2.1.over⟩:Atm),g.2.2.1,());
    ql (g3.2.1.length+[g3.1].length) 296 (
    K (.tu []) [some (.cells [.oa .atm 1 0]),some (.arr 0 .atm (g3.2.1++[g3.1]))]))
   else (
    bif decide (g.2.1.kind=4)then (
     True/\
     let g4:prodL [.el .atm, .sl .atm]:=((⟨(⟨dz,IntKind.i64.wrap (g.1+0)⟩:Idn),4,g.2.1.file,0,iz,(⟨#[]⟩:ByteArray),0,g.2.1.data,(⟨#[]⟩:ByteArray),iz,iz,g.2.1.over⟩:Atm),g.2.2.1,());
     ql (g4.2.1.length+[g4.1].length) 296 (
     K (.tu []) [some (.cells [.oa .atm 1 0]),some (.arr 0 .atm (g4.2.1++[g4.1]))]))
    else (
     bif decide (g.2.1.kind=6)then (
      True/\
      let g5:prodL [.el .atm, .sl .atm]:=((⟨(⟨dz,IntKind.i64.wrap (g.1+0)⟩:Idn),6,g.2.1.file,0,iz,(⟨#[]⟩:ByteArray),0,(⟨#[]⟩:ByteArray),(⟨#[]⟩:ByteArray),g.2.1.after,g.2.1.before,g.2.1.over⟩:Atm),g.2.2.1,());
      ql (g5.2.1.length+[g5.1].length) 296 (
      K (.tu []) [some (.cells [.oa .atm 1 0]),some (.arr 0 .atm (g5.2.1++[g5.1]))]))
     else (
      bif decide (g.2.1.kind=7)then (
       True/\
       let g6:prodL [.el .atm, .sl .atm]:=((⟨(⟨dz,IntKind.i64.wrap (g.1+0)⟩:Idn),7,iz,0,iz,(⟨#[]⟩:ByteArray),0,(⟨#[]⟩:ByteArray),(⟨#[]⟩:ByteArray),iz,iz,g.2.1.over⟩:Atm),g.2.2.1,());
       ql (g6.2.1.length+[g6.1].length) 296 (
       K (.tu []) [some (.cells [.oa .atm 1 0]),some (.arr 0 .atm (g6.2.1++[g6.1]))]))
      else (
       bif decide (g.2.1.kind=5)then (
        F84_L8 K (g.2.1,g.1,g.2.1.lines,(g.2.1.lines.length:Int),0,g.2.2.1,()))
       else (
        K (.tu []) [some (.cells [.oa .atm 1 0]),some (.arr 0 .atm g.2.2.1)])))))))
theorem F84_eq (g:prodL L84) (K X:Kn):F84 g K=qJ D (qk [(1036016,vW)] [(85,false,sp85)]) (qx [(1036016,vW)]) H84 J84 144 [] (qz Tryz.f84) (argsT S84 L84 g) (qg S84 O84 L84 g) (settleD (qg S84 O84 L84 g).length 0 K) X 0:=by kernel_rfl
theorem F84_ok (g:prodL L84) (K X:Kn) (h:F84 g K):FCalls Tryz.prog 84 (argsT S84 L84 g) (qg S84 O84 L84 g) K X 0:=
 FCalls.settleD (qq (Γ:=qk [(1036016,vW)] [(85,false,sp85)]) (mu:=qx [(1036016,vW)]) (H:=H84) (J:=J84) qY (qV (rs:=[(1036016,vW)]) (l:=[(85,false,sp85)]) (by intro p hp;simp only [List.mem_cons,List.not_mem_nil,or_false] at hp;subst hp;exact qqI) (by intro p hp;simp only [List.mem_cons,List.not_mem_nil,or_false] at hp;subst hp;exact sp85_ok)) qj rfl Tryz.func84 (c:=qz Tryz.f84) rfl Tryz.ntmps84 (rs:=[]) Tryz.results84 (by unfold qv;rw [Tryz.func84];kernel_rfl) (Nat.le_of_ble_eq_true (by kernel_rfl)) (X:=X) (c0:=0) (Eq.mp (F84_eq g K X) h))
def H127:List (Nat×Hint):=[(18,⟨[((2,[]),none),((6,[]),some .atm)],[(1, .leaf),(2, .pt 0 0),(6, .oa .atm 1),(7, .leaf),(8, .leaf)],[.el, .arr .atm],[.int .i64, .int .i64, .int .i64, .el .chg, .sl .atm]⟩),(22,⟨[((2,[]),none),((6,[]),none)],[(1, .leaf),(2, .pt 0 0),(6, .oa .atm 1),(7, .leaf),(9, .leaf)],[.el, .arr .atm],[.int .i64, .int .i64, .int .i64, .el .chg, .sl .atm]⟩)]
def J127:List (Nat×Hint):=[(27,⟨[((2,[]),none),((6,[]),none),((10,[]),none)],[(1, .leaf),(2, .pt 0 0),(6, .oa .atm 1),(7, .leaf),(9, .leaf),(10, .pt 2 0)],[.el, .arr .atm, .el],[.int .i64, .int .i64, .int .i64, .el .chg, .sl .atm, .el .atm]⟩),(29,⟨[((2,[]),none),((6,[]),none),((10,[]),none)],[(1, .leaf),(2, .pt 0 0),(6, .oa .atm 1),(7, .leaf),(9, .leaf),(10, .pt 2 0)],[.el, .arr .atm, .el],[.int .i64, .int .i64, .int .i64, .el .chg, .sl .atm, .el .atm]⟩)]
abbrev S127:List Sh:=[.leaf, .leaf]
abbrev L127:List Lf:=[.el .chg, .int .i64]
def ZP (K:Kn) (W8:prodL [.int .i64, .int .i64, .int .i64, .el .chg, .sl .atm]->Prop) (first_10 k_10 i_10:Int) (c_10:Chg) (out_10:List Atm) (x_10:Atm):Prop:=
 ql (out_10.length+[x_10].length) 296 (
 W8 (first_10,k_10,IntKind.i64.wrap (i_10+1),c_10,out_10++[x_10],()))
def JV (K:Kn) (W8:prodL [.int .i64, .int .i64, .int .i64, .el .chg, .sl .atm]->Prop) (first_9 k_9 i_9:Int) (c_9:Chg) (out_9:List Atm) (x_9:Atm):Prop:=
 bif decide (i_9<k_9)then (
  ZP K W8 first_9 k_9 i_9 c_9 out_9 (⟨x_9.id,x_9.kind,x_9.file,x_9.typ,x_9.parent,x_9.name,x_9.mode,x_9.data,x_9.text,x_9.frm,⟨dz,IntKind.i64.wrap (first_9+i_9)⟩,x_9.over⟩:Atm))
 else (
  ZP K W8 first_9 k_9 i_9 c_9 out_9 x_9)
def JW (K:Kn) (W8:prodL [.int .i64, .int .i64, .int .i64, .el .chg, .sl .atm]->Prop) (first_7 k_7 i_7:Int) (c_7:Chg) (out_7:List Atm):Prop:=
 bif decide (i_7<=k_7)then (
  bif decide (0<i_7)then (
  JV K W8 first_7 k_7 i_7 c_7 out_7 (⟨⟨dz,IntKind.i64.wrap ((IntKind.i64.wrap (first_7+k_7))+i_7)⟩,6,c_7.file,0,iz,(⟨#[]⟩:ByteArray),0,(⟨#[]⟩:ByteArray),(⟨#[]⟩:ByteArray),⟨dz,IntKind.i64.wrap ((IntKind.i64.wrap (first_7+i_7)) - 1)⟩,c_7.before,[]⟩:Atm))
 else (
  JV K W8 first_7 k_7 i_7 c_7 out_7 (⟨⟨dz,IntKind.i64.wrap ((IntKind.i64.wrap (first_7+k_7))+i_7)⟩,6,c_7.file,0,iz,(⟨#[]⟩:ByteArray),0,(⟨#[]⟩:ByteArray),(⟨#[]⟩:ByteArray),c_7.after,c_7.before,[]⟩:Atm)))
 else (
  K (.sl false .atm out_7) [])
def F127_L8 (K:Kn) (g:prodL [.int .i64, .int .i64, .int .i64, .el .chg, .sl .atm]):Prop:=
 qQ (γ:=prodL [.int .i64, .int .i64, .int .i64, .el .chg, .sl .atm]) (fun V y=>JW K V y.1 y.2.1 y.2.2.1 y.2.2.2.1 y.2.2.2.2.1) g
def ZW (K:Kn) (W5:prodL [.int .i64, .int .i64, .int .i64, .el .chg, .sl .atm]->Prop) (first_4 k_4 i_4:Int) (c_4:Chg) (out_4:List Atm):Prop:=
 bif decide (i_4<k_4)then (
  At c_4.lines i_4 fun u6=>
 ql (out_4.length+[(⟨⟨dz,IntKind.i64.wrap (first_4+i_4)⟩,5,c_4.file,0,iz,(⟨#[]⟩:ByteArray),0,(⟨#[]⟩:ByteArray),u6,iz,iz,[]⟩:Atm)].length) 296 (
 W5 (first_4,k_4,IntKind.i64.wrap (i_4+1),c_4,out_4++[(⟨⟨dz,IntKind.i64.wrap (first_4+i_4)⟩,5,c_4.file,0,iz,(⟨#[]⟩:ByteArray),0,(⟨#[]⟩:ByteArray),u6,iz,iz,[]⟩:Atm)],())))
 else (
  F127_L8 K (first_4,k_4,0,c_4,out_4,()))
def F127_L5 (K:Kn) (g:prodL [.int .i64, .int .i64, .int .i64, .el .chg, .sl .atm]):Prop:=
 qQ (γ:=prodL [.int .i64, .int .i64, .int .i64, .el .chg, .sl .atm]) (fun V y=>ZW K V y.1 y.2.1 y.2.2.1 y.2.2.2.1 y.2.2.2.2.1) g
def F127 (g:prodL L127) (K:Kn):Prop:=
 bif decide (g.1.kind=1)then (
  K (.sl true .atm [(⟨⟨dz,g.2.1⟩,1,⟨dz,g.2.1⟩,g.1.typ,iz,(⟨#[]⟩:ByteArray),0,(⟨#[]⟩:ByteArray),(⟨#[]⟩:ByteArray),iz,iz,[]⟩:Atm)]) [])
 else (
  bif decide (g.1.kind=2)then (
   K (.sl true .atm [(⟨⟨dz,g.2.1⟩,2,g.1.file,0,g.1.parent,g.1.name,0,(⟨#[]⟩:ByteArray),(⟨#[]⟩:ByteArray),iz,iz,g.1.over⟩:Atm)]) [])
  else (
   bif decide (g.1.kind=3)then (
    K (.sl true .atm [(⟨⟨dz,g.2.1⟩,3,g.1.file,0,iz,(⟨#[]⟩:ByteArray),g.1.mode,(⟨#[]⟩:ByteArray),(⟨#[]⟩:ByteArray),iz,iz,g.1.over⟩:Atm)]) [])
   else (
    bif decide (g.1.kind=4)then (
     K (.sl true .atm [(⟨⟨dz,g.2.1⟩,4,g.1.file,0,iz,(⟨#[]⟩:ByteArray),0,g.1.data,(⟨#[]⟩:ByteArray),iz,iz,g.1.over⟩:Atm)]) [])
    else (
     bif decide (g.1.kind=6)then (
      K (.sl true .atm [(⟨⟨dz,g.2.1⟩,6,g.1.file,0,iz,(⟨#[]⟩:ByteArray),0,(⟨#[]⟩:ByteArray),(⟨#[]⟩:ByteArray),g.1.after,g.1.before,g.1.over⟩:Atm)]) [])
     else (
      bif decide (g.1.kind=7)then (
       K (.sl true .atm [(⟨⟨dz,g.2.1⟩,7,iz,0,iz,(⟨#[]⟩:ByteArray),0,(⟨#[]⟩:ByteArray),(⟨#[]⟩:ByteArray),iz,iz,g.1.over⟩:Atm)]) [])
      else (
       F127_L5 K (g.2.1,(g.1.lines.length:Int),0,g.1,[],())))))))
theorem F127_eq (g:prodL L127) (K X:Kn):F127 g K=qJ D (qk [] []) (qx []) H127 J127 141 [.tmp 4] (qz Tryz.f127) (argsT S127 L127 g) [] (settle0 K) X:=by kernel_rfl
theorem F127_ok (g:prodL L127) (K X:Kn) (h:F127 g K):FCalls Tryz.prog 127 (argsT S127 L127 g) [] K X:=
 FCalls.settle0 (qq qY (jq z8) qj rfl Tryz.func127 (c:=qz Tryz.f127) rfl Tryz.ntmps127 Tryz.results127 (by unfold qv;rw [Tryz.func127];kernel_rfl) (Nat.le_of_ble_eq_true (by kernel_rfl)) (c0:=0) (Eq.mp (F127_eq g K X) h))
end Go.Proofs.YtbglndogddddoaaGreatDoor
namespace Go.Proofs.YtbglndogddddoaaGreatDoor
open Go.RowKit
set_option maxRecDepth 100000
theorem w40 {n:Int} (h:0<=n/\n<=4398046511104):IntKind.i64.wrap n=n:=jO (by omega) (by omega)
abbrev KR (K:Kn):List Rfn->Prop:=fun l=>K (.sl false .ref l) []
theorem Yh {c:Chg} {out:List Rfn} {K:Kn} (hl:c.over.length<=4194304) (ho:out.length<=16) (h:KR K (out++qqK c)):X5 K c out:=by
 unfold X5 F46_L20
 refine qQ.map c.over (fun x=>(⟨x,Fd.sup c⟩:Rfn)) (fun n o=>(c,c.over,(c.over.length:Int),n,out++o,())) (by omega) (by rw [List.append_nil]) (fun W n hn o hlen hW=> ?_) fun W=> ?_
 . show ZR K W c c.over c.over.length n (out++o)
   unfold ZR
   rw [qt hn,cond_true]
   refine qE hn ?_
   rw [<- List.append_assoc] at hW
   exact ⟨by simp only [List.length_singleton,List.length_append,hlen];omega,hW⟩
 . show ZR K W c c.over c.over.length c.over.length (out++c.over.map fun x=>(⟨x,Fd.sup c⟩:Rfn))
   unfold ZR
   rw [qm,cond_false];exact h
theorem F46_J17_is {c:Chg} {t:Bool} {out:List Rfn} {K:Kn} (hl:c.over.length<=4194304) (ho:out.length<=8) (h:KR K (rL17 c t out)):ZU K c t out:=by
 unfold ZU
 unfold rL17 at h
 cases t
 . exact Yh hl (by omega) h
 . refine ⟨by simp only [List.length_singleton];omega,by simp only [List.length_singleton,List.length_append];omega,Yh hl (by simp only [List.length_singleton,List.length_append];omega) h⟩
theorem Wm {c:Chg} {out:List Rfn} {K:Kn} (hl:c.over.length<=4194304) (ho:out.length<=8) (h:KR K (rL24 c out)):qqC K c out:=
 xF (J:=fun b=>ZU K c b out) (f:=fun b=>rL17 c b out) (K:=KR K) (fun _ h=>F46_J17_is hl ho h) h
theorem VH {c:Chg} {t:Bool} {out:List Rfn} {K:Kn} (hl:c.over.length<=4194304) (ho:out.length<=4) (h:KR K (rL12 c t out)):XH K c t out:=by
 unfold XH
 unfold rL12 at h
 cases t
 . exact Wm hl (by omega) h
 . exact ⟨by simp only [List.length_singleton];omega,Wm hl (by simp only [List.length_singleton,List.length_append];omega) h⟩
theorem yh {c:Chg} {out:List Rfn} {K:Kn} (hl:c.over.length<=4194304) (ho:out.length<=4) (h:KR K (rL25 c out)):kC K c out:=by
 unfold kC
 unfold rL25 at h
 cases e:decide (c.kind=2)
 . rw [e] at h;exact VH hl ho h
 . rw [e] at h;exact ⟨trivial,VH hl ho h⟩
theorem F46_J7_is {c:Chg} {t:Bool} {K:Kn} (hl:c.over.length<=4194304) (h:KR K (rL7 c t)):VW K c t:=by
 unfold VW
 unfold rL7 at h
 cases t
 . exact yh hl (Nat.le_of_ble_eq_true rfl) h
 . exact ⟨Nat.le_of_ble_eq_true rfl,yh hl (Nat.le_of_ble_eq_true rfl) h⟩
theorem F46_J8_is {c:Chg} {k:Int} {t:Bool} {K:Kn} (hl:c.over.length<=4194304) (h:KR K (rL8 c k t)):Ye K c k t:=by
 unfold Ye
 unfold rL8 at h
 cases t
 . rw [cond_false] at h ⊢
   cases e:decide (k=4)
   . rw [e] at h
     exact xF (J:=fun b=>VW K c b) (f:=fun b=>rL7 c b) (K:=KR K) (fun _ h=>F46_J7_is hl h) h
   . rw [e] at h
     exact ⟨Nat.le_of_ble_eq_true rfl,yh hl (Nat.le_of_ble_eq_true rfl) h⟩
 . exact ⟨Nat.le_of_ble_eq_true rfl,yh hl (Nat.le_of_ble_eq_true rfl) h⟩
theorem F46_is {c:Chg} {K:Kn} (hl:c.over.length<=4194304) (h:KR K (z7 c)):F46 (c,()) K:=
 xF (J:=fun b=>Ye K c c.kind b) (f:=fun b=>rL8 c c.kind b) (K:=KR K) (fun _ h=>F46_J8_is hl h) h
def sp46:Sp:=⟨S46,L46,fun g=>g.1.over.length<=4194304,fun g=> .sl false .ref (z7 g.1),fun _=>none⟩
theorem sp46_ok:sp46.Ok Tryz.prog 46 false:=
 ⟨fun g K X hp h=>F46_ok g K X (F46_is hp h),fun _ _ _=>rfl,fun _=>rfl,fun h=>(by cases h)⟩
abbrev KA (K:Kn):List Atm->Prop:=fun l=>K (.tu []) [some (.cells [.oa .atm 1 0]),some (.arr 0 .atm l)]
def frS (c:Chg) (n:Int):Nat->Idn
 | 0=>c.after
 | i+1=>tilI c n i
theorem frS_frm {c:Chg} {n:Int} {i:Nat} (h:i<=c.lines.length):frS c n i=frmI c n i:=by
 cases i with
 | zero=>rfl
 | succ i=>
  show tilI c n i=QE (n+i)
  unfold tilI
  rw [decide_eq_true (by omega),cond_true]
theorem lnI_at {c:Chg} {n:Int} {i:Nat} (h:i<c.lines.length):lnI c n i=lnA c (n+i) c.lines[i]:=by
 unfold lnI
 rw [List.getD_eq_getElem?_getD,xQ h];rfl
theorem leI {n m:Nat}:decide ((n:Int) < (m:Int))=decide (n<m):=by rw [decide_eq_decide];omega
theorem F84_L8_is {c:Chg} {n:Int} {own:List Atm} {K:Kn} (hp:preM c n) (hl:own.length<=16777216) (h:KA K (own++(Qx c n++egsL c n))):F84_L8 K (c,n,c.lines,(c.lines.length:Int),0,own,()):=by
 obtain ⟨hk,h1,h2,h3⟩:=hp
 unfold F84_L8
 refine qQ.mapN c.lines.length (lnI c n) (fun i out=>(c,n,c.lines,(c.lines.length:Int),(i:Int),own++out,())) (by rw [List.append_nil];rfl) (fun W i hi out ho hW=> ?_) fun W=> ?_
 . show Vm K W c n c.lines c.lines.length i (own++out)
   unfold Vm
   rw [qt hi,cond_true]
   refine qE hi ⟨trivial,by simp only [List.length_singleton,List.length_append,ho];omega, ?_⟩
   rw [<- List.append_assoc,lnI_at hi] at hW
   rw [zJ hi (by omega),w40 (by omega)]
   exact hW
 . show Vm K W c n c.lines c.lines.length c.lines.length (own++Qx c n)
   unfold Vm
   rw [qm,cond_false]
   unfold F84_L12
   have hlen:(own++Qx c n).length<=33554432:=by simp only [List.length_append,Qx,List.length_map,List.length_range];omega
   rw [<- List.append_assoc] at h
   generalize own++Qx c n=l at hlen h
   refine qQ.mapN (c.lines.length+1) (egI c n) (fun i out=>(c,n,(c.lines.length:Int),((c.lines.length+1:Nat):Int),(i:Int),l++out,frS c n i,())) (by rw [List.append_nil,w64 (by omega)];rfl) (fun W i hi out ho hW=> ?_) fun W=> ?_
   . show Jb K W c n c.lines.length ((c.lines.length+1:Nat):Int) i (l++out) (frS c n i)
     unfold Jb
     rw [qt hi,cond_true,leI]
     have hJ:VJ K W c n c.lines.length i ((c.lines.length+1:Nat):Int) i (l++out) (frS c n i) (tilI c n i):=by
      unfold VJ
      refine ⟨trivial,by simp only [List.length_singleton,List.length_append,ho];omega, ?_⟩
      rw [<- List.append_assoc] at hW
      rw [zJ hi (by omega),w40 (n:=(c.lines.length:Int)+(i:Int)) (by omega),w40 (by omega)]
      have e:egI c n i=⟨⟨dz,n+((c.lines.length:Int)+(i:Int))⟩,6,c.file,0,iz,⟨#[]⟩,0,⟨#[]⟩,⟨#[]⟩,frS c n i,tilI c n i,[]⟩:=by
       rw [frS_frm (by omega), <- Int.add_assoc];rfl
      rw [e] at hW
      exact hW
     unfold tilI at hJ
     by_cases hlt:i<c.lines.length
     . rw [decide_eq_true hlt] at hJ ⊢
       rw [cond_true,w40 (n:=n+(i:Int)) (by omega)]
       exact ⟨trivial,hJ⟩
     . rw [decide_eq_false hlt] at hJ ⊢
       exact hJ
   . show Jb K W c n c.lines.length ((c.lines.length+1:Nat):Int) ((c.lines.length+1:Nat):Int) (l++egsL c n) (frS c n (c.lines.length+1))
     unfold Jb
     rw [qm,cond_false]
     exact h
theorem F84_is {c:Chg} {n:Int} {own:List Atm} {K:Kn} (hp:preM c n) (hl:own.length<=16777216) (h:KA K (own++j4 c n)):F84 (n,c,own,()) K:=by
 have hp':=hp
 obtain ⟨hk,h1,h2,h3⟩:=hp'
 have hz:IntKind.i64.wrap (n+0)=n:=by rw [Int.add_zero,w40 (by omega)]
 have hr:(own.length+1)*296<=140737488355328:=by omega
 unfold F84
 dsimp only
 simp only [hz]
 obtain ⟨kind,file,typ,parent,name,mode,data,after,before,lines,over⟩:=c
 have hk1:(1:Int)<=kind/\kind<=7:=hk
 have:kind=1∨kind=2∨kind=3∨kind=4∨kind=5∨kind=6∨kind=7:=by omega
 rcases this with rfl | rfl | rfl | rfl | rfl | rfl | rfl
 . exact ⟨trivial,trivial,hr,h⟩
 . show True/\ql _ _ _
   exact ⟨trivial,hr,h⟩
 . show True/\ql _ _ _
   exact ⟨trivial,hr,h⟩
 . show True/\ql _ _ _
   exact ⟨trivial,hr,h⟩
 . exact F84_L8_is hp hl h
 . show True/\ql _ _ _
   exact ⟨trivial,hr,h⟩
 . show True/\ql _ _ _
   exact ⟨trivial,hr,h⟩
def rw84:Raw:=⟨S84,O84,L84,0,fun g K _=>pre84 g/\K (.tu []) [some (.cells [.oa .atm 1 0]),some (.arr 0 .atm (g.2.2.1++j4 g.2.1 g.1))]⟩
theorem rw84_ok:rw84.Ok Tryz.prog 84:=fun g K X h=>F84_ok g K X (F84_is h.1.1 h.1.2 h.2)
abbrev KL (K:Kn):List Atm->Prop:=fun l=>K (.sl false .atm l) []
theorem F127_L5_is {c:Chg} {n:Int} {K:Kn} (hp:preM c n) (h:KL K (Qx c n++egsL c n)):F127_L5 K (n,(c.lines.length:Int),0,c,[],()):=by
 obtain ⟨hk,h1,h2,h3⟩:=hp
 unfold F127_L5
 refine qQ.mapN c.lines.length (lnI c n) (fun i out=>(n,(c.lines.length:Int),(i:Int),c,out,())) rfl (fun W i hi out ho hW=> ?_) fun W=> ?_
 . show ZW K W n c.lines.length i c out
   unfold ZW
   rw [qt hi,cond_true]
   refine qE hi ⟨by simp only [List.length_singleton,ho];omega, ?_⟩
   rw [lnI_at hi] at hW
   rw [zJ hi (by omega),w40 (by omega)]
   exact hW
 . show ZW K W n c.lines.length c.lines.length c (Qx c n)
   unfold ZW
   rw [qm,cond_false]
   unfold F127_L8
   have hlen:(Qx c n).length<=33554432:=by simp only [Qx,List.length_map,List.length_range];omega
   generalize Qx c n=l at hlen h
   refine qQ.mapN (c.lines.length+1) (egI c n) (fun i out=>(n,(c.lines.length:Int),(i:Int),c,l++out,())) (by rw [List.append_nil];rfl) (fun W i hi out ho hW=> ?_) fun W=> ?_
   . show JW K W n c.lines.length i c (l++out)
     unfold JW
     rw [decide_eq_true (show (i:Int)<=(c.lines.length:Int)by omega),cond_true]
     rw [<- List.append_assoc] at hW
     have hJ: ∀f,f=frmI c n i->JV K W n c.lines.length i c (l++out) ⟨⟨dz,n+c.lines.length+i⟩,6,c.file,0,iz,⟨#[]⟩,0,⟨#[]⟩,⟨#[]⟩,f,c.before,[]⟩:=by
      rintro f rfl
      have hJ11:ZP K W n c.lines.length i c (l++out) (egI c n i):=by
       unfold ZP
       refine ⟨by simp only [List.length_singleton,List.length_append,ho];omega, ?_⟩
       rw [zJ hi (by omega)]
       exact hW
      unfold egI tilI at hJ11
      unfold JV
      rw [leI]
      by_cases hlt:i<c.lines.length
      . rw [decide_eq_true hlt] at hJ11 ⊢
        rw [cond_true,w40 (n:=n+(i:Int)) (by omega)]
        exact hJ11
      . rw [decide_eq_false hlt] at hJ11 ⊢
        exact hJ11
     rw [w40 (n:=n+(c.lines.length:Int)) (by omega),w40 (n:=n+(c.lines.length:Int)+(i:Int)) (by omega)]
     cases i with
     | zero=>exact hJ _ rfl
     | succ i=>
      rw [posI (show 0<i+1 by omega),cond_true]
      refine hJ _ ?_
      rw [w40 (n:=n+((i+1:Nat):Int)) (by omega),w40 (by omega)]
      show (⟨dz,n+((i+1:Nat):Int) - 1⟩:Idn)=⟨dz,n+(i:Int)⟩
      rw [show n+((i+1:Nat):Int) - 1=n+(i:Int)by omega]
   . show JW K W n c.lines.length ((c.lines.length+1:Nat):Int) c (l++egsL c n)
     unfold JW
     rw [decide_eq_false (by omega),cond_false]
     exact h
theorem F127_is {c:Chg} {n:Int} {K:Kn} (hp:preM c n) (h:KL K (j4 c n)):F127 (c,n,()) (xw K):=by
 have hk:=hp.1
 have hK: ∀l,KL K l->KL (xw K) l:=fun l h=>xw.same h
 unfold F127
 obtain ⟨kind,file,typ,parent,name,mode,data,after,before,lines,over⟩:=c
 have hk1:(1:Int)<=kind/\kind<=7:=hk
 have:kind=1∨kind=2∨kind=3∨kind=4∨kind=5∨kind=6∨kind=7:=by omega
 rcases this with rfl | rfl | rfl | rfl | rfl | rfl | rfl
 . exact xw.sl h
 . exact xw.sl h
 . exact xw.sl h
 . exact xw.sl h
 . exact F127_L5_is hp (hK _ h)
 . exact xw.sl h
 . exact xw.sl h
def sp127:Sp:=⟨S127,L127,fun g=>preM g.1 g.2.1,fun g=> .sl false .atm (j4 g.1 g.2.1),fun _=>none⟩
theorem sp127_ok:sp127.Ok Tryz.prog 127 false:=
 ⟨fun g K X hp h=>FCalls.weak (F127_ok g (xw K) X (F127_is hp h)),fun _ _ _=>rfl,fun _=>rfl,fun h=>(by cases h)⟩
end Go.Proofs.YtbglndogddddoaaGreatDoor
namespace Go.Proofs.YtbglndogddddoaaGreatDoor
open Go.RowKit
attribute [local irreducible] qJ qd
set_option maxRecDepth 100000
def H69:List (Nat×Hint):=[(2,⟨[((2,[]),none)],[(1, .leaf),(2, .pt 0 0),(8, .leaf),(9, .leaf),(10, .leaf)],[.el],[.sl .atm, .sl .ref, .int .i64, .int .i64, .el .chg]⟩)]
def J69:List (Nat×Hint):=[(6,⟨[((2,[]),none),((6,[]),none)],[(1, .leaf),(2, .pt 0 0),(6, .pt 1 0),(8, .leaf),(9, .leaf),(10, .leaf),(14, .leaf)],[.el, .el],[.sl .atm, .sl .ref, .int .i64, .int .i64, .bool, .el .chg, .el .ref]⟩),(7,⟨[((2,[]),none),((6,[]),none)],[(1, .leaf),(2, .pt 0 0),(6, .pt 1 0),(8, .leaf),(9, .leaf),(10, .leaf),(14, .leaf)],[.el, .el],[.sl .atm, .sl .ref, .int .i64, .int .i64, .bool, .el .chg, .el .ref]⟩),(9,⟨[((2,[]),none)],[(1, .leaf),(2, .pt 0 0),(8, .leaf),(9, .leaf),(10, .leaf),(34, .leaf)],[.el],[.sl .atm, .sl .ref, .int .i64, .int .i64, .bool, .el .chg]⟩),(12,⟨[((2,[]),none)],[(2, .pt 0 0),(51, .leaf)],[.el],[.bool, .el .chg]⟩),(14,⟨[((2,[]),none)],[(2, .pt 0 0),(62, .leaf)],[.el],[.bool, .el .chg]⟩),(15,⟨[],[(62, .leaf)],[],[.bool]⟩)]
abbrev S69:List Sh:=[.leaf, .leaf]
abbrev L69:List Lf:=[.el .chg, .sl .atm]
def vq (K:Kn) (W2:prodL [.sl .atm, .sl .ref, .int .i64, .int .i64, .el .chg]->Prop) (atoms_10:List Atm) (t_10:List Rfn) (t2_10 t3_10:Int) (t4_10:Bool) (c_10:Chg):Prop:=
 bif t4_10 then (
   K (.int .i64 8) [])
  else (
   W2 (atoms_10,t_10,t2_10,IntKind.i64.wrap (t3_10+1),c_10,()))
def Z9 (K:Kn) (W2:prodL [.sl .atm, .sl .ref, .int .i64, .int .i64, .el .chg]->Prop) (atoms_6:List Atm) (t_6:List Rfn) (t2_6 t3_6:Int) (t4_6:Bool) (c_6:Chg) (r_6:Rfn):Prop:=
 bif t4_6 then (
  K (.int .i64 7) [])
 else (
  True/\
  bif Qg r_6.id then (
   At atoms_6 r_6.id.n fun u7=>
   fdGo r_6.fits (
    True/\
    vq K W2 atoms_6 t_6 t2_6 t3_6 (!(decide (u7.kind=1))) c_6)
   (
    True/\
    vq K W2 atoms_6 t_6 t2_6 t3_6 (!(fitDa u7)) c_6)
   (
    True/\
    vq K W2 atoms_6 t_6 t2_6 t3_6 (!(fitTx u7)) c_6)
   (
    True/\
    vq K W2 atoms_6 t_6 t2_6 t3_6 (!(fitDi u7)) c_6)
   (fun c8=>
    True/\
    vq K W2 atoms_6 t_6 t2_6 t3_6 (!(WE u7 c8)) c_6)
   (fun c9=>
    True/\
    vq K W2 atoms_6 t_6 t2_6 t3_6 (!(Yg u7 c9)) c_6))
  else (
   vq K W2 atoms_6 t_6 t2_6 t3_6 false c_6))
def qqR (K:Kn) (W2:prodL [.sl .atm, .sl .ref, .int .i64, .int .i64, .el .chg]->Prop) (atoms_4:List Atm) (t_4:List Rfn) (t2_4 t3_4:Int) (t4_4:Bool) (c_4:Chg) (r_4:Rfn):Prop:=
 bif t4_4 then (
   Z9 K W2 atoms_4 t_4 t2_4 t3_4 true c_4 r_4)
  else (
   Z9 K W2 atoms_4 t_4 t2_4 t3_4 (decide (100000<=r_4.id.n)) c_4 r_4)
def yJ (K:Kn) (t_16:Bool):Prop:=
 bif t_16 then (
   K (.int .i64 1) [])
  else (
   K (.int .i64 0) [])
def Jf (K:Kn) (t_14:Bool) (c_14:Chg):Prop:=
 bif t_14 then (
   yJ K true)
  else (
   bif decide (c_14.kind=5)then (
    bif qs c_14.after c_14.before then (
     yJ K (!(qs c_14.after c_14.file)))
    else (
     yJ K false))
   else (
    yJ K false))
def yZ (K:Kn) (t_13:Bool) (c_13:Chg):Prop:=
 bif t_13 then (
  K (.int .i64 20) [])
 else (
  bif decide (c_13.kind=6)then (
   Jf K (qs c_13.after c_13.before) c_13)
  else (
   Jf K false c_13))
def WJ (K:Kn) (W2:prodL [.sl .atm, .sl .ref, .int .i64, .int .i64, .el .chg]->Prop) (atoms_1:List Atm) (t_1:List Rfn) (t2_1 t3_1:Int) (c_1:Chg):Prop:=
 bif decide (t3_1<t2_1)then (
  At t_1 t3_1 fun u3=>
 bif decide (u3.id.n<0)then (
  Z9 K W2 atoms_1 t_1 t2_1 t3_1 true c_1 u3)
 else (
  True/\
  bif Qg u3.id then (
   qqR K W2 atoms_1 t_1 t2_1 t3_1 (decide ((atoms_1.length:Int)<=u3.id.n)) c_1 u3)
  else (
   qqR K W2 atoms_1 t_1 t2_1 t3_1 false c_1 u3)))
 else (
  bif decide (c_1.kind=2)then (
  yZ K (qs c_1.parent c_1.file) c_1)
 else (
  yZ K false c_1))
def F69_L2 (K:Kn) (g:prodL [.sl .atm, .sl .ref, .int .i64, .int .i64, .el .chg]):Prop:=
 qQ (γ:=prodL [.sl .atm, .sl .ref, .int .i64, .int .i64, .el .chg]) (fun V y=>WJ K V y.1 y.2.1 y.2.2.1 y.2.2.2.1 y.2.2.2.2.1) g
def F69 (g:prodL L69) (K:Kn):Prop:=
 sp46.pre (g.1,())/\
 F69_L2 K (g.2.1,z7 g.1,(((z7 g.1).length:Nat):Int),0,g.1,())
theorem F69_eq (g:prodL L69) (K X:Kn):F69 g K=qJ D (qk [] [(46,false,sp46),(47,true,sp47),(89,false,sp89),(90,true,sp90),(91,true,sp91),(92,true,sp92),(93,true,sp93),(94,true,sp94)]) (qx []) H69 J69 90 [.tmp 4] (qz Tryz.f69) (argsT S69 L69 g) [] (settle0 K) X:=by kernel_rfl
theorem F69_ok (g:prodL L69) (K X:Kn) (h:F69 g K):FCalls Tryz.prog 69 (argsT S69 L69 g) [] K X:=
 FCalls.settle0 (qq qY (jq (zq sp46_ok (zq qqn (zq sp89_ok (zq sp90_ok (zq sp91_ok (zq sp92_ok (zq sp93_ok (zq sp94_ok z8))))))))) qj rfl Tryz.func69 (c:=qz Tryz.f69) rfl Tryz.ntmps69 Tryz.results69 (by unfold qv;rw [Tryz.func69];kernel_rfl) (Nat.le_of_ble_eq_true (by kernel_rfl)) (c0:=0) (Eq.mp (F69_eq g K X) h))
end Go.Proofs.YtbglndogddddoaaGreatDoor
namespace Go.Proofs.YtbglndogddddoaaGreatDoor
open Go.RowKit
set_option maxRecDepth 100000
def kY (own:List Atm) (b:Bool) (r:Rfn):Int:=bif b then 7 else bif (bif Qg r.id then !(fitFd r.fits (own.getD r.id.n.toNat az))else false)then 8 else 0
theorem Qs {K:Kn} {W:prodL [.sl .atm, .sl .ref, .int .i64, .int .i64, .el .chg]->Prop} {own:List Atm} {l:List Rfn} {m n:Int} {b:Bool} {c:Chg} {r:Rfn}
  (hb:b=false->Qg r.id=true->0<=r.id.n/\r.id.n< (own.length:Int)) (h0:kY own b r=0->W (own,l,m,IntKind.i64.wrap (n+1),c,())) (h1:kY own b r≠0->KI K (kY own b r)):Z9 K W own l m n b c r:=by
 unfold Z9
 cases b
 rotate_left
 . exact h1 (show (7:Int)≠0 by decide)
 refine ⟨trivial, ?_⟩
 have hJ: ∀t:Bool,((bif t then (8:Int)else 0)=0->W (own,l,m,IntKind.i64.wrap (n+1),c,()))->((bif t then (8:Int)else 0)≠0->KI K (bif t then 8 else 0))->vq K W own l m n t c:=by
  intro t h0 h1
  unfold vq
  cases t
  . exact h0 rfl
  . exact h1 (show (8:Int)≠0 by decide)
 unfold kY at h0 h1
 rw [cond_false] at h0 h1
 cases e:Qg r.id
 . rw [e] at h0 h1
   exact hJ false h0 h1
 . rw [e] at h0 h1
   rw [cond_true] at h0 h1 ⊢
   obtain ⟨n0,n1⟩:=hb rfl e
   have hn:r.id.n.toNat<own.length:=by omega
   rw [List.getD_eq_getElem?_getD,xQ hn] at h0 h1
   refine ⟨n0,own[r.id.n.toNat],xQ hn, ?_⟩
   obtain ⟨id,fits⟩:=r
   cases fits with
   | file=>exact ⟨trivial,hJ _ h0 h1⟩
   | data=>exact ⟨trivial,hJ _ h0 h1⟩
   | txt=>exact ⟨trivial,hJ _ h0 h1⟩
   | dir=>exact ⟨trivial,hJ _ h0 h1⟩
   | fin c=>exact ⟨trivial,hJ _ h0 h1⟩
   | sup c=>exact ⟨trivial,hJ _ h0 h1⟩
theorem F69_J18_is {c:Chg} {K:Kn} (h:KI K (Zd c)):(bif decide (c.kind=2)then yZ K (qs c.parent c.file) c else yZ K false c):=by
 have h17: ∀b:Bool,KI K (bif b then 1 else 0)->yJ K b:=fun b=>by unfold yJ;exact qI (K:=KI K) id id
 have h15: ∀b,KI K (ZV b c)->Jf K b c:=by
  intro b h
  unfold Jf
  unfold ZV at h
  cases b
  rotate_left
  . exact h17 true h
  rw [cond_false] at h ⊢
  cases e1:decide (c.kind=5)
  . rw [e1] at h;exact h17 false h
  . rw [e1] at h
    exact xF (J:=yJ K) (f:=fun b:Bool=>bif b then (1:Int)else 0) (K:=KI K) h17 h
 have h18: ∀b,KI K (Zh b c)->yZ K b c:=by
  intro b h
  unfold yZ
  unfold Zh at h
  cases b
  rotate_left
  . exact h
  exact xF (J:=fun b=>Jf K b c) (f:=fun b=>ZV b c) (K:=KI K) h15 h
 exact xF (J:=fun b=>yZ K b c) (f:=fun b=>Zh b c) (K:=KI K) h18 h
theorem refsC_len {c:Chg} (hl:c.over.length<=4194304):(z7 c).length<=4194400:=by
 have hs:(qqK c).length=c.over.length:=by simp [qqK]
 have h17: ∀t out,(rL17 c t out).length<=out.length+2+c.over.length:=fun t out=>by
  unfold rL17;cases t<;>simp only [cond_true,cond_false,List.length_append,hs,List.length_singleton]<;>omega
 have h12: ∀t out,(rL12 c t out).length<=out.length+3+c.over.length:=fun t out=>by
  unfold rL12;cases t
  . have:=h17 (bif decide (c.kind=5)then true else decide (c.kind=6)) out;simp only [cond_false,rL24];omega
  . have:=h17 (bif decide (c.kind=5)then true else decide (c.kind=6)) (out++[⟨c.parent,Fd.dir⟩]);simp only [cond_true,rL24,List.length_append,List.length_singleton] at this ⊢;omega
 have h25: ∀out,(rL25 c out).length<=out.length+3+c.over.length:=fun out=>h12 _ _
 have h7: ∀t,(rL7 c t).length<=4+c.over.length:=fun t=>by
  unfold rL7;cases t
  . have:=h25 [];simp only [cond_false,List.length_nil] at this ⊢;omega
  . have:=h25 [⟨c.file,Fd.txt⟩];simp only [cond_true,List.length_singleton] at this ⊢;omega
 have h8: ∀k t,(rL8 c k t).length<=4+c.over.length:=fun k t=>by
  unfold rL8;cases t
  . rw [cond_false]
    cases decide (k=4)
    . exact h7 _
    . have:=h25 [⟨c.file,Fd.data⟩];simp only [cond_true,List.length_singleton] at this ⊢;omega
  . have:=h25 [⟨c.file,Fd.file⟩];simp only [cond_true,List.length_singleton] at this ⊢;omega
 have:=h8 c.kind (bif decide (c.kind=2)then true else decide (c.kind=3))
 unfold z7
 omega
theorem F69_is {c:Chg} {own:List Atm} {K:Kn} (hl:c.over.length<=4194304) (h:KI K (ka c own)):F69 (c,own,()) K:=by
 unfold F69
 refine ⟨hl, ?_⟩
 have hN:=refsC_len hl
 unfold F69_L2
 unfold ka at h
 have hlen:((z7 c).map (yE own)).length=(z7 c).length:=by simp
 refine qQ.errs ((z7 c).map (yE own)) (fun n=>(own,z7 c,(((z7 c).length:Nat):Int),(n:Int),c,())) (fun e=>KI K (bif !decide (e=0)then e else Zd c)) h rfl (fun W n hn h0 h1=> ?_) fun h W=> ?_
 . rw [hlen] at hn
   show WJ K W own (z7 c) (z7 c).length n c
   unfold WJ
   rw [qt hn,cond_true]
   refine qE hn ?_
   simp only [List.getElem_map] at h0 h1
   generalize (z7 c)[n]=r at h0 h1 ⊢
   rw [<- zJ hn (by omega)] at h0
   have h1:yE own r≠0->KI K (yE own r):=fun z=>by
    have:=h1 z
    rw [decide_eq_false z] at this;exact this
   unfold yE at h0 h1
   cases e1:decide (r.id.n<0)
   . rw [e1] at h0 h1
     rw [cond_false] at h0 h1 ⊢
     have hn0:0<=r.id.n:=by have:=of_decide_eq_false e1;omega
     refine ⟨trivial, ?_⟩
     have h5: ∀b,(b=false->Qg r.id=true->r.id.n< (own.length:Int))->(kY own (bif b then true else decide (100000<=r.id.n)) r=0->W (own,z7 c,(((z7 c).length:Nat):Int),IntKind.i64.wrap ((n:Int)+1),c,()))->(kY own (bif b then true else decide (100000<=r.id.n)) r≠0->KI K (kY own (bif b then true else decide (100000<=r.id.n)) r))->qqR K W own (z7 c) (((z7 c).length:Nat):Int) n b c r:=by
      intro b hb h0 h1
      unfold qqR
      cases b
      . exact Qs (fun _ e=>⟨hn0,hb rfl e⟩) h0 h1
      . exact Qs (fun e=>by cases e) h0 h1
     cases e2:Qg r.id
     . rw [e2] at h0 h1
       refine h5 false (fun _ e=>by rw [e2] at e;cases e) ?_ ?_
       . unfold kY;rw [e2];exact h0
       . unfold kY;rw [e2];exact h1
     . rw [e2] at h0 h1
       refine h5 _ (fun e _=>by have:=of_decide_eq_false e;omega) ?_ ?_
       . unfold kY;rw [e2];exact h0
       . unfold kY;rw [e2];exact h1
   . rw [e1] at h0 h1
     exact Qs (fun e=>by cases e) h0 h1
 . rw [hlen]
   show WJ K W own (z7 c) (z7 c).length (z7 c).length c
   unfold WJ
   rw [qm,cond_false]
   exact F69_J18_is h
def sp69:Sp:=⟨S69,L69,fun g=>g.1.over.length<=4194304,fun g=> .int .i64 (ka g.1 g.2.1),fun _=>none⟩
theorem sp69_ok:sp69.Ok Tryz.prog 69 true:=
 ⟨fun g K X hp h=>F69_ok g K X (F69_is hp h),fun _ _ _=>rfl,fun _=>rfl,fun _ _=>⟨rfl,rfl⟩⟩
end Go.Proofs.YtbglndogddddoaaGreatDoor
namespace Go.Proofs.YtbglndogddddoaaGreatDoor
open Go.RowKit
attribute [local irreducible] qJ qd
set_option maxRecDepth 100000
def H36:List (Nat×Hint):=[(6,⟨[((1,[]),none),((6,[]),none),((6,[0]),some .atm)],[(1, .pt 0 0),(6, .pt 1 0),(20, .leaf),(21, .leaf),(22, .leaf)],[.cells [.leaf, .leaf, .leaf, .leaf, .leaf], .cells [.oa .atm 2], .arr .atm],[.sl .chg, .int .i64, .int .i64, .str, .str, .int .i64, .sl .dig, .sl .chg, .sl .atm]⟩)]
def J36:List (Nat×Hint):=[(20,⟨[((6,[]),none),((6,[0]),none)],[(6, .pt 0 0),(12, .leaf),(58, .leaf)],[.cells [.oa .atm 1], .arr .atm],[.str, .bool, .sl .atm]⟩)]
abbrev S36:List Sh:=[.ag [.leaf, .leaf, .leaf, .leaf, .leaf]]
abbrev L36:List Lf:=[.str, .str, .int .i64, .sl .dig, .sl .chg]
abbrev O36:List ObSh:=[]
def V4 (K:Kn) (s_4:ByteArray) (t_4:Bool) (atoms_4:List Atm):Prop:=
 bif t_4 then (
  K (.tu [.nil, .str (⟨#[]⟩:ByteArray), .int .i64 4]) [])
 else (
  K (.tu [.oa .atm 0 0, .str s_4, .int .i64 0]) [some (.arr 0 .atm atoms_4)])
def V0 (K:Kn) (W2:prodL [.sl .chg, .int .i64, .int .i64, .str, .str, .int .i64, .sl .dig, .sl .chg, .sl .atm]->Prop) (t_1:List Chg) (t2_1 t3_1:Int) (p1_1 p2_1:ByteArray) (p3_1:Int) (p4_1:List Dig) (p5_1:List Chg) (atoms_1:List Atm):Prop:=
 bif decide (t3_1<t2_1)then (
  At t_1 t3_1 fun u3=>
 sp68.pre (u3,())/\
 bif !decide (zo u3=0)then (
  K (.tu [.nil, .str (⟨#[]⟩:ByteArray), .int .i64 (zo u3)]) [])
 else (
  sp69.pre (u3,atoms_1,())/\
 bif !decide (ka u3 atoms_1=0)then (
  K (.tu [.nil, .str (⟨#[]⟩:ByteArray), .int .i64 (ka u3 atoms_1)]) [])
 else (
  True/\
 pre84 ((atoms_1.length:Int),u3,atoms_1,())/\
 W2 (t_1,t2_1,IntKind.i64.wrap (t3_1+1),p1_1,p2_1,p3_1,p4_1,p5_1,atoms_1++j4 u3 (atoms_1.length:Int),()))))
 else (
  sp70.pre (p1_1,p2_1,p3_1,p4_1,p5_1,())/\
 bif !decide ((xi (zu p1_1 p2_1 p3_1 (jS p4_1) p5_1)).2=0)then (
  V4 K ((xi (zu p1_1 p2_1 p3_1 (jS p4_1) p5_1)).1) true atoms_1)
 else (
  V4 K ((xi (zu p1_1 p2_1 p3_1 (jS p4_1) p5_1)).1) (decide (65536< (((xi (zu p1_1 p2_1 p3_1 (jS p4_1) p5_1)).1).size:Int))) atoms_1))
def F36_L2 (K:Kn) (g:prodL [.sl .chg, .int .i64, .int .i64, .str, .str, .int .i64, .sl .dig, .sl .chg, .sl .atm]):Prop:=
 qQ (γ:=prodL [.sl .chg, .int .i64, .int .i64, .str, .str, .int .i64, .sl .dig, .sl .chg, .sl .atm]) (fun V y=>V0 K V y.1 y.2.1 y.2.2.1 y.2.2.2.1 y.2.2.2.2.1 y.2.2.2.2.2.1 y.2.2.2.2.2.2.1 y.2.2.2.2.2.2.2.1 y.2.2.2.2.2.2.2.2.1) g
def F36 (g:prodL L36) (K:Kn):Prop:=
 sp67.pre (g.1,g.2.1,g.2.2.1,g.2.2.2.1,g.2.2.2.2.1,())/\
 bif !decide (zP zG g.1 g.2.1 g.2.2.1 g.2.2.2.1 g.2.2.2.2.1=0)then (
  K (.tu [.nil, .str (⟨#[]⟩:ByteArray), .int .i64 (zP zG g.1 g.2.1 g.2.2.1 g.2.2.2.1 g.2.2.2.2.1)]) [])
 else (
  F36_L2 K (g.2.2.2.2.1,(g.2.2.2.2.1.length:Int),0,g.1,g.2.1,g.2.2.1,g.2.2.2.1,g.2.2.2.2.1,[],()))
theorem F36_eq (g:prodL L36) (K X:Kn):F36 g K=qJ D (qk [(84,rw84)] [(43,false,sp43),(67,true,sp67),(68,true,sp68),(69,true,sp69),(70,true,sp70)]) (qx [(84,rw84)]) H36 J36 61 [.tmp 2, .tmp 3, .tmp 4] (qz Tryz.f36) (argsT S36 L36 g) (qg S36 O36 L36 g) (settleD (qg S36 O36 L36 g).length 0 K) X 0 1036000:=by kernel_rfl
theorem F36_ok (g:prodL L36) (K X:Kn) (h:F36 g K):FCalls Tryz.prog 36 (argsT S36 L36 g) (qg S36 O36 L36 g) K X 0:=
 FCalls.settleD (qq (Γ:=qk [(84,rw84)] [(43,false,sp43),(67,true,sp67),(68,true,sp68),(69,true,sp69),(70,true,sp70)]) (mu:=qx [(84,rw84)]) (H:=H36) (J:=J36) qY (qV (rs:=[(84,rw84)]) (l:=[(43,false,sp43),(67,true,sp67),(68,true,sp68),(69,true,sp69),(70,true,sp70)]) (by intro p hp;simp only [List.mem_cons,List.not_mem_nil,or_false] at hp;subst hp;exact rw84_ok) (by intro p hp;simp only [List.mem_cons,List.not_mem_nil,or_false] at hp;rcases hp with rfl | rfl | rfl | rfl | rfl<;>first | exact sp43_ok | exact sp67_ok | exact sp68_ok | exact sp69_ok | exact sp70_ok)) qj rfl Tryz.func36 (c:=qz Tryz.f36) rfl Tryz.ntmps36 (rs:=[.tmp 2, .tmp 3, .tmp 4]) Tryz.results36 (by unfold qv;rw [Tryz.func36];kernel_rfl) (Nat.le_of_ble_eq_true (by kernel_rfl)) (X:=X) (c0:=0) (Eq.mp (F36_eq g K X) h) (Xu [16] (by kernel_rfl) (by kernel_rfl)))
def H73:List (Nat×Hint):=[(3,⟨[((4,[]),some .atm)],[(0, .leaf),(4, .oa .atm 0),(5, .leaf)],[.arr .atm],[.sl .chg, .int .i64, .sl .atm]⟩)]
def J73:List (Nat×Hint):=[]
abbrev S73:List Sh:=[.leaf]
abbrev L73:List Lf:=[.sl .chg]
def Yj (K:Kn) (W7:prodL [.sl .chg, .int .i64, .sl .atm]->Prop) (l_6:List Chg) (i_6:Int) (own_6:List Atm):Prop:=
 bif decide (i_6< (l_6.length:Int))then (
  At l_6 i_6 fun u8=>
 sp125.pre (u8,())/\
 bif !decide (jH u8=0)then (
  K (.tu [.nil, .int .i64 (jH u8)]) [])
 else (
  At l_6 i_6 fun u9=>
 sp126.pre (u9,own_6,())/\
 bif !decide (QZ u9 own_6=0)then (
  K (.tu [.nil, .int .i64 (QZ u9 own_6)]) [])
 else (
  At l_6 i_6 fun u10=>
 sp127.pre (u10,(own_6.length:Int),())/\
 ql (own_6.length+(j4 u10 (own_6.length:Int)).length) 296 (
 W7 (l_6,IntKind.i64.wrap (i_6+1),own_6++(j4 u10 (own_6.length:Int)),())))))
 else (
  K (.tu [.sl false .atm own_6, .int .i64 0]) [])
def F73_L7 (K:Kn) (g:prodL [.sl .chg, .int .i64, .sl .atm]):Prop:=
 qQ (γ:=prodL [.sl .chg, .int .i64, .sl .atm]) (fun V y=>Yj K V y.1 y.2.1 y.2.2.1) g
def F73 (g:prodL L73) (K:Kn):Prop:=
 F73_L7 K (g.1,0,[],())
theorem F73_eq (g:prodL L73) (K X:Kn):F73 g K=qJ D (qk [] [(125,true,sp125),(126,true,sp126),(127,false,sp127)]) (qx []) H73 J73 42 [.tmp 2, .tmp 3] (qz Tryz.f73) (argsT S73 L73 g) [] (settle0 K) X:=by kernel_rfl
theorem F73_ok (g:prodL L73) (K X:Kn) (h:F73 g K):FCalls Tryz.prog 73 (argsT S73 L73 g) [] K X:=
 FCalls.settle0 (qq qY (jq (zq sp125_ok (zq sp126_ok (zq sp127_ok z8)))) qj rfl Tryz.func73 (c:=qz Tryz.f73) rfl Tryz.ntmps73 Tryz.results73 (by unfold qv;rw [Tryz.func73];kernel_rfl) (Nat.le_of_ble_eq_true (by kernel_rfl)) (c0:=0) (Eq.mp (F73_eq g K X) h))
end Go.Proofs.YtbglndogddddoaaGreatDoor
namespace Go.Proofs.YtbglndogddddoaaGreatDoor
open Go.RowKit
set_option maxRecDepth 100000
def virtU (e0:El) (K:Kn):Kn:=fun r s=>match r with
 | .tu (.nil::us)=>K (.tu (.oa e0 s.length 0::us)) (jZ s e0)
 | r=>K r s
theorem FCalls.virtU {P:Program} {f:FuncId} {vs:List T} {K X:Kn} {e0:El} (h:FCalls P f vs [] (virtU e0 K) X):FCalls P f vs [] K X:=by
 refine fun g w hg=>(h g w hg).mono fun e w' ⟨g',st',h1,h2,h3⟩=> ?_
 cases e with
 | returned x=>
  obtain ⟨r,r1,r2⟩:=h3
  unfold Go.Proofs.YtbglndogddddoaaGreatDoor.virtU at r1
  split at r1
  . rename_i us
    obtain ⟨g2,k1,k2,k3,k4⟩:=Jl h1 e0
    refine ⟨g2,_,k1,h2.trans (k3 _),_,r1, ?_⟩
    cases r2 with
    | tu _ xs a1 a2=>
     refine .tu _ xs (by simpa using a1) fun i c x hc hx=> ?_
     cases i with
     | zero=>
      simp only [List.getElem?_cons_zero,Option.some.injEq] at hc
      subst hc
      exact k4 _ (a2 0 .nil x rfl hx)
     | succ i=>exact (a2 (i+1) c x hc hx).mono k2
  . exact ⟨g',st',h1,h2,_,r1,r2⟩
 | panicked ch=>exact ⟨g',st',h1,h2,h3⟩
 | outgrown=>exact h3.elim
theorem jB {K:Kn} {e:El} {v:T} {s:St} (h:K (.tu [.sl false e [],v]) s):xw K (.tu [.nil,v]) s:=
 ⟨_,zn.tu (qM.cons (zn.nil e) (qM.cons (zn.refl _) qM.nil)),h⟩
def QW (cs:List Chg) (n:Nat):List Atm:=(cs.take n).foldl (fun own c=>own++j4 c own.length) []
theorem Qm {cs:List Chg} {n:Nat} (h:n<cs.length):QW cs (n+1)=QW cs n++j4 cs[n] (QW cs n).length:=by
 unfold QW
 rw [jh h,List.foldl_append];rfl
theorem qQ.chgs {γ:Type} {body:(γ->Prop)->γ->Prop} {g:γ} (f:Chg->Int) (r:Chg->List Atm->Int) (cs:List Chg) (S:Nat->List Atm->γ) (Q:List Atm×Int->Prop) (hQ:Q (xB f r cs [])) (hg:g=S 0 [])
  (hk: ∀c,f c=0->jk c) (hb:(cs.map qr).sum<=4194304)
  (step: ∀(W:γ->Prop) (n:Nat) (h:n<cs.length) (own:List Atm),own.length<=8388608->(f cs[n]≠0->Q ([],f cs[n]))->(f cs[n]=0->r cs[n] own≠0->Q ([],r cs[n] own))->(f cs[n]=0->r cs[n] own=0->W (S (n+1) (own++j4 cs[n] own.length)))->body W (S n own))
  (last: ∀(W:γ->Prop) (own:List Atm),(∀c∈cs,jk c)->Q (own,0)->body W (S cs.length own)):qQ body g:=by
 have sums: ∀n,((cs.take n).map qr).sum<=(cs.map qr).sum:=fun n=>by
  have e:(cs.map qr).sum=((cs.take n).map qr).sum+((cs.drop n).map qr).sum:=by
   rw [<- List.sum_append, <- List.map_append,List.take_append_drop]
  omega
 refine qQ.countTo cs.length (fun n=>S n (QW cs n)) (fun n=>(QW cs n).length<=2*((cs.take n).map qr).sum/\(∀c∈cs.take n,jk c)/\Q (xB f r (cs.drop n) (QW cs n))) hg (fun n hn hp W hW=> ?_) ⟨by simp [QW],fun c hc=>by simp at hc,by simpa [QW] using hQ⟩
 obtain ⟨p1,p2,p3⟩:=hp
 have hs:=sums n
 by_cases hlt:n<cs.length
 . rw [List.drop_eq_getElem_cons hlt,xB] at p3
   refine step W n hlt _ (by omega) (fun z=> ?_) (fun z y=> ?_) fun z y=> ?_
   . rw [decide_eq_false z] at p3;exact p3
   . rw [decide_eq_true z,decide_eq_false y] at p3;exact p3
   . rw [decide_eq_true z,decide_eq_true y] at p3
     rw [<- Qm hlt]
     refine hW hlt ⟨?_,fun c hc=> ?_, ?_⟩
     . rw [Qm hlt,jh hlt,List.map_append,List.sum_append,List.length_append]
       have:=Vs (n:=((QW cs n).length:Int)) (hk _ z)
       simp only [List.map_cons,List.map_nil,List.sum_cons,List.sum_nil]
       omega
     . rw [jh hlt] at hc
       rcases List.mem_append.1 hc with hc | hc
       . exact p2 c hc
       . rw [List.mem_singleton.1 hc];exact hk _ z
     . rw [Qm hlt];exact p3
 . have:n=cs.length:=by omega
   subst this
   rw [List.drop_length] at p3
   rw [List.take_length] at p2
   exact last W _ p2 p3
abbrev K3 (K:Kn):List Atm×ByteArray×Int->Prop:=fun x=>K (.tu [.oa .atm 0 0, .str x.2.1, .int .i64 x.2.2]) [some (.arr 0 .atm x.1)]
theorem F36_is {a m:ByteArray} {t:Int} {ds:List Dig} {cs:List Chg} {K:Kn} (hp:xP a m t ds cs) (h:K3 K (xe a m t ds cs)):F36 (a,m,t,ds,cs,()) (virtU .atm K):=by
 obtain ⟨h1,h2,h3,h4,h5,h6⟩:=hp
 have hl:=JD h5
 unfold F36
 unfold xe at h
 refine ⟨Nat.le_trans h2 (by omega), ?_⟩
 show bif !decide (zP zG a m t ds cs=0)then _ else _
 by_cases z:zP zG a m t ds cs=0
 rotate_left
 . rw [decide_eq_false z] at h ⊢;exact h
 rw [decide_eq_true z] at h ⊢
 rw [Bool.not_true,cond_false] at h ⊢
 unfold F36_L2
 refine qQ.chgs zo ka cs (fun n own=>(cs,(cs.length:Int),(n:Int),a,m,t,ds,cs,own,())) (fun r=>K3 K (JZ r (xi (zu a m t (jS ds) cs)))) h rfl (fun c=>jG) h5 (fun W n hn own ho e1 e2 e3=> ?_) fun W own hk h=> ?_
 . show V0 (virtU .atm K) W cs cs.length n a m t ds cs own
   unfold V0
   rw [qt hn,cond_true]
   have hc:=Xz h5 (List.getElem_mem hn)
   have hpp:=zV hc
   refine qE hn ⟨hc, ?_⟩
   by_cases y:zo cs[n]=0
   rotate_left
   . have e1:=e1 y
     unfold JZ at e1
     rw [decide_eq_false y] at e1 ⊢;exact e1
   rw [decide_eq_true y,Bool.not_true,cond_false]
   refine ⟨hpp.2.2.2.2, ?_⟩
   by_cases x:ka cs[n] own=0
   rotate_left
   . have e2:=e2 y x
     unfold JZ at e2
     rw [decide_eq_false x] at e2 ⊢;exact e2
   rw [decide_eq_true x,Bool.not_true,cond_false]
   refine ⟨trivial,⟨⟨jG y,hpp.2.2.1,by omega,by show (own.length:Int)<=_;omega⟩,by show own.length<=_;omega⟩, ?_⟩
   rw [zJ hn (by omega)]
   exact e3 y x
 . show V0 (virtU .atm K) W cs cs.length cs.length a m t ds cs own
   unfold V0
   rw [qm,cond_false]
   refine ⟨⟨h1,h2,h3,h4,h5,fun c hc=>⟨h6 c hc,hk c hc⟩⟩, ?_⟩
   have hJ: ∀b,K3 K (exP5 own (xi (zu a m t (jS ds) cs)).1 b)->V4 (virtU .atm K) (xi (zu a m t (jS ds) cs)).1 b own:=by
    intro b h
    unfold V4
    cases b
    . exact h
    . exact h
   exact xF (J:=fun b=>V4 (virtU .atm K) (xi (zu a m t (jS ds) cs)).1 b own) (f:=fun b=>exP5 own (xi (zu a m t (jS ds) cs)).1 b) (K:=K3 K) hJ h
def Yp:Sp:=⟨S36,L36,fun g=>xP g.1 g.2.1 g.2.2.1 g.2.2.2.1 g.2.2.2.2.1,fun g=> .tu [.oa .atm 0 0, .str (xe g.1 g.2.1 g.2.2.1 g.2.2.2.1 g.2.2.2.2.1).2.1, .int .i64 (xe g.1 g.2.1 g.2.2.1 g.2.2.2.1 g.2.2.2.2.1).2.2],fun g=>some (.arr 0 .atm (xe g.1 g.2.1 g.2.2.1 g.2.2.2.1 g.2.2.2.2.1).1)⟩
theorem sp36_ok:Yp.Ok Tryz.prog 36 false:=
 ⟨fun g K X hp h=>FCalls.virtU (e0:= .atm) (F36_ok g (virtU .atm K) X (F36_is hp h)),fun _ _ _=>rfl,fun _=>rfl,fun h=>(by cases h)⟩
abbrev K2 (K:Kn):List Atm×Int->Prop:=fun x=>K (.tu [.sl false .atm x.1, .int .i64 x.2]) []
theorem F73_is {cs:List Chg} {K:Kn} (h5:(cs.map qr).sum<=4194304) (h:K2 K (yH cs)):F73 (cs,()) (xw K):=by
 have hl:=JD h5
 unfold F73 F73_L7
 refine qQ.chgs jH QZ cs (fun n own=>(cs,(n:Int),own,())) (K2 K) h rfl (fun c=>jI) h5 (fun W n hn own ho e1 e2 e3=> ?_) fun W own hk h=> ?_
 . show Yj (xw K) W cs n own
   unfold Yj
   rw [qt hn,cond_true]
   have hc:=Xz h5 (List.getElem_mem hn)
   have hpp:=zV hc
   refine qE hn ⟨hc, ?_⟩
   by_cases y:jH cs[n]=0
   rotate_left
   . have e1:=e1 y
     rw [decide_eq_false y];exact jB e1
   rw [decide_eq_true y,Bool.not_true,cond_false]
   refine qE hn ⟨hc, ?_⟩
   by_cases x:QZ cs[n] own=0
   rotate_left
   . have e2:=e2 y x
     rw [decide_eq_false x];exact jB e2
   rw [decide_eq_true x,Bool.not_true,cond_false]
   have hm:=Vs (n:=(own.length:Int)) (jI y)
   have hc':qr cs[n]<=4194304:=hc
   refine qE hn ⟨⟨jI y,hpp.2.2.1,Int.natCast_nonneg _,by show (own.length:Int)<=_;omega⟩,by omega, ?_⟩
   rw [zJ hn (by omega)]
   exact e3 y x
 . show Yj (xw K) W cs cs.length own
   unfold Yj
   rw [qm,cond_false]
   exact xw.same h
def sp73:Sp:=⟨S73,L73,fun g=>(g.1.map qr).sum<=4194304,fun g=> .tu [.sl false .atm (yH g.1).1, .int .i64 (yH g.1).2],fun _=>none⟩
theorem sp73_ok:sp73.Ok Tryz.prog 73 false:=
 ⟨fun g K X hp h=>FCalls.weak (F73_ok g (xw K) X (F73_is hp h)),fun _ _ _=>rfl,fun _=>rfl,fun h=>(by cases h)⟩
set_option maxRecDepth 100000
def vO (a m:ByteArray) (t:Int) (ds:List Dig) (cs:List Chg):ByteArray×Int:=bif !decide ((JQ a m t ds cs).2=0)then (⟨#[]⟩,(JQ a m t ds cs).2)else YD a m t ds cs
theorem chgsG_ok {f:Chg->Int} {r:Chg->List Atm->Int}: ∀{cs:List Chg} {own:List Atm},(xB f r cs own).2=0-> ∀c∈cs,f c=0
 | [],_,_=>fun c hc=>by cases hc
 | c::l,own,h=>by
  rw [xB] at h
  by_cases z:f c=0
  . rw [decide_eq_true z,Bool.not_true,cond_false] at h
    by_cases y:r c own=0
    . rw [decide_eq_true y,Bool.not_true,cond_false] at h
      intro d hd
      rcases List.mem_cons.1 hd with rfl | hd
      . exact z
      . exact chgsG_ok h d hd
    . rw [decide_eq_false y] at h;exact absurd h y
  . rw [decide_eq_false z] at h;exact absurd h z
theorem exP_ok {a m:ByteArray} {t:Int} {ds:List Dig} {cs:List Chg} (h:(xe a m t ds cs).2.2=0):zP zG a m t ds cs=0/\(QQ cs).2=0/\(xi (zu a m t (jS ds) cs)).2=0/\((xi (zu a m t (jS ds) cs)).1.size:Int)<=65536:=by
 unfold xe at h
 by_cases z:zP zG a m t ds cs=0
 rotate_left
 . rw [decide_eq_false z] at h;exact absurd h z
 rw [decide_eq_true z,Bool.not_true,cond_false] at h
 unfold JZ at h
 by_cases y:(QQ cs).2=0
 rotate_left
 . rw [decide_eq_false y] at h;exact absurd h y
 rw [decide_eq_true y,Bool.not_true,cond_false] at h
 unfold exP5 at h
 by_cases x:(xi (zu a m t (jS ds) cs)).2=0
 rotate_left
 . rw [decide_eq_false x] at h;exact absurd h (show (4:Int)≠0 by decide)
 rw [decide_eq_true x,Bool.not_true,cond_false] at h
 by_cases w:65536< ((xi (zu a m t (jS ds) cs)).1.size:Int)
 . rw [decide_eq_true w] at h;exact absurd h (show (4:Int)≠0 by decide)
 . exact ⟨z,y,x,by omega⟩
theorem exP_eq {a m:ByteArray} {t:Int} {ds:List Dig} {cs:List Chg} (h:(xe a m t ds cs).2.2=0):xe a m t ds cs=((QQ cs).1,(xi (zu a m t (jS ds) cs)).1,0):=by
 obtain ⟨h1,h2,h3,h4⟩:=exP_ok h
 unfold xe JZ exP5
 rw [decide_eq_true h1,decide_eq_true h2,decide_eq_true h3,decide_eq_false (show¬65536< ((xi (zu a m t (jS ds) cs)).1.size:Int)by omega)]
 rfl
theorem chkR_ok {a m:ByteArray} {t:Int} {ds:List Dig} {cs:List Chg} (h:(JQ a m t ds cs).2=0):zP ju a m t ds cs=0/\(yH cs).2=0:=by
 unfold JQ at h
 by_cases z:zP ju a m t ds cs=0
 . rw [decide_eq_true z,Bool.not_true,cond_false] at h;exact ⟨z,h⟩
 . rw [decide_eq_false z] at h;exact absurd h z
end Go.Proofs.YtbglndogddddoaaGreatDoor
namespace Go.Proofs.YtbglndogddddoaaGreatDoor
open Go.RowKit
attribute [local irreducible] qJ qd
set_option maxRecDepth 100000
def H37:List (Nat×Hint):=[]
def J37:List (Nat×Hint):=[(6,⟨[((1,[]),none)],[(1, .pt 0 0),(20, .leaf)],[.cells [.leaf, .leaf, .leaf, .leaf, .leaf]],[.bool, .str, .str, .int .i64, .sl .dig, .sl .chg]⟩)]
abbrev S37:List Sh:=[.ag [.leaf, .leaf, .leaf, .leaf, .leaf]]
abbrev L37:List Lf:=[.str, .str, .int .i64, .sl .dig, .sl .chg]
def Yk (K:Kn) (t_1:Bool) (p1_1 p2_1:ByteArray) (p3_1:Int) (p4_1:List Dig) (p5_1:List Chg):Prop:=
 bif t_1 then (
  K (.tu [.nil, .int .i64 2]) [])
 else (
  True/\
 bif !decide (jy ju p4_1=0)then (
  K (.tu [.nil, .int .i64 (jy ju p4_1)]) [])
 else (
  bif decide ((p5_1.length:Int)=0)then (
  K (.tu [.nil, .int .i64 1]) [])
 else (
  bif decide (400< (p5_1.length:Int))then (
  K (.tu [.nil, .int .i64 4]) [])
 else (
  sp73.pre (p5_1,())/\
 K (.tu [.sl false .atm ((yH p5_1).1), .int .i64 ((yH p5_1).2)]) []))))
def F37 (g:prodL L37) (K:Kn):Prop:=
 sp71.pre (g.1,())/\
 bif !(xk g.1)then (
  K (.tu [.nil, .int .i64 5]) [])
 else (
  bif decide (1000< (g.2.1.size:Int))then (
  K (.tu [.nil, .int .i64 4]) [])
 else (
  bif decide (g.2.2.1<0)then (
  Yk K true g.1 g.2.1 g.2.2.1 g.2.2.2.1 g.2.2.2.2.1)
 else (
  Yk K (decide (1099511627776<g.2.2.1)) g.1 g.2.1 g.2.2.1 g.2.2.2.1 g.2.2.2.2.1)))
theorem F37_eq (g:prodL L37) (K X:Kn):F37 g K=qJ D (qk [] [(71,true,sp71),(72,true,sp72),(73,false,sp73)]) (qx []) H37 J37 40 [.tmp 2, .tmp 3] (qz Tryz.f37) (argsT S37 L37 g) [] (settle0 K) X:=by kernel_rfl
theorem F37_ok (g:prodL L37) (K X:Kn) (h:F37 g K):FCalls Tryz.prog 37 (argsT S37 L37 g) [] K X:=
 FCalls.settle0 (qq qY (jq (zq sp71_ok (zq sp72_ok (zq sp73_ok z8)))) qj rfl Tryz.func37 (c:=qz Tryz.f37) rfl Tryz.ntmps37 Tryz.results37 (by unfold qv;rw [Tryz.func37];kernel_rfl) (Nat.le_of_ble_eq_true (by kernel_rfl)) (c0:=0) (Eq.mp (F37_eq g K X) h))
def H13:List (Nat×Hint):=[]
def J13:List (Nat×Hint):=[]
abbrev S13:List Sh:=[.ag [.leaf, .leaf, .leaf, .leaf, .leaf]]
abbrev L13:List Lf:=[.str, .str, .int .i64, .sl .dig, .sl .chg]
def F13 (g:prodL L13) (K:Kn):Prop:=
 Yp.pre (g.1,g.2.1,g.2.2.1,g.2.2.2.1,g.2.2.2.2.1,())/\
 K (.tu [.str ((xe g.1 g.2.1 g.2.2.1 g.2.2.2.1 g.2.2.2.2.1).2.1), .int .i64 ((xe g.1 g.2.1 g.2.2.1 g.2.2.2.1 g.2.2.2.2.1).2.2)]) []
theorem F13_eq (g:prodL L13) (K X:Kn):F13 g K=qJ D (qk [] [(36,false,Yp)]) (qx []) H13 J13 15 [.tmp 2, .tmp 3] (qz Tryz.f13) (argsT S13 L13 g) [] (settle0 K) X:=by kernel_rfl
theorem F13_ok (g:prodL L13) (K X:Kn) (h:F13 g K):FCalls Tryz.prog 13 (argsT S13 L13 g) [] K X:=
 FCalls.settle0 (qq (Γ:=qk [] [(36,false,Yp)]) (mu:=qx []) (H:=H13) (J:=J13) qY (qV (rs:=[]) (l:=[(36,false,Yp)]) (fun p hp=>by cases hp) (by intro p hp;simp only [List.mem_cons,List.not_mem_nil,or_false] at hp;subst hp;exact sp36_ok)) qj rfl Tryz.func13 (c:=qz Tryz.f13) rfl Tryz.ntmps13 Tryz.results13 (by unfold qv;rw [Tryz.func13];kernel_rfl) (Nat.le_of_ble_eq_true (by kernel_rfl)) (c0:=0) (Eq.mp (F13_eq g K X) h))
def sp13:Sp:=⟨S13,L13,fun g=>Yp.pre g,fun g=> .tu [.str ((xe g.1 g.2.1 g.2.2.1 g.2.2.2.1 g.2.2.2.2.1).2.1), .int .i64 ((xe g.1 g.2.1 g.2.2.1 g.2.2.2.1 g.2.2.2.2.1).2.2)],fun _=>none⟩
theorem qqp:sp13.Ok Tryz.prog 13 true:=
 ⟨fun g K X hp h=>F13_ok g K X (by
  have h:K (.tu [.str ((xe g.1 g.2.1 g.2.2.1 g.2.2.2.1 g.2.2.2.2.1).2.1), .int .i64 ((xe g.1 g.2.1 g.2.2.1 g.2.2.2.1 g.2.2.2.2.1).2.2)]) []:=h
  exact ⟨hp,h⟩),fun _ _ _=>rfl,fun _=>rfl,by first | exact fun _ _=>⟨rfl,rfl⟩ | (intro h;cases h)⟩
end Go.Proofs.YtbglndogddddoaaGreatDoor
namespace Go.Proofs.YtbglndogddddoaaGreatDoor
open Go.RowKit
set_option maxRecDepth 100000
theorem F37_is {a m:ByteArray} {t:Int} {ds:List Dig} {cs:List Chg} {K:Kn} (hp:xP a m t ds cs) (h:K2 K (JQ a m t ds cs)):F37 (a,m,t,ds,cs,()) (xw K):=by
 obtain ⟨h1,h2,h3,h4,h5,h6⟩:=hp
 unfold F37
 unfold JQ zP at h
 refine ⟨Nat.le_trans h2 (by omega), ?_⟩
 show bif !(xk a)then _ else _
 cases c1:xk a
 . rw [c1] at h;exact jB h
 rw [c1] at h
 rw [Bool.not_true,cond_false] at h ⊢
 cases c2:decide (1000< (m.size:Int))
 rotate_left
 . rw [c2] at h;exact jB h
 rw [c2] at h
 rw [cond_false] at h ⊢
 have hJ: ∀b,K2 K (bif !decide ((bif b then 2 else bif !decide (jy ju ds=0)then jy ju ds else bif decide ((cs.length:Int)=0)then 1 else bif decide (400< (cs.length:Int))then 4 else 0)=0)then ([],bif b then 2 else bif !decide (jy ju ds=0)then jy ju ds else bif decide ((cs.length:Int)=0)then 1 else bif decide (400< (cs.length:Int))then 4 else 0)else yH cs)->Yk (xw K) b a m t ds cs:=by
  intro b h
  unfold Yk
  cases b
  rotate_left
  . exact jB h
  rw [cond_false] at h ⊢
  refine ⟨trivial, ?_⟩
  by_cases z:jy ju ds=0
  rotate_left
  . rw [decide_eq_false z] at h ⊢
    rw [Bool.not_false,cond_true,decide_eq_false z] at h
    exact jB h
  rw [decide_eq_true z] at h ⊢
  rw [Bool.not_true,cond_false] at h ⊢
  cases c3:decide ((cs.length:Int)=0)
  rotate_left
  . rw [c3] at h;exact jB h
  rw [c3] at h
  rw [cond_false] at h ⊢
  cases c4:decide (400< (cs.length:Int))
  rotate_left
  . rw [c4] at h;exact jB h
  rw [c4] at h
  exact ⟨h5,xw.same h⟩
 exact xF (J:=fun b=>Yk (xw K) b a m t ds cs) (f:=fun b=>bif !decide ((bif b then 2 else bif !decide (jy ju ds=0)then jy ju ds else bif decide ((cs.length:Int)=0)then 1 else bif decide (400< (cs.length:Int))then 4 else 0)=0)then ([],bif b then 2 else bif !decide (jy ju ds=0)then jy ju ds else bif decide ((cs.length:Int)=0)then 1 else bif decide (400< (cs.length:Int))then 4 else 0)else yH cs) (K:=K2 K) hJ h
def sp37:Sp:=⟨S37,L37,fun g=>xP g.1 g.2.1 g.2.2.1 g.2.2.2.1 g.2.2.2.2.1,fun g=> .tu [.sl false .atm (JQ g.1 g.2.1 g.2.2.1 g.2.2.2.1 g.2.2.2.2.1).1, .int .i64 (JQ g.1 g.2.1 g.2.2.1 g.2.2.2.1 g.2.2.2.2.1).2],fun _=>none⟩
theorem sp37_ok:sp37.Ok Tryz.prog 37 false:=
 ⟨fun g K X hp h=>FCalls.weak (F37_ok g (xw K) X (F37_is hp h)),fun _ _ _=>rfl,fun _=>rfl,fun h=>(by cases h)⟩
end Go.Proofs.YtbglndogddddoaaGreatDoor
namespace Go.Proofs.YtbglndogddddoaaGreatDoor
open Go.RowKit
attribute [local irreducible] qJ qd
set_option maxRecDepth 100000
def H14:List (Nat×Hint):=[]
def J14:List (Nat×Hint):=[]
abbrev S14:List Sh:=[.ag [.leaf, .leaf, .leaf, .leaf, .leaf]]
abbrev L14:List Lf:=[.str, .str, .int .i64, .sl .dig, .sl .chg]
def F14 (g:prodL L14) (K:Kn):Prop:=
 sp37.pre (g.1,g.2.1,g.2.2.1,g.2.2.2.1,g.2.2.2.2.1,())/\
 bif !decide ((JQ g.1 g.2.1 g.2.2.1 g.2.2.2.1 g.2.2.2.2.1).2=0)then (
  K (.tu [.str (⟨#[]⟩:ByteArray), .int .i64 ((JQ g.1 g.2.1 g.2.2.1 g.2.2.2.1 g.2.2.2.2.1).2)]) [])
 else (
  sp38.pre (g.1,g.2.1,g.2.2.1,g.2.2.2.1,g.2.2.2.2.1,())/\
 K (.tu [.str ((YD g.1 g.2.1 g.2.2.1 g.2.2.2.1 g.2.2.2.2.1).1), .int .i64 ((YD g.1 g.2.1 g.2.2.1 g.2.2.2.1 g.2.2.2.2.1).2)]) [])
theorem F14_eq (g:prodL L14) (K X:Kn):F14 g K=qJ D (qk [] [(37,false,sp37),(38,true,sp38)]) (qx []) H14 J14 18 [.tmp 2, .tmp 3] (qz Tryz.f14) (argsT S14 L14 g) [] (settle0 K) X:=by kernel_rfl
theorem F14_ok (g:prodL L14) (K X:Kn) (h:F14 g K):FCalls Tryz.prog 14 (argsT S14 L14 g) [] K X:=
 FCalls.settle0 (qq qY (jq (zq sp37_ok (zq sp38_ok z8))) qj rfl Tryz.func14 (c:=qz Tryz.f14) rfl Tryz.ntmps14 Tryz.results14 (by unfold qv;rw [Tryz.func14];kernel_rfl) (Nat.le_of_ble_eq_true (by kernel_rfl)) (c0:=0) (Eq.mp (F14_eq g K X) h))
end Go.Proofs.YtbglndogddddoaaGreatDoor
namespace Go.Proofs.YtbglndogddddoaaGreatDoor
open Go.RowKit
set_option maxRecDepth 100000
abbrev KE (K:Kn):ByteArray×Int->Prop:=fun r=>K (.tu [.str r.1, .int .i64 r.2]) []
theorem F14_is {a m:ByteArray} {t:Int} {ds:List Dig} {cs:List Chg} {K:Kn} (hp:xP a m t ds cs) (h:KE K (vO a m t ds cs)):F14 (a,m,t,ds,cs,()) K:=by
 unfold F14
 unfold vO at h
 refine ⟨hp, ?_⟩
 show bif !decide ((JQ a m t ds cs).2=0)then _ else _
 by_cases z:(JQ a m t ds cs).2=0
 . rw [decide_eq_true z] at h ⊢
   obtain ⟨h1,h2,h3,h4,h5,h6⟩:=hp
   exact ⟨⟨h1,h2,h3,h4,h5,fun c hc=>⟨h6 c hc,jI (chgsG_ok (chkR_ok z).2 c hc)⟩⟩,h⟩
 . rw [decide_eq_false z] at h ⊢
   exact h
def sp14:Sp:=⟨S14,L14,fun g=>xP g.1 g.2.1 g.2.2.1 g.2.2.2.1 g.2.2.2.2.1,fun g=> .tu [.str (vO g.1 g.2.1 g.2.2.1 g.2.2.2.1 g.2.2.2.2.1).1, .int .i64 (vO g.1 g.2.1 g.2.2.1 g.2.2.2.1 g.2.2.2.2.1).2],fun _=>none⟩
theorem sp14_ok:sp14.Ok Tryz.prog 14 true:=
 ⟨fun g K X hp h=>F14_ok g K X (F14_is hp h),fun _ _ _=>rfl,fun _=>rfl,fun _ _=>⟨rfl,rfl⟩⟩
end Go.Proofs.YtbglndogddddoaaGreatDoor
namespace Go.Proofs.YtbglndogddddoaaGreatDoor
open Go.RowKit
attribute [local irreducible] qJ qd
set_option maxRecDepth 100000
end Go.Proofs.YtbglndogddddoaaGreatDoor
namespace Go.Proofs.YtbglndogddddoaaGreatDoor
open Go.RowKit
set_option maxRecDepth 100000
set_option maxRecDepth 100000
def rotL (x k:Int):Int:=qZ .or .u32 (IntKind.u32.wrap (x*2^(min (qZ .and .u64 (IntKind.u64.wrap k) 31).toNat IntKind.u32.bits))) (Int.fdiv x (2^(min (IntKind.u64.wrap (32- (qZ .and .u64 (IntKind.u64.wrap k) 31))).toNat IntKind.u32.bits)))
def zC (x n:Int):Int:=rotL x (IntKind.i64.wrap (0-n))
def kL:List Int:=[1116352408,1899447441,3049323471,3921009573,961987163,1508970993,2453635748,2870763221,3624381080,310598401,607225278,1426881987,1925078388,2162078206,2614888103,3248222580,3835390401,4022224774,264347078,604807628,770255983,1249150122,1555081692,1996064986,2554220882,2821834349,2952996808,3210313671,3336571891,3584528711,113926993,338241895,666307205,773529912,1294757372,1396182291,1695183700,1986661051,2177026350,2456956037,2730485921,2820302411,3259730800,3345764771,3516065817,3600352804,4094571909,275423344,430227734,506948616,659060556,883997877,958139571,1322822218,1537002063,1747873779,1955562222,2024104815,2227730452,2361852424,2428436474,2756734187,3204031479,3329325298]
theorem u64_nn (n:Int):0<=IntKind.u64.wrap n:=by
 simp only [IntKind.wrap,IntKind.bits,IntKind.signed,Bool.false_and,Bool.false_eq_true,if_false]
 omega
theorem and_nn (a b:Int):0<=qZ .and .u64 a b:=u64_nn _
def orB (x c:Int):Int:=qZ .or .u32 (IntKind.u32.wrap (x*2^(min (8:Int).toNat IntKind.u32.bits))) (IntKind.u32.wrap c)
def wS (b:ByteArray) (t:Nat):List Int:=zx (b.extract (4*t) (4*t+4))
def sg1 (x:Int):Int:=qZ .xor .u32 (qZ .xor .u32 (zC x 17) (zC x 19)) (Int.fdiv x (2^(min (10:Int).toNat IntKind.u32.bits)))
def sg0 (x:Int):Int:=qZ .xor .u32 (qZ .xor .u32 (zC x 7) (zC x 18)) (Int.fdiv x (2^(min (3:Int).toNat IntKind.u32.bits)))
def schW (w:List Int) (t:Nat):Int:=IntKind.u32.wrap (IntKind.u32.wrap (IntKind.u32.wrap (sg1 (w.getD (t-2) 0)+w.getD (t-7) 0)+sg0 (w.getD (t-15) 0))+w.getD (t-16) 0)
def schA (b:ByteArray) (w:List Int) (t:Nat):List Int:=if t<16 then w.set t ((wS b t).foldl orB (w.getD t 0))else w.set t (schW w t)
def zL:List Int:=List.replicate 64 0
def Jk (b:ByteArray) (n:Nat):List Int:=(List.range n).foldl (schA b) zL
def Qv (b:ByteArray):List Int:=Jk b 64
theorem schA_len (b:ByteArray) (w:List Int) (t:Nat):(schA b w t).length=w.length:=by
 unfold schA;split<;>simp
theorem kp (b:ByteArray) (n:Nat):Jk b (n+1)=schA b (Jk b n) n:=by
 unfold Jk;rw [List.range_succ,List.foldl_append];rfl
theorem kO (b:ByteArray): ∀n,(Jk b n).length=64
 | 0=>by simp [Jk,zL]
 | n+1=>by rw [kp,schA_len,kO b n]
def QJ (w:List Int) (t:Nat) (e f g h:Int):Int:=IntKind.u32.wrap (IntKind.u32.wrap (IntKind.u32.wrap (IntKind.u32.wrap (h+(qZ .xor .u32 (qZ .xor .u32 (zC e 6) (zC e 11)) (zC e 25)))+(qZ .xor .u32 (qZ .and .u32 e f) (qZ .and .u32 (qZ .xor .u32 IntKind.u32.max e) g)))+kL.getD t 0)+w.getD t 0)
def Kh (a b c:Int):Int:=IntKind.u32.wrap ((qZ .xor .u32 (qZ .xor .u32 (zC a 2) (zC a 13)) (zC a 22))+(qZ .xor .u32 (qZ .xor .u32 (qZ .and .u32 a b) (qZ .and .u32 a c)) (qZ .and .u32 b c)))
def rnd (w:List Int) (v:List Int) (t:Nat):List Int:=match v with
 | [a,b,c,d,e,f,g,h]=>[IntKind.u32.wrap (QJ w t e f g h+Kh a b c),a,b,c,IntKind.u32.wrap (d+QJ w t e f g h),e,f,g]
 | v=>v
def Xi (w s:List Int) (n:Nat):List Int:=(List.range n).foldl (rnd w) s
def yr (s v:List Int):List Int:=List.zipWith (fun x y=>IntKind.u32.wrap (x+y)) s v
def qK (s:List Int) (b:ByteArray):List Int:=yr s (Xi (Qv b) s 64)
theorem Wx {v:List Int} (h:v.length=8): ∃a b c d e f g k,v=[a,b,c,d,e,f,g,k]:=by
 match v,h with
 | [a,b,c,d,e,f,g,k],_=>exact ⟨a,b,c,d,e,f,g,k,rfl⟩
theorem rnd_len (w:List Int) {v:List Int} (t:Nat) (h:v.length=8):(rnd w v t).length=8:=by
 obtain ⟨a,b,c,d,e,f,g,k,rfl⟩:=Wx h
 rfl
theorem Wq (w s:List Int) (n:Nat):Xi w s (n+1)=rnd w (Xi w s n) n:=by
 unfold Xi;rw [List.range_succ,List.foldl_append];rfl
theorem X7 (w:List Int) {s:List Int} (h:s.length=8): ∀n,(Xi w s n).length=8
 | 0=>h
 | n+1=>by rw [Wq];exact rnd_len w n (X7 w h n)
theorem compP_len {s:List Int} (h:s.length=8) (b:ByteArray):(qK s b).length=8:=by
 unfold qK yr
 rw [List.length_zipWith,X7 _ h,h];rfl
def wD (n:Nat):Nat:=(120-n%64)%64
def lenB (s:ByteArray) (i:Nat):Int:=IntKind.u8.wrap (Int.fdiv (IntKind.u64.wrap ((IntKind.u64.wrap (s.size:Int))*8)) (2^(min (56-8*(i:Int)).toNat IntKind.u64.bits)))
def Qi (s:ByteArray):List Int:=zx (s.extract (s.size / 64*64) s.size)++[128]
def qqm (s:ByteArray):List Int:=Qi s++List.replicate (wD (Qi s).length) 0
def wj (s:ByteArray):List Int:=qqm s++(List.range 8).map (lenB s)
def ZQ (s:ByteArray) (i:Nat):ByteArray:=s.extract (64*i) (64*i+64)
def yf (l:List Int) (i:Nat):ByteArray:=zb ((l.drop (64*i)).take 64)
def Zc (s:ByteArray):List ByteArray:=(List.range (s.size / 64)).map (ZQ s)
def blkB (s:ByteArray):List ByteArray:=(List.range ((wj s).length / 64)).map (yf (wj s))
def zX (st:List Int) (s:ByteArray):List Int:=(Zc s++blkB s).foldl qK st
def pre111 (g:prodL [.pr .str, .int .u32, .int .u32, .int .u32, .int .u32, .int .u32, .int .u32, .int .u32, .int .u32]):Prop:=g.1.size<=4194304
def st0:List Int:=[1779033703,3144134277,1013904242,2773480762,1359893119,2600822924,528734635,1541459225]
def ze (v:List Int) (i j:Nat):Int:=IntKind.u8.wrap (Int.fdiv (v.getD i 0) (2^(min ((24:Int) - 8*j).toNat IntKind.u32.bits)))
def digW (v:List Int):Dig:=⟨ze v 0 0,ze v 0 1,ze v 0 2,ze v 0 3,ze v 1 0,ze v 1 1,ze v 1 2,ze v 1 3,ze v 2 0,ze v 2 1,ze v 2 2,ze v 2 3,ze v 3 0,ze v 3 1,ze v 3 2,ze v 3 3,ze v 4 0,ze v 4 1,ze v 4 2,ze v 4 3,ze v 5 0,ze v 5 1,ze v 5 2,ze v 5 3,ze v 6 0,ze v 6 1,ze v 6 2,ze v 6 3,ze v 7 0,ze v 7 1,ze v 7 2,ze v 7 3⟩
def Q0 (s:ByteArray):Dig:=digW (zX st0 s)
theorem foldl_len {l:List ByteArray}: ∀{st:List Int},st.length=8->(l.foldl qK st).length=8:=by
 induction l with
 | nil=>intro st h;exact h
 | cons b l ih=>intro st h;exact ih (compP_len h b)
end Go.Proofs.YtbglndogddddoaaGreatDoor
namespace Go.Proofs.YtbglndogddddoaaGreatDoor
open Go.RowKit
attribute [local irreducible] qJ qd
set_option maxRecDepth 100000
def H156:List (Nat×Hint):=[]
def J156:List (Nat×Hint):=[]
abbrev S156:List Sh:=[.leaf, .leaf]
abbrev L156:List Lf:=[.int .u32, .int .i64]
def F156 (g:prodL L156) (K:Kn):Prop:=
 (0:Int)<=qZ .and .u64 (IntKind.u64.wrap g.2.1) 31/\
 (0:Int)<=IntKind.u64.wrap (32- (qZ .and .u64 (IntKind.u64.wrap g.2.1) 31))/\
 K (.int .u32 (qZ .or .u32 (IntKind.u32.wrap (g.1*2^(min (qZ .and .u64 (IntKind.u64.wrap g.2.1) 31).toNat IntKind.u32.bits))) (Int.fdiv g.1 (2^(min (IntKind.u64.wrap (32- (qZ .and .u64 (IntKind.u64.wrap g.2.1) 31))).toNat IntKind.u32.bits))))) []
theorem F156_eq (g:prodL L156) (K X:Kn):F156 g K=qJ D (qk [] []) (qx []) H156 J156 17 [.tmp 4] (qz Tryz.f156) (argsT S156 L156 g) [] (settle0 K) X:=by kernel_rfl
theorem F156_ok (g:prodL L156) (K X:Kn) (h:F156 g K):FCalls Tryz.prog 156 (argsT S156 L156 g) [] K X:=
 FCalls.settle0 (qq qY (jq z8) qj rfl Tryz.func156 (c:=qz Tryz.f156) rfl Tryz.ntmps156 Tryz.results156 (by unfold qv;rw [Tryz.func156];kernel_rfl) (Nat.le_of_ble_eq_true (by kernel_rfl)) (c0:=0) (Eq.mp (F156_eq g K X) h))
def sp156:Sp:=⟨S156,L156,fun _=>True,fun g=> .int .u32 (rotL g.1 g.2.1),fun _=>none⟩
theorem sp156_ok:sp156.Ok Tryz.prog 156 true:=
 ⟨fun g K X hp h=>F156_ok g K X (by
  have h:K (.int .u32 (rotL g.1 g.2.1)) []:=h
  exact ⟨and_nn _ _,u64_nn _,h⟩),fun _ _ _=>rfl,fun _=>rfl,by first | exact fun _ _=>⟨rfl,rfl⟩ | (intro h;cases h)⟩
def H114:List (Nat×Hint):=[]
def J114:List (Nat×Hint):=[]
abbrev S114:List Sh:=[.leaf, .leaf]
abbrev L114:List Lf:=[.int .u32, .int .i64]
def F114 (g:prodL L114) (K:Kn):Prop:=
 True/\
 K (.int .u32 (rotL g.1 (IntKind.i64.wrap (0-g.2.1)))) []
theorem F114_eq (g:prodL L114) (K X:Kn):F114 g K=qJ D (qk [] [(156,true,sp156)]) (qx []) H114 J114 9 [.tmp 4] (qz Tryz.f114) (argsT S114 L114 g) [] (settle0 K) X:=by kernel_rfl
theorem F114_ok (g:prodL L114) (K X:Kn) (h:F114 g K):FCalls Tryz.prog 114 (argsT S114 L114 g) [] K X:=
 FCalls.settle0 (qq (Γ:=qk [] [(156,true,sp156)]) (mu:=qx []) (H:=H114) (J:=J114) qY (qV (rs:=[]) (l:=[(156,true,sp156)]) (fun p hp=>by cases hp) (by intro p hp;simp only [List.mem_cons,List.not_mem_nil,or_false] at hp;subst hp;exact sp156_ok)) qj rfl Tryz.func114 (c:=qz Tryz.f114) rfl Tryz.ntmps114 Tryz.results114 (by unfold qv;rw [Tryz.func114];kernel_rfl) (Nat.le_of_ble_eq_true (by kernel_rfl)) (c0:=0) (Eq.mp (F114_eq g K X) h))
def sp114:Sp:=⟨S114,L114,fun _=>True,fun g=> .int .u32 (zC g.1 g.2.1),fun _=>none⟩
theorem sp114_ok:sp114.Ok Tryz.prog 114 true:=
 ⟨fun g K X hp h=>F114_ok g K X (by
  have h:K (.int .u32 (zC g.1 g.2.1)) []:=h
  exact ⟨trivial,h⟩),fun _ _ _=>rfl,fun _=>rfl,by first | exact fun _ _=>⟨rfl,rfl⟩ | (intro h;cases h)⟩
def H113:List (Nat×Hint):=[]
def J113:List (Nat×Hint):=[]
abbrev S113:List Sh:=[]
abbrev L113:List Lf:=[]
def F113 (g:prodL L113) (K:Kn):Prop:=
 jz ([1116352408,1899447441,3049323471,3921009573,961987163,1508970993,2453635748,2870763221,3624381080,310598401,607225278,1426881987,1925078388,2162078206,2614888103,3248222580,3835390401,4022224774,264347078,604807628,770255983,1249150122,1555081692,1996064986,2554220882,2821834349,2952996808,3210313671,3336571891,3584528711,113926993,338241895,666307205,773529912,1294757372,1396182291,1695183700,1986661051,2177026350,2456956037,2730485921,2820302411,3259730800,3345764771,3516065817,3600352804,4094571909,275423344,430227734,506948616,659060556,883997877,958139571,1322822218,1537002063,1747873779,1955562222,2024104815,2227730452,2361852424,2428436474,2756734187,3204031479,3329325298].length*1=64/\[1116352408,1899447441,3049323471,3921009573,961987163,1508970993,2453635748,2870763221,3624381080,310598401,607225278,1426881987,1925078388,2162078206,2614888103,3248222580,3835390401,4022224774,264347078,604807628,770255983,1249150122,1555081692,1996064986,2554220882,2821834349,2952996808,3210313671,3336571891,3584528711,113926993,338241895,666307205,773529912,1294757372,1396182291,1695183700,1986661051,2177026350,2456956037,2730485921,2820302411,3259730800,3345764771,3516065817,3600352804,4094571909,275423344,430227734,506948616,659060556,883997877,958139571,1322822218,1537002063,1747873779,1955562222,2024104815,2227730452,2361852424,2428436474,2756734187,3204031479,3329325298].length=(List.replicate 64 (0:Int)).length) (
 jz ([1116352408,1899447441,3049323471,3921009573,961987163,1508970993,2453635748,2870763221,3624381080,310598401,607225278,1426881987,1925078388,2162078206,2614888103,3248222580,3835390401,4022224774,264347078,604807628,770255983,1249150122,1555081692,1996064986,2554220882,2821834349,2952996808,3210313671,3336571891,3584528711,113926993,338241895,666307205,773529912,1294757372,1396182291,1695183700,1986661051,2177026350,2456956037,2730485921,2820302411,3259730800,3345764771,3516065817,3600352804,4094571909,275423344,430227734,506948616,659060556,883997877,958139571,1322822218,1537002063,1747873779,1955562222,2024104815,2227730452,2361852424,2428436474,2756734187,3204031479,3329325298].length*1=64) (
 K (.al .u32 [1116352408,1899447441,3049323471,3921009573,961987163,1508970993,2453635748,2870763221,3624381080,310598401,607225278,1426881987,1925078388,2162078206,2614888103,3248222580,3835390401,4022224774,264347078,604807628,770255983,1249150122,1555081692,1996064986,2554220882,2821834349,2952996808,3210313671,3336571891,3584528711,113926993,338241895,666307205,773529912,1294757372,1396182291,1695183700,1986661051,2177026350,2456956037,2730485921,2820302411,3259730800,3345764771,3516065817,3600352804,4094571909,275423344,430227734,506948616,659060556,883997877,958139571,1322822218,1537002063,1747873779,1955562222,2024104815,2227730452,2361852424,2428436474,2756734187,3204031479,3329325298]) []))
theorem F113_eq (g:prodL L113) (K X:Kn):F113 g K=qJ D (qk [] []) (qx []) H113 J113 2 [.cell 0 138] (qz Tryz.f113) (argsT S113 L113 g) [] (settle0 K) X:=by kernel_rfl
theorem F113_ok (g:prodL L113) (K X:Kn) (h:F113 g K):FCalls Tryz.prog 113 (argsT S113 L113 g) [] K X:=
 FCalls.settle0 (qq qY (jq z8) qj rfl Tryz.func113 (c:=qz Tryz.f113) rfl Tryz.ntmps113 Tryz.results113 (by unfold qv;rw [Tryz.func113];kernel_rfl) (Nat.le_of_ble_eq_true (by kernel_rfl)) (c0:=0) (Eq.mp (F113_eq g K X) h))
def sp113:Sp:=⟨S113,L113,fun _=>True,fun g=> .al .u32 kL,fun _=>none⟩
theorem sp113_ok:sp113.Ok Tryz.prog 113 false:=
 ⟨fun g K X hp h=>F113_ok g K X (by
  have h:K (.al .u32 kL) []:=h
  exact ⟨⟨rfl,rfl⟩,rfl,h⟩),fun _ _ _=>rfl,fun _=>rfl,by first | exact fun _ _=>⟨rfl,rfl⟩ | (intro h;cases h)⟩
def H112:List (Nat×Hint):=[(3,⟨[((2,[]),none),((3,[]),none)],[(0, .leaf),(2, .pa .u32 0),(3, .pa .u32 1),(9, .leaf)],[.arr .u32, .arr .u32],[.str, .int .i64, .sl .u32, .sl .u32]⟩),(7,⟨[((2,[]),none),((3,[]),none),((21,[]),none)],[(0, .leaf),(2, .pa .u32 0),(3, .pa .u32 1),(4, .leaf),(9, .leaf),(21, .oa .u8 2),(22, .leaf),(23, .leaf)],[.arr .u32, .arr .u32, .arr .u8],[.str, .int .i64, .int .i64, .int .i64, .int .i64, .sl .u32, .sl .u32, .sl .u8]⟩)]
def J112:List (Nat×Hint):=[(13,⟨[((2,[]),none),((3,[]),none)],[(0, .leaf),(2, .pa .u32 0),(3, .pa .u32 1),(9, .leaf)],[.arr .u32, .arr .u32],[.str, .int .i64, .sl .u32, .sl .u32]⟩)]
abbrev S112:List Sh:=[.leaf]
abbrev L112:List Lf:=[.str]
def Z2 (K:Kn) (W2:prodL [.str, .int .i64, .sl .u32, .sl .u32]->Prop) (block_13:ByteArray) (t_13:Int) (t2_13:List Int) (w_13:List Int):Prop:=
 W2 (block_13,IntKind.i64.wrap (t_13+1),t2_13,w_13,())
def qqr (K:Kn) (W2:prodL [.str, .int .i64, .sl .u32, .sl .u32]->Prop) (W4:prodL [.str, .int .i64, .int .i64, .int .i64, .int .i64, .sl .u32, .sl .u32, .sl .u8]->Prop) (block_3:ByteArray) (t_3 t2_3 t3_3 t4_3:Int) (t5_3:List Int) (w_3:List Int) (t6_3:List Int):Prop:=
 bif decide (t4_3<t3_3)then (
   0<=t4_3/\t4_3.toNat<t6_3.length/\
  Xy t6_3 t4_3.toNat fun x5=>
  0<=t_3/\t_3.toNat<64/\
  Xy w_3 t_3.toNat fun x6=>
  (0:Int)<=8/\
  0<=t_3/\t_3.toNat<64/\
  Xy w_3 t_3.toNat fun x7=>
  W4 (block_3,t_3,t2_3,t3_3,IntKind.i64.wrap (t4_3+1),t5_3,w_3.set t_3.toNat (qZ .or .u32 (IntKind.u32.wrap (x6*2^(min (8:Int).toNat IntKind.u32.bits))) (IntKind.u32.wrap x5)),t6_3,()))
  else (
   Z2 K W2 block_3 t2_3 t5_3 w_3)
def qzQ (K:Kn) (W2:prodL [.str, .int .i64, .sl .u32, .sl .u32]->Prop) (g:prodL [.str, .int .i64, .int .i64, .int .i64, .int .i64, .sl .u32, .sl .u32, .sl .u8]):Prop:=
 qQ (γ:=prodL [.str, .int .i64, .int .i64, .int .i64, .int .i64, .sl .u32, .sl .u32, .sl .u8]) (fun V y=>qqr K W2 V y.1 y.2.1 y.2.2.1 y.2.2.2.1 y.2.2.2.2.1 y.2.2.2.2.2.1 y.2.2.2.2.2.2.1 y.2.2.2.2.2.2.2.1) g
def F112_B2 (K:Kn) (W2:prodL [.str, .int .i64, .sl .u32, .sl .u32]->Prop) (block_1:ByteArray) (t_1:Int) (t2_1:List Int) (w_1:List Int):Prop:=
 bif decide (t_1<64)then (
  bif decide (t_1<16)then (
  (0:Int)<=IntKind.i64.wrap (4*t_1)/\IntKind.i64.wrap (4*t_1)<=IntKind.i64.wrap ((IntKind.i64.wrap (4*t_1))+4)/\IntKind.i64.wrap ((IntKind.i64.wrap (4*t_1))+4)<=(block_1.size:Int)/\
  ql (block_1.extract (IntKind.i64.wrap (4*t_1)).toNat (IntKind.i64.wrap ((IntKind.i64.wrap (4*t_1))+4)).toNat).size 1 (
  qzQ K W2 (block_1,t_1,t_1,(((zx (block_1.extract (IntKind.i64.wrap (4*t_1)).toNat (IntKind.i64.wrap ((IntKind.i64.wrap (4*t_1))+4)).toNat)).length:Nat):Int),0,t2_1,w_1,zx (block_1.extract (IntKind.i64.wrap (4*t_1)).toNat (IntKind.i64.wrap ((IntKind.i64.wrap (4*t_1))+4)).toNat),())))
 else (
  0<=IntKind.i64.wrap (t_1-15)/\(IntKind.i64.wrap (t_1-15)).toNat<64/\
 Xy w_1 ((IntKind.i64.wrap (t_1-15)).toNat) fun x8=>
 0<=IntKind.i64.wrap (t_1-2)/\(IntKind.i64.wrap (t_1-2)).toNat<64/\
 Xy w_1 ((IntKind.i64.wrap (t_1-2)).toNat) fun x9=>
 True/\
 True/\
 (0:Int)<=10/\
 0<=IntKind.i64.wrap (t_1-7)/\(IntKind.i64.wrap (t_1-7)).toNat<64/\
 Xy w_1 ((IntKind.i64.wrap (t_1-7)).toNat) fun x10=>
 True/\
 True/\
 (0:Int)<=3/\
 0<=IntKind.i64.wrap (t_1-16)/\(IntKind.i64.wrap (t_1-16)).toNat<64/\
 Xy w_1 ((IntKind.i64.wrap (t_1-16)).toNat) fun x11=>
 0<=t_1/\t_1.toNat<64/\
 Xy w_1 t_1.toNat fun x12=>
 Z2 K W2 block_1 t_1 t2_1 (w_1.set t_1.toNat (IntKind.u32.wrap ((IntKind.u32.wrap ((IntKind.u32.wrap ((qZ .xor .u32 (qZ .xor .u32 (zC x9 17) (zC x9 19)) (Int.fdiv x9 (2^(min (10:Int).toNat IntKind.u32.bits))))+x10))+(qZ .xor .u32 (qZ .xor .u32 (zC x8 7) (zC x8 18)) (Int.fdiv x8 (2^(min (3:Int).toNat IntKind.u32.bits))))))+x11)))))
 else (
  jz (w_1.length*1=64) (
 jz (w_1.length*1=64/\w_1.length=t2_1.length) (
 jz (w_1.length*1=64) (
 K (.al .u32 w_1) []))))
def F112_L2 (K:Kn) (g:prodL [.str, .int .i64, .sl .u32, .sl .u32]):Prop:=
 qQ (γ:=prodL [.str, .int .i64, .sl .u32, .sl .u32]) (fun V y=>F112_B2 K V y.1 y.2.1 y.2.2.1 y.2.2.2.1) g
def F112 (g:prodL L112) (K:Kn):Prop:=
 F112_L2 K (g.1,0,(List.replicate 64 (0:Int)),(List.replicate 64 (0:Int)),())
theorem F112_eq (g:prodL L112) (K X:Kn):F112 g K=qJ D (qk [] [(114,true,sp114)]) (qx []) H112 J112 76 [.cell 2 138] (qz Tryz.f112) (argsT S112 L112 g) [] (settle0 K) X:=by kernel_rfl
theorem F112_ok (g:prodL L112) (K X:Kn) (h:F112 g K):FCalls Tryz.prog 112 (argsT S112 L112 g) [] K X:=
 FCalls.settle0 (qq (Γ:=qk [] [(114,true,sp114)]) (mu:=qx []) (H:=H112) (J:=J112) qY (qV (rs:=[]) (l:=[(114,true,sp114)]) (fun p hp=>by cases hp) (by intro p hp;simp only [List.mem_cons,List.not_mem_nil,or_false] at hp;subst hp;exact sp114_ok)) qj rfl Tryz.func112 (c:=qz Tryz.f112) rfl Tryz.ntmps112 Tryz.results112 (by unfold qv;rw [Tryz.func112];kernel_rfl) (Nat.le_of_ble_eq_true (by kernel_rfl)) (c0:=0) (Eq.mp (F112_eq g K X) h))
def H65:List (Nat×Hint):=[]
def J65:List (Nat×Hint):=[]
abbrev S65:List Sh:=[.leaf]
abbrev L65:List Lf:=[.str]
def F65 (g:prodL L65) (K:Kn):Prop:=
 K (.fn 111 [] [.pr .str g.1 0]) []
theorem F65_eq (g:prodL L65) (K X:Kn):F65 g K=qJ D (qk [] []) (qx []) H65 J65 4 [.tmp 2] (qz Tryz.f65) (argsT S65 L65 g) [] (settle0 K) X:=by kernel_rfl
theorem F65_ok (g:prodL L65) (K X:Kn) (h:F65 g K):FCalls Tryz.prog 65 (argsT S65 L65 g) [] K X:=
 FCalls.settle0 (qq qY (jq z8) qj rfl Tryz.func65 (c:=qz Tryz.f65) rfl Tryz.ntmps65 Tryz.results65 (by unfold qv;rw [Tryz.func65];kernel_rfl) (Nat.le_of_ble_eq_true (by kernel_rfl)) (c0:=0) (Eq.mp (F65_eq g K X) h))
def sp65:Sp:=⟨S65,L65,fun _=>True,fun g=> .fn 111 [] [.pr .str g.1 0],fun _=>none⟩
theorem sp65_ok:sp65.Ok Tryz.prog 65 false:=
 ⟨fun g K X hp h=>F65_ok g K X (by
  have h:K (.fn 111 [] [.pr .str g.1 0]) []:=h
  exact h),fun _ _ _=>rfl,fun _=>rfl,by first | exact fun _ _=>⟨rfl,rfl⟩ | (intro h;cases h)⟩
end Go.Proofs.YtbglndogddddoaaGreatDoor
namespace Go.Proofs.YtbglndogddddoaaGreatDoor
open Go.RowKit
set_option maxRecDepth 100000
theorem jx {α:Type} {l:List α} {n:Nat} {K:α->Prop} (h:n<l.length) (hK:K l[n]):Xy l n K:=⟨l[n],xQ h,hK⟩
theorem wm {l:List Int} {n:Nat} (h:n<l.length):l.getD n 0=l[n]:=by rw [List.getD_eq_getElem?_getD,xQ h];rfl
theorem toN (n:Nat):((n:Nat):Int).toNat=n:=by omega
theorem wI {n:Int} (h: -4294967296<=n/\n<=4294967296):IntKind.i64.wrap n=n:=jO (by omega) (by omega)
theorem set_getD (w:List Int) (t:Nat) (h:t<w.length):w.set t (w.getD t 0)=w:=by
 rw [wm h,List.set_getElem_self]
theorem F112_is {b:ByteArray} {K:Kn} (hb:b.size=64) (h:K (.al .u32 (Qv b)) []):F112 (b,()) K:=by
 unfold F112
 show F112_L2 K _
 unfold F112_L2
 refine qQ.countTo 64 (fun t=>(b,(t:Int),zL,Jk b t,())) (fun _=>True) rfl (fun t ht _ W hW=> ?_) trivial
 show F112_B2 K W b t zL (Jk b t)
 have hlen:=kO b t
 unfold F112_B2
 by_cases hlt:t<64
 . rw [decide_eq_true (show (t:Int) <64 by omega),cond_true]
   have hW:=hW hlt trivial
   rw [kp] at hW
   by_cases h16:t<16
   . rw [decide_eq_true (show (t:Int) <16 by omega),cond_true]
     have e4:IntKind.i64.wrap (4*(t:Int))=((4*t:Nat):Int):=by rw [wI (by omega)];omega
     have e5:IntKind.i64.wrap (((4*t:Nat):Int)+4)=((4*t+4:Nat):Int):=by rw [wI (by omega)];omega
     rw [e4,e5,toN,toN]
     refine ⟨by omega,by omega,by rw [hb];omega, ?_⟩
     have hsz:(b.extract (4*t) (4*t+4)).size=4:=by rw [ByteArray.size_extract,hb];omega
     refine ⟨by rw [hsz];exact Nat.le_of_ble_eq_true rfl, ?_⟩
     have hbl:(wS b t).length=4:=by unfold wS zx;simp;rw [hb];omega
     unfold schA at hW
     rw [if_pos h16] at hW
     show qzQ K W (b,(t:Int),(t:Int),(((wS b t).length:Nat):Int),0,zL,Jk b t,wS b t,())
     unfold qzQ
     refine qQ.countTo (wS b t).length (fun j=>(b,(t:Int),(t:Int),(((wS b t).length:Nat):Int),(j:Int),zL,(Jk b t).set t (((wS b t).take j).foldl orB ((Jk b t).getD t 0)),wS b t,())) (fun _=>True) (by rw [List.take_zero,List.foldl_nil,set_getD _ _ (by omega)];rfl) (fun j hj _ W4 hW4=> ?_) trivial
     show qqr K W W4 b t t (((wS b t).length:Nat):Int) j zL ((Jk b t).set t (((wS b t).take j).foldl orB ((Jk b t).getD t 0))) (wS b t)
     unfold qqr
     by_cases hjl:j< (wS b t).length
     . rw [qt hjl,cond_true]
       simp only [toN]
       have hl2:t< ((Jk b t).set t (((wS b t).take j).foldl orB ((Jk b t).getD t 0))).length:=by rw [List.length_set];omega
       refine ⟨by omega,hjl,jx hjl ⟨by omega,by omega,jx hl2 ⟨by omega,by omega,by omega,jx hl2 ?_⟩⟩⟩
       have:=hW4 hjl trivial
       rw [jh hjl,List.foldl_append] at this
       rw [zJ hjl (by omega),List.set_set,List.getElem_set_self]
       exact this
     . have:j=(wS b t).length:=by omega
       subst this
       rw [qm,cond_false,List.take_length]
       unfold Z2
       rw [wI (by omega)]
       exact hW
   . rw [decide_eq_false (show¬(t:Int) <16 by omega),cond_false]
     unfold schA at hW
     rw [if_neg h16] at hW
     have e15:IntKind.i64.wrap ((t:Int) - 15)=((t-15:Nat):Int):=by rw [wI (by omega)];omega
     have e2:IntKind.i64.wrap ((t:Int) - 2)=((t-2:Nat):Int):=by rw [wI (by omega)];omega
     have e7:IntKind.i64.wrap ((t:Int) - 7)=((t-7:Nat):Int):=by rw [wI (by omega)];omega
     have e16:IntKind.i64.wrap ((t:Int) - 16)=((t-16:Nat):Int):=by rw [wI (by omega)];omega
     rw [e15,e2,e7,e16]
     simp only [toN]
     refine ⟨by omega,by omega,jx (by omega) ⟨by omega,by omega,jx (by omega) ⟨trivial,trivial,by omega,by omega,by omega,jx (by omega) ⟨trivial,trivial,by omega,by omega,by omega,jx (by omega) ⟨by omega,by omega,jx (by omega) ?_⟩⟩⟩⟩⟩
     unfold Z2
     unfold schW at hW
     rw [wm (show t-2< (Jk b t).length by omega),wm (show t-7< (Jk b t).length by omega),wm (show t-15< (Jk b t).length by omega),wm (show t-16< (Jk b t).length by omega)] at hW
     rw [wI (by omega)]
     exact hW
 . have:t=64:=by omega
   subst this
   rw [decide_eq_false (by omega),cond_false]
   exact ⟨by omega,⟨by omega,by rw [hlen];rfl⟩,by omega,h⟩
def sp112:Sp:=⟨S112,L112,fun g=>g.1.size=64,fun g=> .al .u32 (Qv g.1),fun _=>none⟩
theorem sp112_ok:sp112.Ok Tryz.prog 112 false:=
 ⟨fun g K X hp h=>F112_ok g K X (F112_is hp h),fun _ _ _=>rfl,fun _=>rfl,fun h=>(by cases h)⟩
end Go.Proofs.YtbglndogddddoaaGreatDoor
namespace Go.Proofs.YtbglndogddddoaaGreatDoor
open Go.RowKit
attribute [local irreducible] qJ qd
set_option maxRecDepth 100000
def H66:List (Nat×Hint):=[(4,⟨[((2,[]),none),((4,[]),none),((5,[]),none),((6,[]),none)],[(2, .pt 0 0),(4, .pt 1 0),(5, .pa .u32 2),(6, .pa .u32 3),(7, .leaf),(8, .leaf),(9, .leaf),(10, .leaf),(11, .leaf),(12, .leaf),(13, .leaf),(14, .leaf),(39, .leaf)],[.cells [.leaf, .leaf, .leaf, .leaf, .leaf, .leaf, .leaf, .leaf], .cells [.leaf, .leaf, .leaf, .leaf, .leaf, .leaf, .leaf, .leaf], .arr .u32, .arr .u32],[.int .u32, .int .u32, .int .u32, .int .u32, .int .u32, .int .u32, .int .u32, .int .u32, .int .i64, .int .u32, .int .u32, .int .u32, .int .u32, .int .u32, .int .u32, .int .u32, .int .u32, .int .u32, .int .u32, .int .u32, .int .u32, .int .u32, .int .u32, .int .u32, .int .u32, .sl .u32, .sl .u32]⟩),(11,⟨[],[],[],[]⟩),(9000011,⟨[],[],[],[]⟩)]
def J66:List (Nat×Hint):=[]
abbrev S66:List Sh:=[.ag [.leaf, .leaf, .leaf, .leaf, .leaf, .leaf, .leaf, .leaf], .leaf]
abbrev L66:List Lf:=[.int .u32, .int .u32, .int .u32, .int .u32, .int .u32, .int .u32, .int .u32, .int .u32, .str]
def Ve (K:Kn) (W2:prodL [.int .u32, .int .u32, .int .u32, .int .u32, .int .u32, .int .u32, .int .u32, .int .u32, .int .i64, .int .u32, .int .u32, .int .u32, .int .u32, .int .u32, .int .u32, .int .u32, .int .u32, .int .u32, .int .u32, .int .u32, .int .u32, .int .u32, .int .u32, .int .u32, .int .u32, .sl .u32, .sl .u32]->Prop) (a_1 b_1 c_1 d_1 e_1 f_1 g_1 h_1 t_1 state1_1 state2_1 state3_1 state4_1 state5_1 state6_1 state7_1 state8_1 t1_1 t2_1 t3_1 t4_1 t5_1 t6_1 t7_1 t8_1:Int) (w_1:List Int) (k_1:List Int):Prop:=
 bif decide (t_1<64)then (
  True/\
 True/\
 True/\
 0<=t_1/\t_1.toNat<64/\
 Xy k_1 t_1.toNat fun x3=>
 0<=t_1/\t_1.toNat<64/\
 Xy w_1 t_1.toNat fun x4=>
 True/\
 True/\
 True/\
 W2 (IntKind.u32.wrap ((IntKind.u32.wrap ((IntKind.u32.wrap ((IntKind.u32.wrap ((IntKind.u32.wrap (h_1+(qZ .xor .u32 (qZ .xor .u32 (zC e_1 6) (zC e_1 11)) (zC e_1 25))))+(qZ .xor .u32 (qZ .and .u32 e_1 f_1) (qZ .and .u32 (qZ .xor .u32 IntKind.u32.max e_1) g_1))))+x3))+x4))+(IntKind.u32.wrap ((qZ .xor .u32 (qZ .xor .u32 (zC a_1 2) (zC a_1 13)) (zC a_1 22))+(qZ .xor .u32 (qZ .xor .u32 (qZ .and .u32 a_1 b_1) (qZ .and .u32 a_1 c_1)) (qZ .and .u32 b_1 c_1))))),a_1,b_1,c_1,IntKind.u32.wrap (d_1+(IntKind.u32.wrap ((IntKind.u32.wrap ((IntKind.u32.wrap ((IntKind.u32.wrap (h_1+(qZ .xor .u32 (qZ .xor .u32 (zC e_1 6) (zC e_1 11)) (zC e_1 25))))+(qZ .xor .u32 (qZ .and .u32 e_1 f_1) (qZ .and .u32 (qZ .xor .u32 IntKind.u32.max e_1) g_1))))+x3))+x4))),e_1,f_1,g_1,IntKind.i64.wrap (t_1+1),state1_1,state2_1,state3_1,state4_1,state5_1,state6_1,state7_1,state8_1,t1_1,t2_1,t3_1,t4_1,t5_1,t6_1,t7_1,t8_1,w_1,k_1,()))
 else (
  (0:Int)<=0/\(0:Int).toNat<8/\
 0<=(0:Int)/\(0:Int).toNat<8/\
 0<=(0:Int)/\(0:Int).toNat<8/\
 (0:Int)<=1/\(1:Int).toNat<8/\
 0<=(1:Int)/\(1:Int).toNat<8/\
 0<=(1:Int)/\(1:Int).toNat<8/\
 (0:Int)<=2/\(2:Int).toNat<8/\
 0<=(2:Int)/\(2:Int).toNat<8/\
 0<=(2:Int)/\(2:Int).toNat<8/\
 (0:Int)<=3/\(3:Int).toNat<8/\
 0<=(3:Int)/\(3:Int).toNat<8/\
 0<=(3:Int)/\(3:Int).toNat<8/\
 (0:Int)<=4/\(4:Int).toNat<8/\
 0<=(4:Int)/\(4:Int).toNat<8/\
 0<=(4:Int)/\(4:Int).toNat<8/\
 (0:Int)<=5/\(5:Int).toNat<8/\
 0<=(5:Int)/\(5:Int).toNat<8/\
 0<=(5:Int)/\(5:Int).toNat<8/\
 (0:Int)<=6/\(6:Int).toNat<8/\
 0<=(6:Int)/\(6:Int).toNat<8/\
 0<=(6:Int)/\(6:Int).toNat<8/\
 (0:Int)<=7/\(7:Int).toNat<8/\
 0<=(7:Int)/\(7:Int).toNat<8/\
 0<=(7:Int)/\(7:Int).toNat<8/\
 K (.ag [.int .u32 (IntKind.u32.wrap (state1_1+a_1)), .int .u32 (IntKind.u32.wrap (state2_1+b_1)), .int .u32 (IntKind.u32.wrap (state3_1+c_1)), .int .u32 (IntKind.u32.wrap (state4_1+d_1)), .int .u32 (IntKind.u32.wrap (state5_1+e_1)), .int .u32 (IntKind.u32.wrap (state6_1+f_1)), .int .u32 (IntKind.u32.wrap (state7_1+g_1)), .int .u32 (IntKind.u32.wrap (state8_1+h_1))]) [])
def F66_L2 (K:Kn) (g:prodL [.int .u32, .int .u32, .int .u32, .int .u32, .int .u32, .int .u32, .int .u32, .int .u32, .int .i64, .int .u32, .int .u32, .int .u32, .int .u32, .int .u32, .int .u32, .int .u32, .int .u32, .int .u32, .int .u32, .int .u32, .int .u32, .int .u32, .int .u32, .int .u32, .int .u32, .sl .u32, .sl .u32]):Prop:=
 qQ (γ:=prodL [.int .u32, .int .u32, .int .u32, .int .u32, .int .u32, .int .u32, .int .u32, .int .u32, .int .i64, .int .u32, .int .u32, .int .u32, .int .u32, .int .u32, .int .u32, .int .u32, .int .u32, .int .u32, .int .u32, .int .u32, .int .u32, .int .u32, .int .u32, .int .u32, .int .u32, .sl .u32, .sl .u32]) (fun V y=>Ve K V y.1 y.2.1 y.2.2.1 y.2.2.2.1 y.2.2.2.2.1 y.2.2.2.2.2.1 y.2.2.2.2.2.2.1 y.2.2.2.2.2.2.2.1 y.2.2.2.2.2.2.2.2.1 y.2.2.2.2.2.2.2.2.2.1 y.2.2.2.2.2.2.2.2.2.2.1 y.2.2.2.2.2.2.2.2.2.2.2.1 y.2.2.2.2.2.2.2.2.2.2.2.2.1 y.2.2.2.2.2.2.2.2.2.2.2.2.2.1 y.2.2.2.2.2.2.2.2.2.2.2.2.2.2.1 y.2.2.2.2.2.2.2.2.2.2.2.2.2.2.2.1 y.2.2.2.2.2.2.2.2.2.2.2.2.2.2.2.2.1 y.2.2.2.2.2.2.2.2.2.2.2.2.2.2.2.2.2.1 y.2.2.2.2.2.2.2.2.2.2.2.2.2.2.2.2.2.2.1 y.2.2.2.2.2.2.2.2.2.2.2.2.2.2.2.2.2.2.2.1 y.2.2.2.2.2.2.2.2.2.2.2.2.2.2.2.2.2.2.2.2.1 y.2.2.2.2.2.2.2.2.2.2.2.2.2.2.2.2.2.2.2.2.2.1 y.2.2.2.2.2.2.2.2.2.2.2.2.2.2.2.2.2.2.2.2.2.2.1 y.2.2.2.2.2.2.2.2.2.2.2.2.2.2.2.2.2.2.2.2.2.2.2.1 y.2.2.2.2.2.2.2.2.2.2.2.2.2.2.2.2.2.2.2.2.2.2.2.2.1 y.2.2.2.2.2.2.2.2.2.2.2.2.2.2.2.2.2.2.2.2.2.2.2.2.2.1 y.2.2.2.2.2.2.2.2.2.2.2.2.2.2.2.2.2.2.2.2.2.2.2.2.2.2.1) g
def F66 (g:prodL L66) (K:Kn):Prop:=
 sp112.pre (g.2.2.2.2.2.2.2.2.1,())/\
 True/\
 jz ((Qv g.2.2.2.2.2.2.2.2.1).length*1=64/\(Qv g.2.2.2.2.2.2.2.2.1).length=(List.replicate 64 (0:Int)).length) (
 jz (kL.length*1=64/\kL.length=(List.replicate 64 (0:Int)).length) (
 0<=(0:Int)/\(0:Int).toNat<8/\
 0<=(1:Int)/\(1:Int).toNat<8/\
 0<=(2:Int)/\(2:Int).toNat<8/\
 0<=(3:Int)/\(3:Int).toNat<8/\
 0<=(4:Int)/\(4:Int).toNat<8/\
 0<=(5:Int)/\(5:Int).toNat<8/\
 0<=(6:Int)/\(6:Int).toNat<8/\
 0<=(7:Int)/\(7:Int).toNat<8/\
 F66_L2 K (g.1,g.2.1,g.2.2.1,g.2.2.2.1,g.2.2.2.2.1,g.2.2.2.2.2.1,g.2.2.2.2.2.2.1,g.2.2.2.2.2.2.2.1,0,g.1,g.2.1,g.2.2.1,g.2.2.2.1,g.2.2.2.2.1,g.2.2.2.2.2.1,g.2.2.2.2.2.2.1,g.2.2.2.2.2.2.2.1,0,0,0,0,0,0,0,0,Qv g.2.2.2.2.2.2.2.2.1,kL,())))
theorem F66_eq (g:prodL L66) (K X:Kn):F66 g K=qJ D (qk [] [(112,false,sp112),(113,false,sp113),(114,true,sp114)]) (qx []) H66 J66 123 [.cell 4 101] (qz Tryz.f66) (argsT S66 L66 g) [] (settle0 K) X:=by kernel_rfl
theorem F66_ok (g:prodL L66) (K X:Kn) (h:F66 g K):FCalls Tryz.prog 66 (argsT S66 L66 g) [] K X:=
 FCalls.settle0 (qq qY (jq (zq sp112_ok (zq sp113_ok (zq sp114_ok z8)))) qj rfl Tryz.func66 (c:=qz Tryz.f66) rfl Tryz.ntmps66 Tryz.results66 (by unfold qv;rw [Tryz.func66];kernel_rfl) (Nat.le_of_ble_eq_true (by kernel_rfl)) (c0:=0) (Eq.mp (F66_eq g K X) h))
end Go.Proofs.YtbglndogddddoaaGreatDoor
namespace Go.Proofs.YtbglndogddddoaaGreatDoor
open Go.RowKit
set_option maxRecDepth 100000
theorem addW_8 (x0 x1 x2 x3 x4 x5 x6 x7 a b c d e f g k:Int):yr [x0,x1,x2,x3,x4,x5,x6,x7] [a,b,c,d,e,f,g,k]=[IntKind.u32.wrap (x0+a),IntKind.u32.wrap (x1+b),IntKind.u32.wrap (x2+c),IntKind.u32.wrap (x3+d),IntKind.u32.wrap (x4+e),IntKind.u32.wrap (x5+f),IntKind.u32.wrap (x6+g),IntKind.u32.wrap (x7+k)]:=rfl
theorem rnd_8 (w:List Int) (t:Nat) (a b c d e f g k:Int):rnd w [a,b,c,d,e,f,g,k] t=[IntKind.u32.wrap (QJ w t e f g k+Kh a b c),a,b,c,IntKind.u32.wrap (d+QJ w t e f g k),e,f,g]:=rfl
theorem kL_len:kL.length=64:=rfl
theorem vAt_zero (w s:List Int):Xi w s 0=s:=rfl
theorem F66_B2_is {K:Kn} {W:prodL [.int .u32, .int .u32, .int .u32, .int .u32, .int .u32, .int .u32, .int .u32, .int .u32, .int .i64, .int .u32, .int .u32, .int .u32, .int .u32, .int .u32, .int .u32, .int .u32, .int .u32, .int .u32, .int .u32, .int .u32, .int .u32, .int .u32, .int .u32, .int .u32, .int .u32, .sl .u32, .sl .u32]->Prop}
  {w:List Int} (hw:w.length=64) {t:Nat} (ht:t<64) {a b c d e f g k x0 x1 x2 x3 x4 x5 x6 x7:Int}
  (h:W (IntKind.u32.wrap (QJ w t e f g k+Kh a b c),a,b,c,IntKind.u32.wrap (d+QJ w t e f g k),e,f,g,((t+1:Nat):Int),x0,x1,x2,x3,x4,x5,x6,x7,0,0,0,0,0,0,0,0,w,kL,())):
  Ve K W a b c d e f g k t x0 x1 x2 x3 x4 x5 x6 x7 0 0 0 0 0 0 0 0 w kL:=by
 have hk:=kL_len
 unfold Ve
 rw [decide_eq_true (show (t:Int) <64 by omega),cond_true]
 unfold QJ Kh at h
 rw [wm (show t<kL.length by omega),wm (show t<w.length by omega)] at h
 simp only [toN]
 rw [wI (by omega)]
 exact ⟨trivial,trivial,trivial,by omega,by omega,jx (show t<kL.length by omega) ⟨by omega,by omega,jx (show t<w.length by omega) ⟨trivial,trivial,trivial,h⟩⟩⟩
theorem F66_B2_end {K:Kn} {W:prodL [.int .u32, .int .u32, .int .u32, .int .u32, .int .u32, .int .u32, .int .u32, .int .u32, .int .i64, .int .u32, .int .u32, .int .u32, .int .u32, .int .u32, .int .u32, .int .u32, .int .u32, .int .u32, .int .u32, .int .u32, .int .u32, .int .u32, .int .u32, .int .u32, .int .u32, .sl .u32, .sl .u32]->Prop}
  {w l:List Int} {a b c d e f g k x0 x1 x2 x3 x4 x5 x6 x7:Int}
  (h:K (.ag [.int .u32 (IntKind.u32.wrap (x0+a)), .int .u32 (IntKind.u32.wrap (x1+b)), .int .u32 (IntKind.u32.wrap (x2+c)), .int .u32 (IntKind.u32.wrap (x3+d)), .int .u32 (IntKind.u32.wrap (x4+e)), .int .u32 (IntKind.u32.wrap (x5+f)), .int .u32 (IntKind.u32.wrap (x6+g)), .int .u32 (IntKind.u32.wrap (x7+k))]) []):
  Ve K W a b c d e f g k 64 x0 x1 x2 x3 x4 x5 x6 x7 0 0 0 0 0 0 0 0 w l:=by
 unfold Ve
 rw [decide_eq_false (by omega),cond_false]
 repeat (refine And.intro (by decide) ?_)
 exact h
theorem F66_L2_is {w:List Int} (hw:w.length=64) {x0 x1 x2 x3 x4 x5 x6 x7:Int} {K:Kn} (h:K (.ag [.int .u32 ((yr [x0,x1,x2,x3,x4,x5,x6,x7] (Xi w [x0,x1,x2,x3,x4,x5,x6,x7] 64)).getD 0 0), .int .u32 ((yr [x0,x1,x2,x3,x4,x5,x6,x7] (Xi w [x0,x1,x2,x3,x4,x5,x6,x7] 64)).getD 1 0), .int .u32 ((yr [x0,x1,x2,x3,x4,x5,x6,x7] (Xi w [x0,x1,x2,x3,x4,x5,x6,x7] 64)).getD 2 0), .int .u32 ((yr [x0,x1,x2,x3,x4,x5,x6,x7] (Xi w [x0,x1,x2,x3,x4,x5,x6,x7] 64)).getD 3 0), .int .u32 ((yr [x0,x1,x2,x3,x4,x5,x6,x7] (Xi w [x0,x1,x2,x3,x4,x5,x6,x7] 64)).getD 4 0), .int .u32 ((yr [x0,x1,x2,x3,x4,x5,x6,x7] (Xi w [x0,x1,x2,x3,x4,x5,x6,x7] 64)).getD 5 0), .int .u32 ((yr [x0,x1,x2,x3,x4,x5,x6,x7] (Xi w [x0,x1,x2,x3,x4,x5,x6,x7] 64)).getD 6 0), .int .u32 ((yr [x0,x1,x2,x3,x4,x5,x6,x7] (Xi w [x0,x1,x2,x3,x4,x5,x6,x7] 64)).getD 7 0)]) []):
  F66_L2 K (x0,x1,x2,x3,x4,x5,x6,x7,0,x0,x1,x2,x3,x4,x5,x6,x7,0,0,0,0,0,0,0,0,w,kL,()):=by
 have hs:[x0,x1,x2,x3,x4,x5,x6,x7].length=8:=rfl
 have key: ∀t,(Xi w [x0,x1,x2,x3,x4,x5,x6,x7] t).length=8:=X7 w hs
 have hz:=vAt_zero w [x0,x1,x2,x3,x4,x5,x6,x7]
 have hsu:=Wq w [x0,x1,x2,x3,x4,x5,x6,x7]
 generalize Xi w [x0,x1,x2,x3,x4,x5,x6,x7]=v at h key hz hsu
 unfold F66_L2
 refine qQ.countTo 64 (fun t=>((v t).getD 0 0,(v t).getD 1 0,(v t).getD 2 0,(v t).getD 3 0,(v t).getD 4 0,(v t).getD 5 0,(v t).getD 6 0,(v t).getD 7 0,(t:Int),x0,x1,x2,x3,x4,x5,x6,x7,0,0,0,0,0,0,0,0,w,kL,())) (fun _=>True) (by rw [hz];rfl) (fun t ht _ W hW=> ?_) trivial
 obtain ⟨a,b,c,d,e,f,g,k,hv⟩:=Wx (key t)
 by_cases hlt:t<64
 . have hW:=hW hlt trivial
   rw [hsu,hv,rnd_8] at hW
   rw [hv]
   exact F66_B2_is hw hlt hW
 . have:t=64:=by omega
   subst this
   rw [hv,addW_8] at h
   rw [hv]
   exact F66_B2_end h
theorem F66_is {x0 x1 x2 x3 x4 x5 x6 x7:Int} {b:ByteArray} {K:Kn} (hb:b.size=64) (h:K (.ag [.int .u32 ((qK [x0,x1,x2,x3,x4,x5,x6,x7] b).getD 0 0), .int .u32 ((qK [x0,x1,x2,x3,x4,x5,x6,x7] b).getD 1 0), .int .u32 ((qK [x0,x1,x2,x3,x4,x5,x6,x7] b).getD 2 0), .int .u32 ((qK [x0,x1,x2,x3,x4,x5,x6,x7] b).getD 3 0), .int .u32 ((qK [x0,x1,x2,x3,x4,x5,x6,x7] b).getD 4 0), .int .u32 ((qK [x0,x1,x2,x3,x4,x5,x6,x7] b).getD 5 0), .int .u32 ((qK [x0,x1,x2,x3,x4,x5,x6,x7] b).getD 6 0), .int .u32 ((qK [x0,x1,x2,x3,x4,x5,x6,x7] b).getD 7 0)]) []):F66 (x0,x1,x2,x3,x4,x5,x6,x7,b,()) K:=by
 have hw:(Qv b).length=64:=kO b 64
 unfold qK at h
 unfold F66
 refine ⟨hb,trivial, ?_⟩
 dsimp only
 generalize Qv b=w at hw h ⊢
 refine ⟨⟨by omega,by rw [hw];rfl⟩,⟨rfl,rfl⟩, ?_⟩
 repeat (refine And.intro (by decide) ?_)
 exact F66_L2_is hw h
def sp66:Sp:=⟨S66,L66,fun g=>g.2.2.2.2.2.2.2.2.1.size=64,fun g=> .ag [.int .u32 ((qK [g.1,g.2.1,g.2.2.1,g.2.2.2.1,g.2.2.2.2.1,g.2.2.2.2.2.1,g.2.2.2.2.2.2.1,g.2.2.2.2.2.2.2.1] g.2.2.2.2.2.2.2.2.1).getD 0 0), .int .u32 ((qK [g.1,g.2.1,g.2.2.1,g.2.2.2.1,g.2.2.2.2.1,g.2.2.2.2.2.1,g.2.2.2.2.2.2.1,g.2.2.2.2.2.2.2.1] g.2.2.2.2.2.2.2.2.1).getD 1 0), .int .u32 ((qK [g.1,g.2.1,g.2.2.1,g.2.2.2.1,g.2.2.2.2.1,g.2.2.2.2.2.1,g.2.2.2.2.2.2.1,g.2.2.2.2.2.2.2.1] g.2.2.2.2.2.2.2.2.1).getD 2 0), .int .u32 ((qK [g.1,g.2.1,g.2.2.1,g.2.2.2.1,g.2.2.2.2.1,g.2.2.2.2.2.1,g.2.2.2.2.2.2.1,g.2.2.2.2.2.2.2.1] g.2.2.2.2.2.2.2.2.1).getD 3 0), .int .u32 ((qK [g.1,g.2.1,g.2.2.1,g.2.2.2.1,g.2.2.2.2.1,g.2.2.2.2.2.1,g.2.2.2.2.2.2.1,g.2.2.2.2.2.2.2.1] g.2.2.2.2.2.2.2.2.1).getD 4 0), .int .u32 ((qK [g.1,g.2.1,g.2.2.1,g.2.2.2.1,g.2.2.2.2.1,g.2.2.2.2.2.1,g.2.2.2.2.2.2.1,g.2.2.2.2.2.2.2.1] g.2.2.2.2.2.2.2.2.1).getD 5 0), .int .u32 ((qK [g.1,g.2.1,g.2.2.1,g.2.2.2.1,g.2.2.2.2.1,g.2.2.2.2.2.1,g.2.2.2.2.2.2.1,g.2.2.2.2.2.2.2.1] g.2.2.2.2.2.2.2.2.1).getD 6 0), .int .u32 ((qK [g.1,g.2.1,g.2.2.1,g.2.2.2.1,g.2.2.2.2.1,g.2.2.2.2.2.1,g.2.2.2.2.2.2.1,g.2.2.2.2.2.2.2.1] g.2.2.2.2.2.2.2.2.1).getD 7 0)],fun _=>none⟩
theorem sp66_ok:sp66.Ok Tryz.prog 66 true:=
 ⟨fun g K X hp h=>F66_ok g K X (F66_is hp h),fun _ _ _=>rfl,fun _=>rfl,fun _ _=>⟨rfl,rfl⟩⟩
end Go.Proofs.YtbglndogddddoaaGreatDoor
namespace Go.Proofs.YtbglndogddddoaaGreatDoor
open Go.RowKit
attribute [local irreducible] qJ qd
set_option maxRecDepth 100000
def H1033004:List (Nat×Hint):=[]
def J1033004:List (Nat×Hint):=[]
abbrev wi:List Sh:=[.leaf, .pt 0 0]
abbrev xq:List Lf:=[.str, .int .u32, .int .u32, .int .u32, .int .u32, .int .u32, .int .u32, .int .u32, .int .u32]
abbrev ZE:List ObSh:=[.cells [.leaf, .leaf, .leaf, .leaf, .leaf, .leaf, .leaf, .leaf]]
def V6 (g:prodL xq) (K:Kn):Prop:=
 sp66.pre (g.2.1,g.2.2.1,g.2.2.2.1,g.2.2.2.2.1,g.2.2.2.2.2.1,g.2.2.2.2.2.2.1,g.2.2.2.2.2.2.2.1,g.2.2.2.2.2.2.2.2.1,g.1,())/\
 K (.bool true) [some (.cells [.int .u32 ((qK [g.2.1,g.2.2.1,g.2.2.2.1,g.2.2.2.2.1,g.2.2.2.2.2.1,g.2.2.2.2.2.2.1,g.2.2.2.2.2.2.2.1,g.2.2.2.2.2.2.2.2.1] g.1).getD 0 0), .int .u32 ((qK [g.2.1,g.2.2.1,g.2.2.2.1,g.2.2.2.2.1,g.2.2.2.2.2.1,g.2.2.2.2.2.2.1,g.2.2.2.2.2.2.2.1,g.2.2.2.2.2.2.2.2.1] g.1).getD 1 0), .int .u32 ((qK [g.2.1,g.2.2.1,g.2.2.2.1,g.2.2.2.2.1,g.2.2.2.2.2.1,g.2.2.2.2.2.2.1,g.2.2.2.2.2.2.2.1,g.2.2.2.2.2.2.2.2.1] g.1).getD 2 0), .int .u32 ((qK [g.2.1,g.2.2.1,g.2.2.2.1,g.2.2.2.2.1,g.2.2.2.2.2.1,g.2.2.2.2.2.2.1,g.2.2.2.2.2.2.2.1,g.2.2.2.2.2.2.2.2.1] g.1).getD 3 0), .int .u32 ((qK [g.2.1,g.2.2.1,g.2.2.2.1,g.2.2.2.2.1,g.2.2.2.2.2.1,g.2.2.2.2.2.2.1,g.2.2.2.2.2.2.2.1,g.2.2.2.2.2.2.2.2.1] g.1).getD 4 0), .int .u32 ((qK [g.2.1,g.2.2.1,g.2.2.2.1,g.2.2.2.2.1,g.2.2.2.2.2.1,g.2.2.2.2.2.2.1,g.2.2.2.2.2.2.2.1,g.2.2.2.2.2.2.2.2.1] g.1).getD 5 0), .int .u32 ((qK [g.2.1,g.2.2.1,g.2.2.2.1,g.2.2.2.2.1,g.2.2.2.2.2.1,g.2.2.2.2.2.2.1,g.2.2.2.2.2.2.2.1,g.2.2.2.2.2.2.2.2.1] g.1).getD 6 0), .int .u32 ((qK [g.2.1,g.2.2.1,g.2.2.2.1,g.2.2.2.2.1,g.2.2.2.2.2.1,g.2.2.2.2.2.2.1,g.2.2.2.2.2.2.2.1,g.2.2.2.2.2.2.2.2.1] g.1).getD 7 0)])]
theorem F1033004_eq (g:prodL xq) (K:Kn):V6 g K=qd D (qk [] [(66,true,sp66)]) (qx []) H1033004 J1033004 (QP Tryz.prog 1033004) [3] (argsT wi xq g) (qg wi ZE xq g) (settleD (qg wi ZE xq g).length 0 K) 0:=by kernel_rfl
theorem F1033004_ok (g:prodL xq) (K X:Kn) (h:V6 g K):FCalls Tryz.prog 1033004 (argsT wi xq g) (qg wi ZE xq g) K X 0:=
 FCalls.settleD (YO (Γ:=qk [] [(66,true,sp66)]) (mu:=qx []) (H:=H1033004) (J:=J1033004) qY (qV (rs:=[]) (l:=[(66,true,sp66)]) (fun p hp=>by cases hp) (by intro p hp;simp only [List.mem_cons,List.not_mem_nil,or_false] at hp;subst hp;exact sp66_ok)) qj rfl (yi:=⟨33,4,[3]⟩) rfl (by kernel_rfl) (by kernel_rfl) (by kernel_rfl) (by rw [F1033004_eq g K] at h;exact h))
def vd:Raw:=⟨wi,ZE,xq,0,fun g K _=>V6 g K⟩
theorem qq0:vd.Ok Tryz.prog 1033004:=fun g K X h=>F1033004_ok g K X h
def H111:List (Nat×Hint):=[(2,⟨[],[(0, .fn 1033004 [] [.pt 0 0]),(1, .leaf),(3, .leaf),(4, .leaf)],[.cells [.leaf, .leaf, .leaf, .leaf, .leaf, .leaf, .leaf, .leaf]],[.pr .str, .int .i64, .int .i64, .int .u32, .int .u32, .int .u32, .int .u32, .int .u32, .int .u32, .int .u32, .int .u32]⟩),(6,⟨[((5,[]),none)],[(0, .fn 1033004 [] [.pt 0 0]),(1, .leaf),(5, .oa .u8 1)],[.cells [.leaf, .leaf, .leaf, .leaf, .leaf, .leaf, .leaf, .leaf], .arr .u8],[.pr .str, .int .u32, .int .u32, .int .u32, .int .u32, .int .u32, .int .u32, .int .u32, .int .u32, .sl .u8]⟩),(9,⟨[((5,[]),none)],[(0, .fn 1033004 [] [.pt 0 0]),(1, .leaf),(5, .oa .u8 1),(6, .leaf)],[.cells [.leaf, .leaf, .leaf, .leaf, .leaf, .leaf, .leaf, .leaf], .arr .u8],[.pr .str, .int .i64, .int .u32, .int .u32, .int .u32, .int .u32, .int .u32, .int .u32, .int .u32, .int .u32, .sl .u8]⟩),(13,⟨[((5,[]),none)],[(0, .fn 1033004 [] [.pt 0 0]),(5, .oa .u8 1),(7, .leaf)],[.cells [.leaf, .leaf, .leaf, .leaf, .leaf, .leaf, .leaf, .leaf], .arr .u8],[.int .i64, .int .u32, .int .u32, .int .u32, .int .u32, .int .u32, .int .u32, .int .u32, .int .u32, .sl .u8]⟩)]
def J111:List (Nat×Hint):=[]
abbrev S111:List Sh:=[.fn 1033004 [] [.pt 0 0], .leaf]
abbrev qzy:List Lf:=[.pr .str, .int .u32, .int .u32, .int .u32, .int .u32, .int .u32, .int .u32, .int .u32, .int .u32]
abbrev O111:List ObSh:=[.cells [.leaf, .leaf, .leaf, .leaf, .leaf, .leaf, .leaf, .leaf]]
def qqy (K:Kn) (W9:prodL [.int .i64, .int .u32, .int .u32, .int .u32, .int .u32, .int .u32, .int .u32, .int .u32, .int .u32, .sl .u8]->Prop) (i_8 o01_8 o02_8 o03_8 o04_8 o05_8 o06_8 o07_8 o08_8:Int) (last_8:List Int):Prop:=
 bif decide (i_8< (last_8.length:Int))then (
  (0:Int)<=i_8/\i_8<=IntKind.i64.wrap (i_8+64)/\IntKind.i64.wrap (i_8+64)<=(last_8.length:Int)/\
 let g10:prodL [.str, .int .u32, .int .u32, .int .u32, .int .u32, .int .u32, .int .u32, .int .u32, .int .u32]:=(zb ((last_8.drop i_8.toNat).take ((IntKind.i64.wrap (i_8+64)).toNat-i_8.toNat)),o01_8,o02_8,o03_8,o04_8,o05_8,o06_8,o07_8,o08_8,());
 sp66.pre (g10.2.1,g10.2.2.1,g10.2.2.2.1,g10.2.2.2.2.1,g10.2.2.2.2.2.1,g10.2.2.2.2.2.2.1,g10.2.2.2.2.2.2.2.1,g10.2.2.2.2.2.2.2.2.1,g10.1,())/\
 W9 (IntKind.i64.wrap (i_8+64),(qK [g10.2.1,g10.2.2.1,g10.2.2.2.1,g10.2.2.2.2.1,g10.2.2.2.2.2.1,g10.2.2.2.2.2.2.1,g10.2.2.2.2.2.2.2.1,g10.2.2.2.2.2.2.2.2.1] g10.1).getD 0 0,(qK [g10.2.1,g10.2.2.1,g10.2.2.2.1,g10.2.2.2.2.1,g10.2.2.2.2.2.1,g10.2.2.2.2.2.2.1,g10.2.2.2.2.2.2.2.1,g10.2.2.2.2.2.2.2.2.1] g10.1).getD 1 0,(qK [g10.2.1,g10.2.2.1,g10.2.2.2.1,g10.2.2.2.2.1,g10.2.2.2.2.2.1,g10.2.2.2.2.2.2.1,g10.2.2.2.2.2.2.2.1,g10.2.2.2.2.2.2.2.2.1] g10.1).getD 2 0,(qK [g10.2.1,g10.2.2.1,g10.2.2.2.1,g10.2.2.2.2.1,g10.2.2.2.2.2.1,g10.2.2.2.2.2.2.1,g10.2.2.2.2.2.2.2.1,g10.2.2.2.2.2.2.2.2.1] g10.1).getD 3 0,(qK [g10.2.1,g10.2.2.1,g10.2.2.2.1,g10.2.2.2.2.1,g10.2.2.2.2.2.1,g10.2.2.2.2.2.2.1,g10.2.2.2.2.2.2.2.1,g10.2.2.2.2.2.2.2.2.1] g10.1).getD 4 0,(qK [g10.2.1,g10.2.2.1,g10.2.2.2.1,g10.2.2.2.2.1,g10.2.2.2.2.2.1,g10.2.2.2.2.2.2.1,g10.2.2.2.2.2.2.2.1,g10.2.2.2.2.2.2.2.2.1] g10.1).getD 5 0,(qK [g10.2.1,g10.2.2.1,g10.2.2.2.1,g10.2.2.2.2.1,g10.2.2.2.2.2.1,g10.2.2.2.2.2.2.1,g10.2.2.2.2.2.2.2.1,g10.2.2.2.2.2.2.2.2.1] g10.1).getD 6 0,(qK [g10.2.1,g10.2.2.1,g10.2.2.2.1,g10.2.2.2.2.1,g10.2.2.2.2.2.1,g10.2.2.2.2.2.2.1,g10.2.2.2.2.2.2.2.1,g10.2.2.2.2.2.2.2.2.1] g10.1).getD 7 0,last_8,()))
 else (
  K (.tu []) [some (.cells [.int .u32 o01_8, .int .u32 o02_8, .int .u32 o03_8, .int .u32 o04_8, .int .u32 o05_8, .int .u32 o06_8, .int .u32 o07_8, .int .u32 o08_8])])
def XR (K:Kn) (g:prodL [.int .i64, .int .u32, .int .u32, .int .u32, .int .u32, .int .u32, .int .u32, .int .u32, .int .u32, .sl .u8]):Prop:=
 qQ (γ:=prodL [.int .i64, .int .u32, .int .u32, .int .u32, .int .u32, .int .u32, .int .u32, .int .u32, .int .u32, .sl .u8]) (fun V y=>qqy K V y.1 y.2.1 y.2.2.1 y.2.2.2.1 y.2.2.2.2.1 y.2.2.2.2.2.1 y.2.2.2.2.2.2.1 y.2.2.2.2.2.2.2.1 y.2.2.2.2.2.2.2.2.1 y.2.2.2.2.2.2.2.2.2.1) g
def Je (K:Kn) (W7:prodL [.pr .str, .int .i64, .int .u32, .int .u32, .int .u32, .int .u32, .int .u32, .int .u32, .int .u32, .int .u32, .sl .u8]->Prop) (t_6:ByteArray) (i_6 o01_6 o02_6 o03_6 o04_6 o05_6 o06_6 o07_6 o08_6:Int) (last_6:List Int):Prop:=
 bif decide (0<=i_6)then (
  (0:Int)<=i_6/\
 ql (last_6.length+[IntKind.u8.wrap (Int.fdiv (IntKind.u64.wrap ((IntKind.u64.wrap (t_6.size:Int))*8)) (2^(min i_6.toNat IntKind.u64.bits)))].length) 1 (
 W7 (t_6,IntKind.i64.wrap (i_6-8),o01_6,o02_6,o03_6,o04_6,o05_6,o06_6,o07_6,o08_6,last_6++[IntKind.u8.wrap (Int.fdiv (IntKind.u64.wrap ((IntKind.u64.wrap (t_6.size:Int))*8)) (2^(min i_6.toNat IntKind.u64.bits)))],())))
 else (
  XR K (0,o01_6,o02_6,o03_6,o04_6,o05_6,o06_6,o07_6,o08_6,last_6,()))
def X4 (K:Kn) (g:prodL [.pr .str, .int .i64, .int .u32, .int .u32, .int .u32, .int .u32, .int .u32, .int .u32, .int .u32, .int .u32, .sl .u8]):Prop:=
 qQ (γ:=prodL [.pr .str, .int .i64, .int .u32, .int .u32, .int .u32, .int .u32, .int .u32, .int .u32, .int .u32, .int .u32, .sl .u8]) (fun V y=>Je K V y.1 y.2.1 y.2.2.1 y.2.2.2.1 y.2.2.2.2.1 y.2.2.2.2.2.1 y.2.2.2.2.2.2.1 y.2.2.2.2.2.2.2.1 y.2.2.2.2.2.2.2.2.1 y.2.2.2.2.2.2.2.2.2.1 y.2.2.2.2.2.2.2.2.2.2.1) g
def F111_B5 (K:Kn) (W5:prodL [.pr .str, .int .u32, .int .u32, .int .u32, .int .u32, .int .u32, .int .u32, .int .u32, .int .u32, .sl .u8]->Prop) (t_4:ByteArray) (o01_4 o02_4 o03_4 o04_4 o05_4 o06_4 o07_4 o08_4:Int) (last_4:List Int):Prop:=
 ¬64=(0:Int)/\
 bif !decide (Int.tmod (last_4.length:Int) 64=56)then (
  ql (last_4.length+[0].length) 1 (
 W5 (t_4,o01_4,o02_4,o03_4,o04_4,o05_4,o06_4,o07_4,o08_4,last_4++[0],())))
 else (
  X4 K (t_4,56,o01_4,o02_4,o03_4,o04_4,o05_4,o06_4,o07_4,o08_4,last_4,()))
def F111_L5 (K:Kn) (g:prodL [.pr .str, .int .u32, .int .u32, .int .u32, .int .u32, .int .u32, .int .u32, .int .u32, .int .u32, .sl .u8]):Prop:=
 qQ (γ:=prodL [.pr .str, .int .u32, .int .u32, .int .u32, .int .u32, .int .u32, .int .u32, .int .u32, .int .u32, .sl .u8]) (fun V y=>F111_B5 K V y.1 y.2.1 y.2.2.1 y.2.2.2.1 y.2.2.2.2.1 y.2.2.2.2.2.1 y.2.2.2.2.2.2.1 y.2.2.2.2.2.2.2.1 y.2.2.2.2.2.2.2.2.1 y.2.2.2.2.2.2.2.2.2.1) g
def qqo (K:Kn) (W2:prodL [.pr .str, .int .i64, .int .i64, .int .u32, .int .u32, .int .u32, .int .u32, .int .u32, .int .u32, .int .u32, .int .u32]->Prop) (t_1:ByteArray) (whole_1 i_1 o01_1 o02_1 o03_1 o04_1 o05_1 o06_1 o07_1 o08_1:Int):Prop:=
 bif decide (i_1<whole_1)then (
  (0:Int)<=i_1/\i_1<=IntKind.i64.wrap (i_1+64)/\IntKind.i64.wrap (i_1+64)<=(t_1.size:Int)/\
 let g3:prodL [.str, .int .u32, .int .u32, .int .u32, .int .u32, .int .u32, .int .u32, .int .u32, .int .u32]:=(t_1.extract i_1.toNat (IntKind.i64.wrap (i_1+64)).toNat,o01_1,o02_1,o03_1,o04_1,o05_1,o06_1,o07_1,o08_1,());
 sp66.pre (g3.2.1,g3.2.2.1,g3.2.2.2.1,g3.2.2.2.2.1,g3.2.2.2.2.2.1,g3.2.2.2.2.2.2.1,g3.2.2.2.2.2.2.2.1,g3.2.2.2.2.2.2.2.2.1,g3.1,())/\
 W2 (t_1,whole_1,IntKind.i64.wrap (i_1+64),(qK [g3.2.1,g3.2.2.1,g3.2.2.2.1,g3.2.2.2.2.1,g3.2.2.2.2.2.1,g3.2.2.2.2.2.2.1,g3.2.2.2.2.2.2.2.1,g3.2.2.2.2.2.2.2.2.1] g3.1).getD 0 0,(qK [g3.2.1,g3.2.2.1,g3.2.2.2.1,g3.2.2.2.2.1,g3.2.2.2.2.2.1,g3.2.2.2.2.2.2.1,g3.2.2.2.2.2.2.2.1,g3.2.2.2.2.2.2.2.2.1] g3.1).getD 1 0,(qK [g3.2.1,g3.2.2.1,g3.2.2.2.1,g3.2.2.2.2.1,g3.2.2.2.2.2.1,g3.2.2.2.2.2.2.1,g3.2.2.2.2.2.2.2.1,g3.2.2.2.2.2.2.2.2.1] g3.1).getD 2 0,(qK [g3.2.1,g3.2.2.1,g3.2.2.2.1,g3.2.2.2.2.1,g3.2.2.2.2.2.1,g3.2.2.2.2.2.2.1,g3.2.2.2.2.2.2.2.1,g3.2.2.2.2.2.2.2.2.1] g3.1).getD 3 0,(qK [g3.2.1,g3.2.2.1,g3.2.2.2.1,g3.2.2.2.2.1,g3.2.2.2.2.2.1,g3.2.2.2.2.2.2.1,g3.2.2.2.2.2.2.2.1,g3.2.2.2.2.2.2.2.2.1] g3.1).getD 4 0,(qK [g3.2.1,g3.2.2.1,g3.2.2.2.1,g3.2.2.2.2.1,g3.2.2.2.2.2.1,g3.2.2.2.2.2.2.1,g3.2.2.2.2.2.2.2.1,g3.2.2.2.2.2.2.2.2.1] g3.1).getD 5 0,(qK [g3.2.1,g3.2.2.1,g3.2.2.2.1,g3.2.2.2.2.1,g3.2.2.2.2.2.1,g3.2.2.2.2.2.2.1,g3.2.2.2.2.2.2.2.1,g3.2.2.2.2.2.2.2.2.1] g3.1).getD 6 0,(qK [g3.2.1,g3.2.2.1,g3.2.2.2.1,g3.2.2.2.2.1,g3.2.2.2.2.2.1,g3.2.2.2.2.2.2.1,g3.2.2.2.2.2.2.2.1,g3.2.2.2.2.2.2.2.2.1] g3.1).getD 7 0,()))
 else (
  (0:Int)<=whole_1/\whole_1<=(t_1.size:Int)/\(t_1.size:Int)<=(t_1.size:Int)/\
 ql (t_1.extract whole_1.toNat (t_1.size:Int).toNat).size 1 (
 ql ((zx (t_1.extract whole_1.toNat (t_1.size:Int).toNat)).length+[128].length) 1 (
 F111_L5 K (t_1,o01_1,o02_1,o03_1,o04_1,o05_1,o06_1,o07_1,o08_1,(zx (t_1.extract whole_1.toNat (t_1.size:Int).toNat))++[128],()))))
def qql (K:Kn) (g:prodL [.pr .str, .int .i64, .int .i64, .int .u32, .int .u32, .int .u32, .int .u32, .int .u32, .int .u32, .int .u32, .int .u32]):Prop:=
 qQ (γ:=prodL [.pr .str, .int .i64, .int .i64, .int .u32, .int .u32, .int .u32, .int .u32, .int .u32, .int .u32, .int .u32, .int .u32]) (fun V y=>qqo K V y.1 y.2.1 y.2.2.1 y.2.2.2.1 y.2.2.2.2.1 y.2.2.2.2.2.1 y.2.2.2.2.2.2.1 y.2.2.2.2.2.2.2.1 y.2.2.2.2.2.2.2.2.1 y.2.2.2.2.2.2.2.2.2.1 y.2.2.2.2.2.2.2.2.2.2.1) g
def F111 (g:prodL qzy) (K:Kn):Prop:=
 ¬64=(0:Int)/\
 qql K (g.1,IntKind.i64.wrap ((IntKind.i64.wrap (Int.tdiv (g.1.size:Int) 64))*64),0,g.2.1,g.2.2.1,g.2.2.2.1,g.2.2.2.2.1,g.2.2.2.2.2.1,g.2.2.2.2.2.2.1,g.2.2.2.2.2.2.2.1,g.2.2.2.2.2.2.2.2.1,())
theorem F111_eq (g:prodL qzy) (K X:Kn):F111 g K=qJ D (qk [(1033004,vd)] []) (qx [(1033004,vd)]) H111 J111 67 [] (qz Tryz.f111) (argsT S111 qzy g) (qg S111 O111 qzy g) (settleD (qg S111 O111 qzy g).length 0 K) X 0:=by kernel_rfl
theorem F111_ok (g:prodL qzy) (K X:Kn) (h:F111 g K):FCalls Tryz.prog 111 (argsT S111 qzy g) (qg S111 O111 qzy g) K X 0:=
 FCalls.settleD (qq (Γ:=qk [(1033004,vd)] []) (mu:=qx [(1033004,vd)]) (H:=H111) (J:=J111) qY (qV (rs:=[(1033004,vd)]) (l:=[]) (by intro p hp;simp only [List.mem_cons,List.not_mem_nil,or_false] at hp;subst hp;exact qq0) (fun p hp=>by cases hp)) qj rfl Tryz.func111 (c:=qz Tryz.f111) rfl Tryz.ntmps111 (rs:=[]) Tryz.results111 (by unfold qv;rw [Tryz.func111];kernel_rfl) (Nat.le_of_ble_eq_true (by kernel_rfl)) (X:=X) (c0:=0) (Eq.mp (F111_eq g K X) h))
end Go.Proofs.YtbglndogddddoaaGreatDoor
namespace Go.Proofs.YtbglndogddddoaaGreatDoor
open Go.RowKit
set_option maxRecDepth 100000
def vA (st:List Int) (l:List ByteArray) (n:Nat):List Int:=(l.take n).foldl qK st
theorem qqv (st:List Int) (l:List ByteArray):vA st l 0=st:=by simp [vA]
theorem qq5 (st:List Int) {l:List ByteArray} {n:Nat} (h:n<l.length):vA st l (n+1)=qK (vA st l n) l[n]:=by
 unfold vA
 rw [jh h,List.foldl_append];rfl
theorem vA_len {st:List Int} (h:st.length=8) (l:List ByteArray) (n:Nat):(vA st l n).length=8:=foldl_len h
theorem vA_all (st:List Int) (l:List ByteArray):vA st l l.length=l.foldl qK st:=by unfold vA;rw [List.take_length]
theorem bStr_size (l:List Int):(zb l).size=l.length:=by
 show (l.map fun n=>UInt8.ofNat n.toNat).toArray.size=_
 simp
theorem strB_cut (s:ByteArray) (a b:Nat) (hb:b<=s.size):(zx (s.extract a b)).length=b-a:=by
 rw [xJ,ByteArray.size_extract];omega
theorem Yb (s:ByteArray):(Qi s).length=s.size%64+1:=by
 unfold Qi
 rw [List.length_append,strB_cut _ _ _ (Nat.le_refl _),List.length_singleton];omega
theorem padL_len (s:ByteArray):(qqm s).length%64=56/\(qqm s).length<=130:=by
 unfold qqm
 rw [List.length_append,List.length_replicate,Yb]
 unfold wD
 omega
theorem JP (s:ByteArray):(wj s).length%64=0/\(wj s).length<=138:=by
 have:=padL_len s
 unfold wj
 rw [List.length_append,List.length_map,List.length_range]
 omega
theorem F111_L9_is {x0 x1 x2 x3 x4 x5 x6 x7:Int} {last:List Int} {K:Kn} (h1:last.length%64=0) (h2:last.length<=1000) (h:K (.tu []) [some (.cells [.int .u32 ((((List.range (last.length / 64)).map (yf last)).foldl qK [x0,x1,x2,x3,x4,x5,x6,x7]).getD 0 0), .int .u32 ((((List.range (last.length / 64)).map (yf last)).foldl qK [x0,x1,x2,x3,x4,x5,x6,x7]).getD 1 0), .int .u32 ((((List.range (last.length / 64)).map (yf last)).foldl qK [x0,x1,x2,x3,x4,x5,x6,x7]).getD 2 0), .int .u32 ((((List.range (last.length / 64)).map (yf last)).foldl qK [x0,x1,x2,x3,x4,x5,x6,x7]).getD 3 0), .int .u32 ((((List.range (last.length / 64)).map (yf last)).foldl qK [x0,x1,x2,x3,x4,x5,x6,x7]).getD 4 0), .int .u32 ((((List.range (last.length / 64)).map (yf last)).foldl qK [x0,x1,x2,x3,x4,x5,x6,x7]).getD 5 0), .int .u32 ((((List.range (last.length / 64)).map (yf last)).foldl qK [x0,x1,x2,x3,x4,x5,x6,x7]).getD 6 0), .int .u32 ((((List.range (last.length / 64)).map (yf last)).foldl qK [x0,x1,x2,x3,x4,x5,x6,x7]).getD 7 0)])]):XR K (0,x0,x1,x2,x3,x4,x5,x6,x7,last,()):=by
 have hN:((List.range (last.length / 64)).map (yf last)).length=last.length / 64:=by simp
 have hg: ∀n (hn:n< ((List.range (last.length / 64)).map (yf last)).length),((List.range (last.length / 64)).map (yf last))[n]=yf last n:=fun n hn=>by simp
 rw [<- vA_all,hN] at h
 have hz:=qqv [x0,x1,x2,x3,x4,x5,x6,x7] ((List.range (last.length / 64)).map (yf last))
 have hs: ∀n,n<last.length / 64->vA [x0,x1,x2,x3,x4,x5,x6,x7] ((List.range (last.length / 64)).map (yf last)) (n+1)=qK (vA [x0,x1,x2,x3,x4,x5,x6,x7] ((List.range (last.length / 64)).map (yf last)) n) (yf last n):=fun n hn=>by
  rw [qq5 _ (by rw [hN];exact hn),hg]
 have hl:=vA_len (st:=[x0,x1,x2,x3,x4,x5,x6,x7]) rfl ((List.range (last.length / 64)).map (yf last))
 generalize vA [x0,x1,x2,x3,x4,x5,x6,x7] ((List.range (last.length / 64)).map (yf last))=v at h hz hs hl
 unfold XR
 refine qQ.countTo (last.length / 64) (fun n=>(((64*n:Nat):Int),(v n).getD 0 0,(v n).getD 1 0,(v n).getD 2 0,(v n).getD 3 0,(v n).getD 4 0,(v n).getD 5 0,(v n).getD 6 0,(v n).getD 7 0,last,())) (fun _=>True) (by rw [hz];rfl) (fun n hn _ W hW=> ?_) trivial
 show qqy K W ((64*n:Nat):Int) ((v n).getD 0 0) ((v n).getD 1 0) ((v n).getD 2 0) ((v n).getD 3 0) ((v n).getD 4 0) ((v n).getD 5 0) ((v n).getD 6 0) ((v n).getD 7 0) last
 unfold qqy
 by_cases hlt:n<last.length / 64
 . rw [decide_eq_true (by omega),cond_true]
   have e:IntKind.i64.wrap (((64*n:Nat):Int)+64)=((64*n+64:Nat):Int):=by rw [wI (by omega)];omega
   have hb:(last.drop ((64*n:Nat):Int).toNat).take (((64*n+64:Nat):Int).toNat- ((64*n:Nat):Int).toNat)=(last.drop (64*n)).take 64:=by
    rw [toN,toN,show 64*n+64-64*n=64 by omega]
   rw [e,hb]
   have hW:=hW hlt trivial
   rw [hs n hlt] at hW
   obtain ⟨a,b,c,d,e,f,g,k,hv⟩:=Wx (hl n)
   rw [hv] at hW ⊢
   refine ⟨by omega,by omega,by omega, ?_, ?_⟩
   . show (zb ((last.drop (64*n)).take 64)).size=64
     rw [bStr_size,List.length_take,List.length_drop];omega
   . exact hW
 . have:n=last.length / 64:=by omega
   subst this
   rw [decide_eq_false (by omega),cond_false]
   exact h
theorem F111_L7_is {s:ByteArray} {x0 x1 x2 x3 x4 x5 x6 x7:Int} {K:Kn} (hs:s.size<=4194304) (h:XR K (0,x0,x1,x2,x3,x4,x5,x6,x7,wj s,())):X4 K (s,56,x0,x1,x2,x3,x4,x5,x6,x7,qqm s,()):=by
 have hp:=padL_len s
 unfold X4
 refine qQ.mapN 8 (lenB s) (fun n out=>(s,56-8*(n:Int),x0,x1,x2,x3,x4,x5,x6,x7,qqm s++out,())) (by rw [List.append_nil];rfl) (fun W n hn out ho hW=> ?_) fun W=> ?_
 . show Je K W s (56-8*(n:Int)) x0 x1 x2 x3 x4 x5 x6 x7 (qqm s++out)
   unfold Je
   rw [decide_eq_true (by omega),cond_true]
   refine ⟨by omega,by simp only [List.length_append,List.length_singleton,ho];omega, ?_⟩
   rw [<- List.append_assoc] at hW
   rw [wI (by omega),show (56:Int) - 8*(n:Int) - 8=56-8*((n+1:Nat):Int)by omega]
   exact hW
 . show Je K W s (56-8*((8:Nat):Int)) x0 x1 x2 x3 x4 x5 x6 x7 (wj s)
   unfold Je
   rw [decide_eq_false (by omega),cond_false]
   exact h
theorem F111_L5_is {s:ByteArray} {x0 x1 x2 x3 x4 x5 x6 x7:Int} {K:Kn} (h:X4 K (s,56,x0,x1,x2,x3,x4,x5,x6,x7,qqm s,())):F111_L5 K (s,x0,x1,x2,x3,x4,x5,x6,x7,Qi s,()):=by
 have he:=Yb s
 unfold F111_L5
 refine qQ.countTo (wD (Qi s).length) (fun n=>(s,x0,x1,x2,x3,x4,x5,x6,x7,Qi s++List.replicate n 0,())) (fun _=>True) (by simp) (fun n hn _ W hW=> ?_) trivial
 show F111_B5 K W s x0 x1 x2 x3 x4 x5 x6 x7 (Qi s++List.replicate n 0)
 unfold F111_B5
 refine ⟨by omega, ?_⟩
 have hlen:(Qi s++List.replicate n 0).length=s.size%64+1+n:=by rw [List.length_append,List.length_replicate,he]
 rw [hlen,Int.tmod_eq_emod_of_nonneg (Int.natCast_nonneg _)]
 have hp:wD (Qi s).length=(120- (s.size%64+1)%64)%64:=by unfold wD;rw [he]
 by_cases hlt:n<wD (Qi s).length
 . rw [decide_eq_false (show¬((s.size%64+1+n:Nat):Int)%64=56 by omega),Bool.not_false,cond_true]
   refine ⟨by simp only [List.length_singleton];omega, ?_⟩
   have:=hW hlt trivial
   rw [List.replicate_succ', <- List.append_assoc] at this
   exact this
 . have e:n=wD (Qi s).length:=by omega
   rw [decide_eq_true (show ((s.size%64+1+n:Nat):Int)%64=56 by omega),Bool.not_true,cond_false]
   rw [e];exact h
theorem F111_is {s:ByteArray} {x0 x1 x2 x3 x4 x5 x6 x7:Int} {K:Kn} (hsz:s.size<=4194304) (h:K (.tu []) [some (.cells [.int .u32 ((zX [x0,x1,x2,x3,x4,x5,x6,x7] s).getD 0 0), .int .u32 ((zX [x0,x1,x2,x3,x4,x5,x6,x7] s).getD 1 0), .int .u32 ((zX [x0,x1,x2,x3,x4,x5,x6,x7] s).getD 2 0), .int .u32 ((zX [x0,x1,x2,x3,x4,x5,x6,x7] s).getD 3 0), .int .u32 ((zX [x0,x1,x2,x3,x4,x5,x6,x7] s).getD 4 0), .int .u32 ((zX [x0,x1,x2,x3,x4,x5,x6,x7] s).getD 5 0), .int .u32 ((zX [x0,x1,x2,x3,x4,x5,x6,x7] s).getD 6 0), .int .u32 ((zX [x0,x1,x2,x3,x4,x5,x6,x7] s).getD 7 0)])]):F111 (s,x0,x1,x2,x3,x4,x5,x6,x7,()) K:=by
 unfold F111
 refine ⟨by omega, ?_⟩
 have hw:IntKind.i64.wrap (IntKind.i64.wrap (Int.tdiv (s.size:Int) 64)*64)=((s.size / 64*64:Nat):Int):=by
  rw [Int.tdiv_eq_ediv_of_nonneg (Int.natCast_nonneg _),wI (n:=(s.size:Int) / 64) (by omega),wI (by omega)];omega
 show qql K (s,IntKind.i64.wrap (IntKind.i64.wrap (Int.tdiv (s.size:Int) 64)*64),0,x0,x1,x2,x3,x4,x5,x6,x7,())
 rw [hw]
 unfold zX at h
 rw [List.foldl_append] at h
 have hN:(Zc s).length=s.size / 64:=by simp [Zc]
 have hg: ∀n (hn:n< (Zc s).length),(Zc s)[n]=ZQ s n:=fun n hn=>by simp [Zc]
 rw [<- vA_all [x0,x1,x2,x3,x4,x5,x6,x7] (Zc s),hN] at h
 have hz:=qqv [x0,x1,x2,x3,x4,x5,x6,x7] (Zc s)
 have hs: ∀n,n<s.size / 64->vA [x0,x1,x2,x3,x4,x5,x6,x7] (Zc s) (n+1)=qK (vA [x0,x1,x2,x3,x4,x5,x6,x7] (Zc s) n) (ZQ s n):=fun n hn=>by
  rw [qq5 _ (by rw [hN];exact hn),hg]
 have hl:=vA_len (st:=[x0,x1,x2,x3,x4,x5,x6,x7]) rfl (Zc s)
 generalize vA [x0,x1,x2,x3,x4,x5,x6,x7] (Zc s)=v at h hz hs hl
 unfold qql
 refine qQ.countTo (s.size / 64) (fun n=>(s,((s.size / 64*64:Nat):Int),((64*n:Nat):Int),(v n).getD 0 0,(v n).getD 1 0,(v n).getD 2 0,(v n).getD 3 0,(v n).getD 4 0,(v n).getD 5 0,(v n).getD 6 0,(v n).getD 7 0,())) (fun _=>True) (by rw [hz];rfl) (fun n hn _ W hW=> ?_) trivial
 show qqo K W s ((s.size / 64*64:Nat):Int) ((64*n:Nat):Int) ((v n).getD 0 0) ((v n).getD 1 0) ((v n).getD 2 0) ((v n).getD 3 0) ((v n).getD 4 0) ((v n).getD 5 0) ((v n).getD 6 0) ((v n).getD 7 0)
 unfold qqo
 by_cases hlt:n<s.size / 64
 . rw [decide_eq_true (by omega),cond_true]
   have e:IntKind.i64.wrap (((64*n:Nat):Int)+64)=((64*n+64:Nat):Int):=by rw [wI (by omega)];omega
   rw [e,toN,toN]
   have hW:=hW hlt trivial
   rw [hs n hlt] at hW
   obtain ⟨a,b,c,d,e,f,g,k,hv⟩:=Wx (hl n)
   rw [hv] at hW ⊢
   refine ⟨by omega,by omega,by omega, ?_, ?_⟩
   . show (s.extract (64*n) (64*n+64)).size=64
     rw [ByteArray.size_extract];omega
   . exact hW
 . have:n=s.size / 64:=by omega
   subst this
   rw [decide_eq_false (by omega),cond_false]
   obtain ⟨a,b,c,d,e,f,g,k,hv⟩:=Wx (hl (s.size / 64))
   rw [hv] at h ⊢
   rw [toN,toN]
   have hx:=strB_cut s (s.size / 64*64) s.size (Nat.le_refl _)
   refine ⟨by omega,by omega,by omega,by rw [ByteArray.size_extract];omega,by rw [hx,List.length_singleton];omega, ?_⟩
   have hla:=JP s
   exact F111_L5_is (F111_L7_is hsz (F111_L9_is hla.1 (by omega) h))
def Kt:Raw:=⟨S111,O111,qzy,0,fun g K _=>pre111 g/\K (.tu []) [some (.cells [.int .u32 ((zX [g.2.1,g.2.2.1,g.2.2.2.1,g.2.2.2.2.1,g.2.2.2.2.2.1,g.2.2.2.2.2.2.1,g.2.2.2.2.2.2.2.1,g.2.2.2.2.2.2.2.2.1] g.1).getD 0 0), .int .u32 ((zX [g.2.1,g.2.2.1,g.2.2.2.1,g.2.2.2.2.1,g.2.2.2.2.2.1,g.2.2.2.2.2.2.1,g.2.2.2.2.2.2.2.1,g.2.2.2.2.2.2.2.2.1] g.1).getD 1 0), .int .u32 ((zX [g.2.1,g.2.2.1,g.2.2.2.1,g.2.2.2.2.1,g.2.2.2.2.2.1,g.2.2.2.2.2.2.1,g.2.2.2.2.2.2.2.1,g.2.2.2.2.2.2.2.2.1] g.1).getD 2 0), .int .u32 ((zX [g.2.1,g.2.2.1,g.2.2.2.1,g.2.2.2.2.1,g.2.2.2.2.2.1,g.2.2.2.2.2.2.1,g.2.2.2.2.2.2.2.1,g.2.2.2.2.2.2.2.2.1] g.1).getD 3 0), .int .u32 ((zX [g.2.1,g.2.2.1,g.2.2.2.1,g.2.2.2.2.1,g.2.2.2.2.2.1,g.2.2.2.2.2.2.1,g.2.2.2.2.2.2.2.1,g.2.2.2.2.2.2.2.2.1] g.1).getD 4 0), .int .u32 ((zX [g.2.1,g.2.2.1,g.2.2.2.1,g.2.2.2.2.1,g.2.2.2.2.2.1,g.2.2.2.2.2.2.1,g.2.2.2.2.2.2.2.1,g.2.2.2.2.2.2.2.2.1] g.1).getD 5 0), .int .u32 ((zX [g.2.1,g.2.2.1,g.2.2.2.1,g.2.2.2.2.1,g.2.2.2.2.2.1,g.2.2.2.2.2.2.1,g.2.2.2.2.2.2.2.1,g.2.2.2.2.2.2.2.2.1] g.1).getD 6 0), .int .u32 ((zX [g.2.1,g.2.2.1,g.2.2.2.1,g.2.2.2.2.1,g.2.2.2.2.2.1,g.2.2.2.2.2.2.1,g.2.2.2.2.2.2.2.1,g.2.2.2.2.2.2.2.2.1] g.1).getD 7 0)])]⟩
theorem rw111_ok:Kt.Ok Tryz.prog 111:=fun g K X h=>F111_ok g K X (F111_is h.1 h.2)
end Go.Proofs.YtbglndogddddoaaGreatDoor
namespace Go.Proofs.YtbglndogddddoaaGreatDoor
open Go.RowKit
attribute [local irreducible] qJ qd
set_option maxRecDepth 100000
def H33:List (Nat×Hint):=[(7,⟨[],[],[],[]⟩),(10,⟨[],[],[],[]⟩),(5000010,⟨[],[],[],[]⟩),(9000007,⟨[],[],[],[]⟩)]
def J33:List (Nat×Hint):=[]
abbrev S33:List Sh:=[.leaf]
abbrev L33:List Lf:=[.str]
def F33 (g:prodL L33) (K:Kn):Prop:=
 True/\
 True/\
 pre111 (g.1,1779033703,3144134277,1013904242,2773480762,1359893119,2600822924,528734635,1541459225,())/\
 (0:Int)<=0/\(0:Int).toNat<8/\
 (0:Int)<=24/\
 0<=(0:Int)/\(0:Int).toNat<32/\
 (0:Int)<=16/\
 0<=(1:Int)/\(1:Int).toNat<32/\
 (0:Int)<=8/\
 0<=(2:Int)/\(2:Int).toNat<32/\
 (0:Int)<=0/\
 0<=(3:Int)/\(3:Int).toNat<32/\
 (0:Int)<=1/\(1:Int).toNat<8/\
 (0:Int)<=24/\
 0<=(4:Int)/\(4:Int).toNat<32/\
 (0:Int)<=16/\
 0<=(5:Int)/\(5:Int).toNat<32/\
 (0:Int)<=8/\
 0<=(6:Int)/\(6:Int).toNat<32/\
 (0:Int)<=0/\
 0<=(7:Int)/\(7:Int).toNat<32/\
 (0:Int)<=2/\(2:Int).toNat<8/\
 (0:Int)<=24/\
 0<=(8:Int)/\(8:Int).toNat<32/\
 (0:Int)<=16/\
 0<=(9:Int)/\(9:Int).toNat<32/\
 (0:Int)<=8/\
 0<=(10:Int)/\(10:Int).toNat<32/\
 (0:Int)<=0/\
 0<=(11:Int)/\(11:Int).toNat<32/\
 (0:Int)<=3/\(3:Int).toNat<8/\
 (0:Int)<=24/\
 0<=(12:Int)/\(12:Int).toNat<32/\
 (0:Int)<=16/\
 0<=(13:Int)/\(13:Int).toNat<32/\
 (0:Int)<=8/\
 0<=(14:Int)/\(14:Int).toNat<32/\
 (0:Int)<=0/\
 0<=(15:Int)/\(15:Int).toNat<32/\
 (0:Int)<=4/\(4:Int).toNat<8/\
 (0:Int)<=24/\
 0<=(16:Int)/\(16:Int).toNat<32/\
 (0:Int)<=16/\
 0<=(17:Int)/\(17:Int).toNat<32/\
 (0:Int)<=8/\
 0<=(18:Int)/\(18:Int).toNat<32/\
 (0:Int)<=0/\
 0<=(19:Int)/\(19:Int).toNat<32/\
 (0:Int)<=5/\(5:Int).toNat<8/\
 (0:Int)<=24/\
 0<=(20:Int)/\(20:Int).toNat<32/\
 (0:Int)<=16/\
 0<=(21:Int)/\(21:Int).toNat<32/\
 (0:Int)<=8/\
 0<=(22:Int)/\(22:Int).toNat<32/\
 (0:Int)<=0/\
 0<=(23:Int)/\(23:Int).toNat<32/\
 (0:Int)<=6/\(6:Int).toNat<8/\
 (0:Int)<=24/\
 0<=(24:Int)/\(24:Int).toNat<32/\
 (0:Int)<=16/\
 0<=(25:Int)/\(25:Int).toNat<32/\
 (0:Int)<=8/\
 0<=(26:Int)/\(26:Int).toNat<32/\
 (0:Int)<=0/\
 0<=(27:Int)/\(27:Int).toNat<32/\
 (0:Int)<=7/\(7:Int).toNat<8/\
 (0:Int)<=24/\
 0<=(28:Int)/\(28:Int).toNat<32/\
 (0:Int)<=16/\
 0<=(29:Int)/\(29:Int).toNat<32/\
 (0:Int)<=8/\
 0<=(30:Int)/\(30:Int).toNat<32/\
 (0:Int)<=0/\
 0<=(31:Int)/\(31:Int).toNat<32/\
 K (.ag (enc .dig (⟨IntKind.u8.wrap (Int.fdiv ((zX [1779033703,3144134277,1013904242,2773480762,1359893119,2600822924,528734635,1541459225] g.1).getD 0 0) (2^(min (24:Int).toNat IntKind.u32.bits))),IntKind.u8.wrap (Int.fdiv ((zX [1779033703,3144134277,1013904242,2773480762,1359893119,2600822924,528734635,1541459225] g.1).getD 0 0) (2^(min (16:Int).toNat IntKind.u32.bits))),IntKind.u8.wrap (Int.fdiv ((zX [1779033703,3144134277,1013904242,2773480762,1359893119,2600822924,528734635,1541459225] g.1).getD 0 0) (2^(min (8:Int).toNat IntKind.u32.bits))),IntKind.u8.wrap (Int.fdiv ((zX [1779033703,3144134277,1013904242,2773480762,1359893119,2600822924,528734635,1541459225] g.1).getD 0 0) (2^(min (0:Int).toNat IntKind.u32.bits))),IntKind.u8.wrap (Int.fdiv ((zX [1779033703,3144134277,1013904242,2773480762,1359893119,2600822924,528734635,1541459225] g.1).getD 1 0) (2^(min (24:Int).toNat IntKind.u32.bits))),IntKind.u8.wrap (Int.fdiv ((zX [1779033703,3144134277,1013904242,2773480762,1359893119,2600822924,528734635,1541459225] g.1).getD 1 0) (2^(min (16:Int).toNat IntKind.u32.bits))),IntKind.u8.wrap (Int.fdiv ((zX [1779033703,3144134277,1013904242,2773480762,1359893119,2600822924,528734635,1541459225] g.1).getD 1 0) (2^(min (8:Int).toNat IntKind.u32.bits))),IntKind.u8.wrap (Int.fdiv ((zX [1779033703,3144134277,1013904242,2773480762,1359893119,2600822924,528734635,1541459225] g.1).getD 1 0) (2^(min (0:Int).toNat IntKind.u32.bits))),IntKind.u8.wrap (Int.fdiv ((zX [1779033703,3144134277,1013904242,2773480762,1359893119,2600822924,528734635,1541459225] g.1).getD 2 0) (2^(min (24:Int).toNat IntKind.u32.bits))),IntKind.u8.wrap (Int.fdiv ((zX [1779033703,3144134277,1013904242,2773480762,1359893119,2600822924,528734635,1541459225] g.1).getD 2 0) (2^(min (16:Int).toNat IntKind.u32.bits))),IntKind.u8.wrap (Int.fdiv ((zX [1779033703,3144134277,1013904242,2773480762,1359893119,2600822924,528734635,1541459225] g.1).getD 2 0) (2^(min (8:Int).toNat IntKind.u32.bits))),IntKind.u8.wrap (Int.fdiv ((zX [1779033703,3144134277,1013904242,2773480762,1359893119,2600822924,528734635,1541459225] g.1).getD 2 0) (2^(min (0:Int).toNat IntKind.u32.bits))),IntKind.u8.wrap (Int.fdiv ((zX [1779033703,3144134277,1013904242,2773480762,1359893119,2600822924,528734635,1541459225] g.1).getD 3 0) (2^(min (24:Int).toNat IntKind.u32.bits))),IntKind.u8.wrap (Int.fdiv ((zX [1779033703,3144134277,1013904242,2773480762,1359893119,2600822924,528734635,1541459225] g.1).getD 3 0) (2^(min (16:Int).toNat IntKind.u32.bits))),IntKind.u8.wrap (Int.fdiv ((zX [1779033703,3144134277,1013904242,2773480762,1359893119,2600822924,528734635,1541459225] g.1).getD 3 0) (2^(min (8:Int).toNat IntKind.u32.bits))),IntKind.u8.wrap (Int.fdiv ((zX [1779033703,3144134277,1013904242,2773480762,1359893119,2600822924,528734635,1541459225] g.1).getD 3 0) (2^(min (0:Int).toNat IntKind.u32.bits))),IntKind.u8.wrap (Int.fdiv ((zX [1779033703,3144134277,1013904242,2773480762,1359893119,2600822924,528734635,1541459225] g.1).getD 4 0) (2^(min (24:Int).toNat IntKind.u32.bits))),IntKind.u8.wrap (Int.fdiv ((zX [1779033703,3144134277,1013904242,2773480762,1359893119,2600822924,528734635,1541459225] g.1).getD 4 0) (2^(min (16:Int).toNat IntKind.u32.bits))),IntKind.u8.wrap (Int.fdiv ((zX [1779033703,3144134277,1013904242,2773480762,1359893119,2600822924,528734635,1541459225] g.1).getD 4 0) (2^(min (8:Int).toNat IntKind.u32.bits))),IntKind.u8.wrap (Int.fdiv ((zX [1779033703,3144134277,1013904242,2773480762,1359893119,2600822924,528734635,1541459225] g.1).getD 4 0) (2^(min (0:Int).toNat IntKind.u32.bits))),IntKind.u8.wrap (Int.fdiv ((zX [1779033703,3144134277,1013904242,2773480762,1359893119,2600822924,528734635,1541459225] g.1).getD 5 0) (2^(min (24:Int).toNat IntKind.u32.bits))),IntKind.u8.wrap (Int.fdiv ((zX [1779033703,3144134277,1013904242,2773480762,1359893119,2600822924,528734635,1541459225] g.1).getD 5 0) (2^(min (16:Int).toNat IntKind.u32.bits))),IntKind.u8.wrap (Int.fdiv ((zX [1779033703,3144134277,1013904242,2773480762,1359893119,2600822924,528734635,1541459225] g.1).getD 5 0) (2^(min (8:Int).toNat IntKind.u32.bits))),IntKind.u8.wrap (Int.fdiv ((zX [1779033703,3144134277,1013904242,2773480762,1359893119,2600822924,528734635,1541459225] g.1).getD 5 0) (2^(min (0:Int).toNat IntKind.u32.bits))),IntKind.u8.wrap (Int.fdiv ((zX [1779033703,3144134277,1013904242,2773480762,1359893119,2600822924,528734635,1541459225] g.1).getD 6 0) (2^(min (24:Int).toNat IntKind.u32.bits))),IntKind.u8.wrap (Int.fdiv ((zX [1779033703,3144134277,1013904242,2773480762,1359893119,2600822924,528734635,1541459225] g.1).getD 6 0) (2^(min (16:Int).toNat IntKind.u32.bits))),IntKind.u8.wrap (Int.fdiv ((zX [1779033703,3144134277,1013904242,2773480762,1359893119,2600822924,528734635,1541459225] g.1).getD 6 0) (2^(min (8:Int).toNat IntKind.u32.bits))),IntKind.u8.wrap (Int.fdiv ((zX [1779033703,3144134277,1013904242,2773480762,1359893119,2600822924,528734635,1541459225] g.1).getD 6 0) (2^(min (0:Int).toNat IntKind.u32.bits))),IntKind.u8.wrap (Int.fdiv ((zX [1779033703,3144134277,1013904242,2773480762,1359893119,2600822924,528734635,1541459225] g.1).getD 7 0) (2^(min (24:Int).toNat IntKind.u32.bits))),IntKind.u8.wrap (Int.fdiv ((zX [1779033703,3144134277,1013904242,2773480762,1359893119,2600822924,528734635,1541459225] g.1).getD 7 0) (2^(min (16:Int).toNat IntKind.u32.bits))),IntKind.u8.wrap (Int.fdiv ((zX [1779033703,3144134277,1013904242,2773480762,1359893119,2600822924,528734635,1541459225] g.1).getD 7 0) (2^(min (8:Int).toNat IntKind.u32.bits))),IntKind.u8.wrap (Int.fdiv ((zX [1779033703,3144134277,1013904242,2773480762,1359893119,2600822924,528734635,1541459225] g.1).getD 7 0) (2^(min (0:Int).toNat IntKind.u32.bits)))⟩:Dig))) []
theorem F33_eq (g:prodL L33) (K X:Kn):F33 g K=qJ D (qk [(111,Kt)] [(64,false,sp64),(65,false,sp65)]) (qx [(111,Kt)]) H33 J33 38 [.cell 2 32] (qz Tryz.f33) (argsT S33 L33 g) [] (settle0 K) X 0 1033000:=by kernel_rfl
theorem F33_ok (g:prodL L33) (K X:Kn) (h:F33 g K):FCalls Tryz.prog 33 (argsT S33 L33 g) [] K X:=
 FCalls.settle0 (qq (Γ:=qk [(111,Kt)] [(64,false,sp64),(65,false,sp65)]) (mu:=qx [(111,Kt)]) (H:=H33) (J:=J33) qY (qV (rs:=[(111,Kt)]) (l:=[(64,false,sp64),(65,false,sp65)]) (by intro p hp;simp only [List.mem_cons,List.not_mem_nil,or_false] at hp;subst hp;exact rw111_ok) (by intro p hp;simp only [List.mem_cons,List.not_mem_nil,or_false] at hp;rcases hp with rfl | rfl<;>first | exact sp64_ok | exact sp65_ok)) qj rfl Tryz.func33 (c:=qz Tryz.f33) rfl Tryz.ntmps33 Tryz.results33 (by unfold qv;rw [Tryz.func33];kernel_rfl) (Nat.le_of_ble_eq_true (by kernel_rfl)) (c0:=0) (Eq.mp (F33_eq g K X) h) (Xu [4] (by kernel_rfl) (by kernel_rfl)))
end Go.Proofs.YtbglndogddddoaaGreatDoor
namespace Go.Proofs.YtbglndogddddoaaGreatDoor
open Go.RowKit
set_option maxRecDepth 100000
theorem F33_is {s:ByteArray} {K:Kn} (hs:s.size<=4194304) (h:K (.ag (enc .dig (Q0 s))) []):F33 (s,()) K:=by
 unfold F33
 refine ⟨trivial,trivial,hs, ?_⟩
 repeat (refine And.intro (by decide) ?_)
 unfold Q0 at h
 show K (.ag (enc .dig (digW (zX st0 s)))) []
 exact h
def sp33:Sp:=⟨S33,L33,fun g=>g.1.size<=4194304,fun g=> .ag (enc .dig (Q0 g.1)),fun _=>none⟩
theorem sp33_ok:sp33.Ok Tryz.prog 33 true:=
 ⟨fun g K X hp h=>F33_ok g K X (F33_is hp h),fun _ _ _=>rfl,fun _=>rfl,fun _ _=>⟨rfl,rfl⟩⟩
end Go.Proofs.YtbglndogddddoaaGreatDoor
namespace Go.Proofs.YtbglndogddddoaaGreatDoor
open Go.RowKit Go.Shelf Go.Lib
set_option maxRecDepth 100000
theorem cb_refl: ∀l:List UInt8,Lib.compareBytes l l=0
 | []=>rfl
 | a::l=>by
  unfold Lib.compareBytes
  simp [cb_refl l]
theorem cb_anti: ∀l m:List UInt8,Lib.compareBytes l m= - Lib.compareBytes m l
 | [],[]=>rfl
 | [],_::_=>rfl
 | _::_,[]=>rfl
 | a::l,b::m=>by
  have:=cb_anti l m
  unfold Lib.compareBytes
  have h: ∀x y:UInt8,x<y↔x.toNat<y.toNat:=fun x y=>Iff.rfl
  by_cases h1:a<b
  . have h2: ¬b<a:=by rw [h] at h1 ⊢;omega
    simp [h1,h2]
  . by_cases h2:b<a
    . simp [h1,h2]
    . simp [h1,h2,this]
theorem cb_trans: ∀l m n:List UInt8,Lib.compareBytes l m<=0->Lib.compareBytes m n<=0->Lib.compareBytes l n<=0/\(Lib.compareBytes l n=0->Lib.compareBytes l m=0/\Lib.compareBytes m n=0)
 | [],[],[],_,_=>⟨Int.le_refl 0,fun _=>⟨rfl,rfl⟩⟩
 | [],[],_::_,_,_=>⟨show (-1:Int)<=0 by decide,fun h=>absurd h (show¬(-1:Int)=0 by decide)⟩
 | [],_::_,[],_,h=>absurd h (show¬(1:Int)<=0 by decide)
 | [],_::_,_::_,_,_=>⟨show (-1:Int)<=0 by decide,fun h=>absurd h (show¬(-1:Int)=0 by decide)⟩
 | _::_,[],_,h,_=>absurd h (show¬(1:Int)<=0 by decide)
 | _::_,_::_,[],_,h=>absurd h (show¬(1:Int)<=0 by decide)
 | a::l,b::m,c::n,h1,h2=>by
  have ih:=cb_trans l m n
  unfold Lib.compareBytes at h1 h2 ⊢
  have h: ∀x y:UInt8,x<y↔x.toNat<y.toNat:=fun x y=>Iff.rfl
  by_cases a1:a<b
  . by_cases b1:b<c
    . have:a<c:=by rw [h] at a1 b1 ⊢;omega
      simp [this]
    . by_cases b2:c<b
      . simp [b1,b2] at h2
      . have:a<c:=by rw [h] at a1 b1 b2 ⊢;omega
        simp [this]
  . by_cases a2:b<a
    . simp [a1,a2] at h1
    . have e:a=b:=by rw [h] at a1 a2;exact UInt8.toNat_inj.1 (by omega)
      subst e
      simp only [a1,if_false] at h1
      by_cases b1:a<c
      . simp [b1]
      . by_cases b2:c<a
        . simp [b1,b2] at h2
        . simp only [b1,b2,if_false] at h2 ⊢
          simp only [a1,if_false]
          exact ih h1 h2
theorem idC_lt (a b:Idn):(idC a b<0)↔(zG a.patch b.patch<0∨(zG a.patch b.patch=0/\a.n<b.n)):=by
 unfold idC
 by_cases z:zG a.patch b.patch=0
 . rw [decide_eq_true z,Bool.not_true,cond_false]
   unfold Qr
   by_cases h1:a.n<b.n
   . rw [decide_eq_true h1,cond_true];exact ⟨fun _=> .inr ⟨z,h1⟩,fun _=>by decide⟩
   . rw [decide_eq_false h1,cond_false]
     by_cases h2:b.n<a.n
     . rw [decide_eq_true h2,cond_true];exact ⟨fun h=>absurd h (by decide),fun h=>by omega⟩
     . rw [decide_eq_false h2,cond_false];exact ⟨fun h=>absurd h (by decide),fun h=>by omega⟩
 . rw [decide_eq_false z,Bool.not_false,cond_true]
   exact ⟨.inl,fun h=>by omega⟩
theorem Xx (a b:Dig):zG a b= - zG b a:=cb_anti _ _
theorem WM {a b c:Dig} (h1:zG a b<=0) (h2:zG b c<=0):zG a c<=0/\(zG a c=0->zG a b=0/\zG b c=0):=cb_trans _ _ _ h1 h2
theorem digC_refl (a:Dig):zG a a=0:=cb_refl _
theorem swo_id:Go.Sort.SWO (ltOf idC) where
 irrefl x:=by
  unfold ltOf
  rw [decide_eq_false_iff_not,idC_lt,digC_refl];omega
 trans x y z h1 h2:=by
  unfold ltOf at *
  rw [decide_eq_true_eq,idC_lt] at *
  have:=WM (a:=x.patch) (b:=y.patch) (c:=z.patch)
  omega
 ntrans x y z h1 h2:=by
  unfold ltOf at *
  rw [decide_eq_false_iff_not,idC_lt] at *
  have:=WM (a:=z.patch) (b:=y.patch) (c:=x.patch)
  have e1:=Xx x.patch y.patch
  have e2:=Xx y.patch z.patch
  have e3:=Xx x.patch z.patch
  omega
instance:Inhabited Idn:=⟨iz⟩
instance:Inhabited Dig:=⟨dz⟩
def Wa (l:List Idn):List Idn:=(Go.Sort.pdq (ltOf idC) l.toArray 0 l.toArray.size (Lib.bitLen l.toArray.size) true true).toList
def Y0 (a m:ByteArray) (t:Int) (ds:List Dig) (cs:List Chg):Dig×Int:=bif !decide ((xe a m t ds cs).2.2=0)then (dz,(xe a m t ds cs).2.2)else (Q0 (xe a m t ds cs).2.1,0)
def jt (d:Dig) (x:Idn):Idn:=bif (bif Qg x then decide (0<=x.n)else false)then ⟨d,x.n⟩else x
def aJ17 (d:Dig) (x:Atm):Atm:=⟨x.id,x.kind,x.file,x.typ,x.parent,x.name,x.mode,x.data,x.text,x.frm,x.til,Wa (x.over.map (jt d))⟩
def aJ18 (d:Dig) (x:Atm):Atm:=bif decide (x.kind=6)then aJ17 d ⟨x.id,x.kind,x.file,x.typ,x.parent,x.name,x.mode,x.data,x.text,jt d x.frm,jt d x.til,x.over⟩else aJ17 d x
def aJ19 (d:Dig) (x:Atm):Atm:=bif decide (x.kind=2)then aJ18 d ⟨x.id,x.kind,x.file,x.typ,jt d x.parent,x.name,x.mode,x.data,x.text,x.frm,x.til,x.over⟩else aJ18 d x
def cmpA (d:Dig) (x:Atm):Atm:=bif !decide (x.kind=7)then aJ19 d ⟨jt d x.id,x.kind,jt d x.file,x.typ,x.parent,x.name,x.mode,x.data,x.text,x.frm,x.til,x.over⟩else aJ19 d ⟨jt d x.id,x.kind,x.file,x.typ,x.parent,x.name,x.mode,x.data,x.text,x.frm,x.til,x.over⟩
def yK (a m:ByteArray) (t:Int) (ds:List Dig) (cs:List Chg):List Atm×Int:=
 bif !decide ((xe a m t ds cs).2.2=0)then ([],(xe a m t ds cs).2.2)else bif !decide ((Y0 a m t ds cs).2=0)then ([],(Y0 a m t ds cs).2)else ((xe a m t ds cs).1.map (cmpA (Y0 a m t ds cs).1),0)
def pre87 (g:prodL [.sl .idk]):Prop:=g.1.length<=4194304
end Go.Proofs.YtbglndogddddoaaGreatDoor
