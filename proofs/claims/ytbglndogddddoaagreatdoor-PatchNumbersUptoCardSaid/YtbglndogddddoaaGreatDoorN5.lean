import Derived.Shelf.Strings.Builder1
import Derived.WalkKit
import Derived.Lib.Bytealg
import Derived.Shelf.RegionOpenPlain
import Derived.Lib.Walk
import Derived.Lib.BytesEntry
import Derived.BigCall
import Derived.BigGuard
import Derived.Deep.Draws
import Derived.Test.YtbglndogddddoaaGreatDoorN4
set_option linter.unusedVariables false
set_option linter.unusedSimpArgs false
set_option linter.unusedSectionVars false
namespace Go.Proofs.YtbglndogddddoaaGreatDoor
open Go.RowKit Go.Shelf
def QV:Go.Shelf.Ren:=⟨fun | 240=>229 | 276=>237 | n=>n,fun | 70=>187 | 72=>189 | 37=>69 | 164=>244 | n=>n,fun n=>n⟩
theorem Y5:Go.Proofs.Lays.n240 Tryz.prog QV:={
 mixed:=by kernel_rfl
 f240:=Tryz.func229.trans (congrArg some (by kernel_rfl))
 f276:=Tryz.func237.trans (congrArg some (by kernel_rfl))
 t0:=Tryz.underlying0
 a0:=Tryz.isAgg0
 z0:=Tryz.sizeOf0
 v0:=Tryz.zeroValue0
 t4:=Tryz.underlying4
 a4:=Tryz.isAgg4
 z4:=Tryz.sizeOf4
 v4:=Tryz.zeroValue4
 t9:=Tryz.underlying9
 a9:=Tryz.isAgg9
 z9:=Tryz.sizeOf9
 v9:=Tryz.zeroValue9
 t20:=Tryz.underlying20
 a20:=Tryz.isAgg20
 z20:=Tryz.sizeOf20
 v20:=Tryz.zeroValue20
 t70:=Tryz.underlying187
 a70:=Tryz.isAgg187
 z70:=Tryz.sizeOf187
 v70:=Tryz.zeroValue187
 t72:=Tryz.underlying189
 a72:=Tryz.isAgg189
 z72:=Tryz.sizeOf189
 v72:=Tryz.zeroValue189
 t164:=Tryz.underlying244
 a164:=Tryz.isAgg244
 z164:=Tryz.sizeOf244
 v164:=Tryz.zeroValue244}
theorem copyX:Builder.X72 Tryz.prog QV:={sizeBuilder:=by kernel_rfl,liesBuilder:=by kernel_rfl}
abbrev bdrO:List ObSh:=[.cells [.pt 0 0, .oa .u8 1], .arr .u8]
def yQ:Raw:=⟨[.pt 0 0],bdrO,[.sl .u8],0,fun g K _=>K (.tu []) [some (.cells [.pt 0 0, .oa .u8 1 0]),some (.arr 0 .u8 g.1)]⟩
theorem Ks:yQ.Ok Tryz.prog 229:=by
 rintro ⟨bs,⟨⟩⟩ K X h g w hg
 have h:K (.tu []) [some (.cells [.pt 0 0, .oa .u8 1 0]),some (.arr 0 .u8 bs)]:=h
 have hg:Good g [some (.cells [.pt 0 0, .oa .u8 1 0]),some (.arr 0 .u8 bs)] w:=hg
 refine ya.of (by kernel_rfl) fun args hr=> ?_
 obtain ⟨x,rfl,hx⟩:=Yd hr
 obtain ⟨oi,o1,_,o3⟩:=hg.obj 0 _ rfl
 have o1:g.ob 0 0=some oi:=o1
 have hx:R g (.pt 0 0) x:=hx
 cases hx with
 | pt _ _ oi' h1=>
  rw [o1] at h1
  simp only [Option.some.injEq] at h1
  subst h1
  rcases o3 with o3 | ⟨_,blk,E,fr,p1,_,p3,_⟩
  . cases o3.1
  have p1:w.heap[oi.b]? =some (.cells blk E fr):=p1
  obtain ⟨y,y1,_,y3⟩:=p3.at_ 0 _ rfl
  have hy:y= .pointer (some ⟨oi.b,0,none⟩):=by
   cases y3 with
   | pt _ _ oi' h1=>
    rw [o1] at h1
    simp only [Option.some.injEq] at h1
    subst h1
    rfl
  refine (Any.Builder_copyCheck_used Y5 copyX oi.b w (by rw [<- hy];simp [World.cell?,p1,y1])).mono ?_
  rintro e w' ⟨rfl,rfl⟩
  exact ⟨g,_,hg,Step.refl,_,h, .tu [] #[] rfl (by simp)⟩
end Go.Proofs.YtbglndogddddoaaGreatDoor
namespace Go.Proofs.YtbglndogddddoaaGreatDoor
open Go.RowKit
attribute [local irreducible] qJ qd
def H210:List (Nat×Hint):=[]
def J210:List (Nat×Hint):=[]
abbrev S210:List Sh:=[.pt 0 0, .leaf]
abbrev YF:List Lf:=[.str, .sl .u8]
abbrev O210:List ObSh:=[.cells [.pt 0 0, .oa .u8 1], .arr .u8]
def F210 (g:prodL YF) (K:Kn):Prop:=
 qG (g.2.1.length+(qS g.1).length) 1 (
 K (.tu [.int .i64 (g.1.size:Int), .cst .nilIface]) [some (.cells [.pt 0 0, .oa .u8 1 0]),some (.arr 0 .u8 (g.2.1++(qS g.1)))])
theorem F210_eq (g:prodL YF) (K X:Kn):F210 g K=qJ D (qQ [(229,yQ)] []) (qw [(229,yQ)]) H210 J210 19 [.tmp 4, .tmp 5] (qz Tryz.f210) (argsT S210 YF g) (qa S210 O210 YF g) (settleD (qa S210 O210 YF g).length 0 K) X 0:=by kernel_rfl
theorem F210_ok (g:prodL YF) (K X:Kn) (h:F210 g K):FCalls Tryz.prog 210 (argsT S210 YF g) (qa S210 O210 YF g) K X 0:=
 FCalls.settleD (qq (Γ:=qQ [(229,yQ)] []) (mu:=qw [(229,yQ)]) (H:=H210) (J:=J210) qh (qX (rs:=[(229,yQ)]) (l:=[]) (by intro p hp;simp only [List.mem_cons,List.not_mem_nil,or_false] at hp;subst hp;exact Ks) (fun p hp=>by cases hp)) qx rfl Tryz.func210 (c:=qz Tryz.f210) rfl Tryz.ntmps210 (rs:=[.tmp 4, .tmp 5]) Tryz.results210 (by unfold qk;rw [Tryz.func210];kernel_rfl) (Nat.le_of_ble_eq_true (by kernel_rfl)) (X:=X) (c0:=0) (Eq.mp (F210_eq g K X) h))
def yd:Raw:=⟨S210,O210,YF,0,fun g K _=>F210 g K⟩
theorem KP:yd.Ok Tryz.prog 210:=fun g K X h=>F210_ok g K X h
def H211:List (Nat×Hint):=[]
def J211:List (Nat×Hint):=[]
abbrev S211:List Sh:=[.pt 0 0, .leaf]
abbrev Yf:List Lf:=[.int .u8, .sl .u8]
abbrev O211:List ObSh:=[.cells [.pt 0 0, .oa .u8 1], .arr .u8]
def F211 (g:prodL Yf) (K:Kn):Prop:=
 qG (g.2.1.length+[g.1].length) 1 (
 K (.cst .nilIface) [some (.cells [.pt 0 0, .oa .u8 1 0]),some (.arr 0 .u8 (g.2.1++[g.1]))])
theorem F211_eq (g:prodL Yf) (K X:Kn):F211 g K=qJ D (qQ [(229,yQ)] []) (qw [(229,yQ)]) H211 J211 17 [.tmp 4] (qz Tryz.f211) (argsT S211 Yf g) (qa S211 O211 Yf g) (settleD (qa S211 O211 Yf g).length 0 K) X 0:=by kernel_rfl
theorem F211_ok (g:prodL Yf) (K X:Kn) (h:F211 g K):FCalls Tryz.prog 211 (argsT S211 Yf g) (qa S211 O211 Yf g) K X 0:=
 FCalls.settleD (qq (Γ:=qQ [(229,yQ)] []) (mu:=qw [(229,yQ)]) (H:=H211) (J:=J211) qh (qX (rs:=[(229,yQ)]) (l:=[]) (by intro p hp;simp only [List.mem_cons,List.not_mem_nil,or_false] at hp;subst hp;exact Ks) (fun p hp=>by cases hp)) qx rfl Tryz.func211 (c:=qz Tryz.f211) rfl Tryz.ntmps211 (rs:=[.tmp 4]) Tryz.results211 (by unfold qk;rw [Tryz.func211];kernel_rfl) (Nat.le_of_ble_eq_true (by kernel_rfl)) (X:=X) (c0:=0) (Eq.mp (F211_eq g K X) h))
def wR:Raw:=⟨S211,O211,Yf,0,fun g K _=>F211 g K⟩
theorem Kg:wR.Ok Tryz.prog 211:=fun g K X h=>F211_ok g K X h
end Go.Proofs.YtbglndogddddoaaGreatDoor
namespace Go.Proofs.YtbglndogddddoaaGreatDoor
open Go.RowKit
def jO (x:Sx):List Int:=(qqk x).map fun b=>(b.toNat:Int)
def encP (x:Sx) (bs:List Int):Prop:=vk x<=lim/\bs.length+22*vk x<=70368744177664
def encPre (g:prodL [.bool, .str, .sl .sexp, .sl .u8]):Prop:=encP ⟨g.1,g.2.1,g.2.2.1⟩ g.2.2.2.1
def encF (g:prodL [.bool, .str, .sl .sexp, .sl .u8]) (K _:Kn):Prop:=
 K (.tu []) [some (.cells [.pt 0 0, .oa .u8 1 0]),some (.arr 0 .u8 (g.2.2.2.1++jO ⟨g.1,g.2.1,g.2.2.1⟩))]
end Go.Proofs.YtbglndogddddoaaGreatDoor
namespace Go.Proofs.YtbglndogddddoaaGreatDoor
open Go.RowKit
attribute [local irreducible] qJ qd
def H171:List (Nat×Hint):=[(7,⟨[],[(0, .pt 0 0),(24, .leaf),(25, .leaf),(26, .leaf)],[.cells [.pt 0 0, .oa .u8 1], .arr .u8],[.sl .sexp, .int .i64, .int .i64, .sl .u8]⟩)]
def J171:List (Nat×Hint):=[]
abbrev S171:List Sh:=[.pt 0 0, .ag [.leaf, .leaf, .leaf]]
abbrev yM:List Lf:=[.bool, .str, .sl .sexp, .sl .u8]
abbrev O171:List ObSh:=[.cells [.pt 0 0, .oa .u8 1], .arr .u8]
def yX (Z:prodL yM->Prop):Raw:=⟨S171,O171,yM,0,fun g K X=>Z g/\encF g K X⟩
def Yk (K:Kn) (Z:prodL yM->Prop) (W6:prodL [.sl .sexp, .int .i64, .int .i64, .sl .u8]->Prop) (t_5:List Sx) (t2_5 t3_5:Int) (o1_5:List Int):Prop:=
 bif decide (t3_5<t2_5)then (
  At t_5 t3_5 fun u7=>
 Z (u7.isList,u7.atom,u7.list,o1_5,())/\
 W6 (t_5,t2_5,IntKind.i64.wrap (t3_5+1),(o1_5++jO ⟨u7.isList,u7.atom,u7.list⟩),()))
 else (
  let g8:prodL [.int .u8, .sl .u8]:=(41,o1_5,());
 qG (g8.2.1.length+[g8.1].length) 1 (
 K (.tu []) [some (.cells [.pt 0 0, .oa .u8 1 0]),some (.arr 0 .u8 (g8.2.1++[g8.1]))]))
def F171_L6 (K:Kn) (Z:prodL yM->Prop) (g:prodL [.sl .sexp, .int .i64, .int .i64, .sl .u8]):Prop:=
 qZ (γ:=prodL [.sl .sexp, .int .i64, .int .i64, .sl .u8]) (fun V y=>Yk K Z V y.1 y.2.1 y.2.2.1 y.2.2.2.1) g
def F171 (Z:prodL yM->Prop) (g:prodL yM) (K:Kn):Prop:=
 bif !g.1 then (
  vG.pre ((g.2.1.size:Int),())/\
  let g1:prodL [.str, .sl .u8]:=((wo (g.2.1.size:Int)),g.2.2.2.1,());
  qG (g1.2.1.length+(qS g1.1).length) 1 (
  let g2:prodL [.int .u8, .sl .u8]:=(58,g1.2.1++(qS g1.1),());
  qG (g2.2.1.length+[g2.1].length) 1 (
  let g3:prodL [.str, .sl .u8]:=(g.2.1,g2.2.1++[g2.1],());
  qG (g3.2.1.length+(qS g3.1).length) 1 (
  K (.tu []) [some (.cells [.pt 0 0, .oa .u8 1 0]),some (.arr 0 .u8 (g3.2.1++(qS g3.1)))]))))
 else (
  let g4:prodL [.int .u8, .sl .u8]:=(40,g.2.2.2.1,());
 qG (g4.2.1.length+[g4.1].length) 1 (
 F171_L6 K Z (g.2.2.1,(g.2.2.1.length:Int),0,g4.2.1++[g4.1],())))
theorem F171_eq (Z:prodL yM->Prop) (g:prodL yM) (K X:Kn):F171 Z g K=qJ D (qQ [(171,yX Z),(210,yd),(211,wR)] [(209,true,vG)]) (qw [(171,yX Z),(210,yd),(211,wR)]) H171 J171 36 [] (qz Tryz.f171) (argsT S171 yM g) (qa S171 O171 yM g) (settleD (qa S171 O171 yM g).length 0 K) X 0:=by kernel_rfl
theorem F171_ok (Z:prodL yM->Prop) (hZ:(yX Z).Ok Tryz.prog 171) (g:prodL yM) (K X:Kn) (h:F171 Z g K):FCalls Tryz.prog 171 (argsT S171 yM g) (qa S171 O171 yM g) K X 0:=
 FCalls.settleD (qq (Γ:=qQ [(171,yX Z),(210,yd),(211,wR)] [(209,true,vG)]) (mu:=qw [(171,yX Z),(210,yd),(211,wR)]) (H:=H171) (J:=J171) qh (qX (rs:=[(171,yX Z),(210,yd),(211,wR)]) (l:=[(209,true,vG)]) (by intro p hp;simp only [List.mem_cons,List.not_mem_nil,or_false] at hp;rcases hp with rfl | rfl | rfl<;>first | exact hZ | exact KP | exact Kg) (by intro p hp;simp only [List.mem_cons,List.not_mem_nil,or_false] at hp;subst hp;exact J5)) qx rfl Tryz.func171 (c:=qz Tryz.f171) rfl Tryz.ntmps171 (rs:=[]) Tryz.results171 (by unfold qk;rw [Tryz.func171];kernel_rfl) (Nat.le_of_ble_eq_true (by kernel_rfl)) (X:=X) (c0:=0) (Eq.mp (F171_eq Z g K X) h))
end Go.Proofs.YtbglndogddddoaaGreatDoor
namespace Go.Proofs.YtbglndogddddoaaGreatDoor
open Go.RowKit
def yO (l:List Sx):List Int:=(yJ l).map fun b=>(b.toNat:Int)
theorem strB_bl (s:ByteArray):qS s=(bl s).map fun b=>(b.toNat:Int):=rfl
theorem encI_len {x:Sx} (h:vk x<=lim):(jO x).length<=22*vk x:=by unfold jO;rw [List.length_map];exact KS x h
theorem QR (a:ByteArray) (l:List Sx):jO ⟨false,a,l⟩=qS (wo (a.size:Int))++(58::qS a):=by
 unfold jO
 simp only [qqk,if_true,strB_bl,bl_dec,List.map_append,List.map_cons]
 rw [Lib.itoa,if_neg (by omega),Int.toNat_natCast]
 rfl
theorem Ze (a:ByteArray) (l:List Sx):jO ⟨true,a,l⟩=40::(yO l++[41]):=by
 unfold jO yO
 simp [qqk]
theorem F171_is {Z:prodL yM->Prop} {b:Bool} {a:ByteArray} {l:List Sx} {bs:List Int} {K X:Kn} (hp:encP ⟨b,a,l⟩ bs) (hZ: ∀x∈l, ∀cs,encP x cs->Z (x.isList,x.atom,x.list,cs,())) (h:encF (b,a,l,bs,()) K X):F171 Z (b,a,l,bs,()) K:=by
 obtain ⟨hk,hz⟩:=hp
 obtain ⟨hs,hsz,hbl,_⟩:=Je hk
 have hl:=ZK
 unfold encF at h
 unfold F171
 simp only [vk] at hz
 dsimp only [Lf.ty,prodL] at h ⊢
 cases b
 . rw [QR] at h
   have hn:j6 (a.size:Int):=(⟨by omega,by omega⟩: -9223372036854775808<=(a.size:Int)/\(a.size:Int)<=9223372036854775807)
   have hd:=WQ hn
   simp only [Bool.not_false,cond_true]
   refine ⟨hn, ?_, ?_, ?_, ?_⟩
   . rw [jB];omega
   . simp only [List.length_append,jB,List.length_cons,List.length_nil];omega
   . simp only [List.length_append,jB,List.length_cons,List.length_nil];omega
   . rw [show ((bs++qS (wo (a.size:Int)))++[58])++qS a=bs++(qS (wo (a.size:Int))++(58::qS a))by simp]
     exact h
 . rw [Ze] at h
   simp only [Bool.not_true,cond_false]
   refine ⟨by simp only [List.length_cons,List.length_nil];omega, ?_⟩
   unfold F171_L6
   refine qZ.fold l (fun n (cs:List Int)=>(l,(l.length:Int),(n:Int),cs,())) (fun r _ cs=>K (.tu []) [some (.cells [.pt 0 0, .oa .u8 1 0]),some (.arr 0 .u8 (cs++(yO r++[41])))]/\cs.length+22*zl r<=70368744177664) (a0:=bs++[40]) rfl ⟨?_,by simp only [List.length_append,List.length_cons,List.length_nil];omega⟩ (fun cs hp W=> ?_) (fun n hn r cs hr hp W hW=> ?_)
   . rw [List.append_assoc];exact h
   . obtain ⟨p1,p2⟩:=hp
     unfold Yk
     rw [zK,if_neg (by dsimp only;omega)]
     simp only [zl] at p2
     exact ⟨by simp only [List.length_cons,List.length_nil];omega,p1⟩
   . obtain ⟨p1,p2⟩:=hp
     unfold Yk
     rw [zK,if_pos (by dsimp only;omega)]
     have hx:vk l[n]<=zl l:=WC (List.getElem_mem hn)
     have he:=encI_len (x:=l[n]) (by omega)
     simp only [zl] at p2
     refine qM hn ⟨hZ _ (List.getElem_mem hn) cs ⟨by omega,by omega⟩, ?_⟩
     rw [Sx.eta,zU hn hs]
     refine hW (cs++jO l[n]) ⟨?_, ?_⟩
     . have e:yO (l[n]::r)=jO l[n]++yO r:=by unfold yO jO;simp [yJ]
       rw [e] at p1
       rw [List.append_assoc, <- List.append_assoc (jO l[n])]
       exact p1
     . rw [List.length_append];omega
def Vr:Raw:=yX encPre
theorem VI: ∀n:Nat,(yX fun g=>encPre g/\zV ⟨g.1,g.2.1,g.2.2.1⟩ <n).Ok Tryz.prog 171
 | 0=>fun g K X h=>absurd h.1.2 (Nat.not_lt_zero _)
 | n+1=>fun g K X h=>F171_ok _ (VI n) g K X (F171_is h.1.1 (fun x hx cs hc=>⟨(by show encP ⟨_,_,_⟩ _;rw [Sx.eta];exact hc),by
   have h1:=((Je h.1.1.1).2.2.2 x hx).2
   have h2:=h.1.2
   dsimp only at *
   omega⟩) h.2)
theorem rw171_ok:Vr.Ok Tryz.prog 171:=fun g K X h=>VI (zV ⟨g.1,g.2.1,g.2.2.1⟩+1) g K X ⟨⟨h.1,Nat.lt_succ_self _⟩,h.2⟩
end Go.Proofs.YtbglndogddddoaaGreatDoor
namespace Go.Proofs.YtbglndogddddoaaGreatDoor
open Go.RowKit Go.Shelf
theorem setCell_at {w:World} {b q:Nat} {blk:Array Value} {E:TypeId} {fr:Nat×Nat} (v:Value) (h:w.heap[b]? =some (.cells blk E fr)):(w.setCell ⟨b,q,none⟩ v).heap[b]? =some (.cells (blk.setIfInBounds q v) E fr):=by
 simp [World.setCell,Array.getElem?_modify,h]
theorem Yv {w:World} {b q b':Nat} (v:Value) (h:b'≠b):(w.setCell ⟨b,q,none⟩ v).heap[b']? =w.heap[b']? :=by
 simp [World.setCell,Array.getElem?_modify,Ne.symm h]
def xH:Raw:=⟨[.pt 0 0],[.cells [.fp, .nil]],[],0,fun _ K _=>K (.tu []) [some (.cells [.pt 0 0, .nil])]⟩
theorem Wq:xH.Ok Tryz.prog 229:=by
 rintro ⟨⟩ K X h g w hg
 have h:K (.tu []) [some (.cells [.pt 0 0, .nil])]:=h
 have hg:Good g [some (.cells [.fp, .nil])] w:=hg
 refine ya.of (by kernel_rfl) fun args hr=> ?_
 obtain ⟨x,rfl,hx⟩:=Yd hr
 obtain ⟨oi,o1,_,o3⟩:=hg.obj 0 _ rfl
 have o1:g.ob 0 0=some oi:=o1
 have hx:R g (.pt 0 0) x:=hx
 cases hx with
 | pt _ _ oi' h1=>
  rw [o1] at h1
  simp only [Option.some.injEq] at h1
  subst h1
  rcases o3 with o3 | ⟨_,blk,E,fr,p1,p2,p3,p4⟩
  . cases o3.1
  have p1:w.heap[oi.b]? =some (.cells blk E fr):=p1
  obtain ⟨y,y1,_,y3⟩:=p3.at_ 0 _ rfl
  obtain ⟨z,z1,z2,z3⟩:=p3.at_ 1 _ rfl
  have hy:y= .pointer none:=by cases y3;rfl
  subst hy
  have p4:(E==189&&blk.size==2)=true:=p4
  simp only [Bool.and_eq_true,beq_iff_eq] at p4
  obtain ⟨rfl,hs⟩:=p4
  refine (Any.Builder_copyCheck_fresh Y5 copyX oi.b w (by simp [World.cell?,p1,y1]) (by simp [World.shape?,p1,hs];rfl) (by
   have:=p2 0 (by omega)
   simp only [World.frozen?,p1]
   simpa using this)).mono ?_
  rintro e w' ⟨rfl,rfl⟩
  obtain ⟨k1,k2,k3⟩:=qC (st':=[some (.cells [.pt 0 0, .nil])]) (k:=0) (v:=0) (o':= .cells [.pt 0 0, .nil]) (oi:=oi) (w':=w.setCell ⟨oi.b,0,none⟩ (.pointer (some ⟨oi.b,0,none⟩))) hg (fun i=>by cases i<;>simp) (by decide) (by decide) rfl (.inr o1) (fun u oi' hu=>jF (o':= .cells [.fp, .nil]) hg rfl hu) trivial
   (fun _=> .inr ⟨_,rfl,zZ o1 (by simp [qe])⟩) rfl rfl rfl (by simp [World.setCell]) (fun b _ hb=>Yv _ fun e=>hb _ rfl (by rw [zZ o1 (by simp [qe]),e]))
   (fun _=>⟨_,189,fr,setCell_at _ p1,fun q hq=>p2 q (by simpa using hq),⟨by simp [qy,hs],fun j u hj=>by
    match j,hj with
    | 0,hj=>simp [qy] at hj;subst hj;exact ⟨_,by simp [hs],rfl, .pt 0 0 oi o1⟩
    | 1,hj=>simp [qy] at hj;subst hj;exact ⟨z,by simpa using z1,z2,z3⟩
    | j+2,hj=>simp [qy] at hj⟩,rfl⟩) (fun o ho=>by
    simp only [List.getElem?_cons_zero,Option.some.injEq] at ho;subst ho;exact ⟨_,rfl,rfl,o1⟩)
  exact ⟨_,_,k1,k2 _,_,h, .tu [] #[] rfl (by simp)⟩
end Go.Proofs.YtbglndogddddoaaGreatDoor
namespace Go.Proofs.YtbglndogddddoaaGreatDoor
open Go.RowKit
attribute [local irreducible] qJ qd
def H210f:List (Nat×Hint):=[]
def J210f:List (Nat×Hint):=[]
abbrev Vo:List Sh:=[.pt 0 0, .leaf]
abbrev Qf:List Lf:=[.str]
abbrev O210f:List ObSh:=[.cells [.fp, .nil]]
def F210f (g:prodL Qf) (K:Kn):Prop:=
 qG ((qS g.1).length) 1 (
 K (.tu [.int .i64 (g.1.size:Int), .cst .nilIface]) [some (.cells [.pt 0 0, .oa .u8 1 0]),some (.arr 0 .u8 (qS g.1))])
theorem F210f_eq (g:prodL Qf) (K X:Kn):F210f g K=qJ D (qQ [(229,xH)] []) (qw [(229,xH)]) H210f J210f 19 [.tmp 4, .tmp 5] (qz Tryz.f210) (argsT Vo Qf g) (qa Vo O210f Qf g) (settleD (qa Vo O210f Qf g).length 0 K) X 0:=by kernel_rfl
theorem F210f_ok (g:prodL Qf) (K X:Kn) (h:F210f g K):FCalls Tryz.prog 210 (argsT Vo Qf g) (qa Vo O210f Qf g) K X 0:=
 FCalls.settleD (qq (Γ:=qQ [(229,xH)] []) (mu:=qw [(229,xH)]) (H:=H210f) (J:=J210f) qh (qX (rs:=[(229,xH)]) (l:=[]) (by intro p hp;simp only [List.mem_cons,List.not_mem_nil,or_false] at hp;subst hp;exact Wq) (fun p hp=>by cases hp)) qx rfl Tryz.func210 (c:=qz Tryz.f210) rfl Tryz.ntmps210 (rs:=[.tmp 4, .tmp 5]) Tryz.results210 (by unfold qk;rw [Tryz.func210];kernel_rfl) (Nat.le_of_ble_eq_true (by kernel_rfl)) (X:=X) (c0:=0) (Eq.mp (F210f_eq g K X) h))
def Q4:Raw:=⟨Vo,O210f,Qf,0,fun g K _=>F210f g K⟩
theorem rw210f_ok:Q4.Ok Tryz.prog 210:=fun g K X h=>F210f_ok g K X h
def H211f:List (Nat×Hint):=[]
def J211f:List (Nat×Hint):=[]
abbrev V6:List Sh:=[.pt 0 0, .leaf]
abbrev QF:List Lf:=[.int .u8]
abbrev O211f:List ObSh:=[.cells [.fp, .nil]]
def F211f (g:prodL QF) (K:Kn):Prop:=
 qG ([g.1].length) 1 (
 K (.cst .nilIface) [some (.cells [.pt 0 0, .oa .u8 1 0]),some (.arr 0 .u8 [g.1])])
theorem F211f_eq (g:prodL QF) (K X:Kn):F211f g K=qJ D (qQ [(229,xH)] []) (qw [(229,xH)]) H211f J211f 17 [.tmp 4] (qz Tryz.f211) (argsT V6 QF g) (qa V6 O211f QF g) (settleD (qa V6 O211f QF g).length 0 K) X 0:=by kernel_rfl
theorem F211f_ok (g:prodL QF) (K X:Kn) (h:F211f g K):FCalls Tryz.prog 211 (argsT V6 QF g) (qa V6 O211f QF g) K X 0:=
 FCalls.settleD (qq (Γ:=qQ [(229,xH)] []) (mu:=qw [(229,xH)]) (H:=H211f) (J:=J211f) qh (qX (rs:=[(229,xH)]) (l:=[]) (by intro p hp;simp only [List.mem_cons,List.not_mem_nil,or_false] at hp;subst hp;exact Wq) (fun p hp=>by cases hp)) qx rfl Tryz.func211 (c:=qz Tryz.f211) rfl Tryz.ntmps211 (rs:=[.tmp 4]) Tryz.results211 (by unfold qk;rw [Tryz.func211];kernel_rfl) (Nat.le_of_ble_eq_true (by kernel_rfl)) (X:=X) (c0:=0) (Eq.mp (F211f_eq g K X) h))
def Q5:Raw:=⟨V6,O211f,QF,0,fun g K _=>F211f g K⟩
theorem rw211f_ok:Q5.Ok Tryz.prog 211:=fun g K X h=>F211f_ok g K X h
end Go.Proofs.YtbglndogddddoaaGreatDoor
namespace Go.Proofs.YtbglndogddddoaaGreatDoor
open Go.RowKit
attribute [local irreducible] qJ qd
def H171f:List (Nat×Hint):=[(7,⟨[((0,[1]),none)],[(0, .pt 0 0),(24, .leaf),(25, .leaf),(26, .leaf)],[.cells [.pt 0 0, .oa .u8 1], .arr .u8],[.sl .sexp, .int .i64, .int .i64, .sl .u8]⟩)]
def J171f:List (Nat×Hint):=[]
abbrev V5:List Sh:=[.pt 0 0, .ag [.leaf, .leaf, .leaf]]
abbrev QM:List Lf:=[.bool, .str, .sl .sexp]
abbrev O171f:List ObSh:=[.cells [.fp, .nil]]
def Xv (K:Kn) (W6:prodL [.sl .sexp, .int .i64, .int .i64, .sl .u8]->Prop) (t_5:List Sx) (t2_5 t3_5:Int) (w_5:List Int):Prop:=
 bif decide (t3_5<t2_5)then (
  At t_5 t3_5 fun u7=>
 encPre (u7.isList,u7.atom,u7.list,w_5,())/\
 W6 (t_5,t2_5,IntKind.i64.wrap (t3_5+1),(w_5++jO ⟨u7.isList,u7.atom,u7.list⟩),()))
 else (
  let g8:prodL [.int .u8, .sl .u8]:=(41,w_5,());
 qG (g8.2.1.length+[g8.1].length) 1 (
 K (.tu []) [some (.cells [.pt 0 0, .oa .u8 1 0]),some (.arr 0 .u8 (g8.2.1++[g8.1]))]))
def Y2 (K:Kn) (g:prodL [.sl .sexp, .int .i64, .int .i64, .sl .u8]):Prop:=
 qZ (γ:=prodL [.sl .sexp, .int .i64, .int .i64, .sl .u8]) (fun V y=>Xv K V y.1 y.2.1 y.2.2.1 y.2.2.2.1) g
def F171f (g:prodL QM) (K:Kn):Prop:=
 bif !g.1 then (
  vG.pre ((g.2.1.size:Int),())/\
  let g1:prodL [.str]:=((wo (g.2.1.size:Int)),());
  qG ((qS g1.1).length) 1 (
  let g2:prodL [.int .u8, .sl .u8]:=(58,qS g1.1,());
  qG (g2.2.1.length+[g2.1].length) 1 (
  let g3:prodL [.str, .sl .u8]:=(g.2.1,g2.2.1++[g2.1],());
  qG (g3.2.1.length+(qS g3.1).length) 1 (
  K (.tu []) [some (.cells [.pt 0 0, .oa .u8 1 0]),some (.arr 0 .u8 (g3.2.1++(qS g3.1)))]))))
 else (
  let g4:prodL [.int .u8]:=(40,());
 qG ([g4.1].length) 1 (
 Y2 K (g.2.2.1,(g.2.2.1.length:Int),0,[g4.1],())))
theorem F171f_eq (g:prodL QM) (K X:Kn):F171f g K=qJ D (qQ [(171,Vr),(210,yd),(210,Q4),(211,wR),(211,Q5)] [(209,true,vG)]) (qw [(171,Vr),(210,yd),(210,Q4),(211,wR),(211,Q5)]) H171f J171f 36 [] (qz Tryz.f171) (argsT V5 QM g) (qa V5 O171f QM g) (settleD (qa V5 O171f QM g).length 0 K) X 0:=by kernel_rfl
theorem F171f_ok (g:prodL QM) (K X:Kn) (h:F171f g K):FCalls Tryz.prog 171 (argsT V5 QM g) (qa V5 O171f QM g) K X 0:=
 FCalls.settleD (qq (Γ:=qQ [(171,Vr),(210,yd),(210,Q4),(211,wR),(211,Q5)] [(209,true,vG)]) (mu:=qw [(171,Vr),(210,yd),(210,Q4),(211,wR),(211,Q5)]) (H:=H171f) (J:=J171f) qh (qX (rs:=[(171,Vr),(210,yd),(210,Q4),(211,wR),(211,Q5)]) (l:=[(209,true,vG)]) (by intro p hp;simp only [List.mem_cons,List.not_mem_nil,or_false] at hp;rcases hp with rfl | rfl | rfl | rfl | rfl<;>first | exact rw171_ok | exact KP | exact rw210f_ok | exact Kg | exact rw211f_ok) (by intro p hp;simp only [List.mem_cons,List.not_mem_nil,or_false] at hp;subst hp;exact J5)) qx rfl Tryz.func171 (c:=qz Tryz.f171) rfl Tryz.ntmps171 (rs:=[]) Tryz.results171 (by unfold qk;rw [Tryz.func171];kernel_rfl) (Nat.le_of_ble_eq_true (by kernel_rfl)) (X:=X) (c0:=0) (Eq.mp (F171f_eq g K X) h))
end Go.Proofs.YtbglndogddddoaaGreatDoor
namespace Go.Proofs.YtbglndogddddoaaGreatDoor
open Go.RowKit
def encPf (g:prodL [.bool, .str, .sl .sexp]):Prop:=encP ⟨g.1,g.2.1,g.2.2.1⟩ []
theorem F171f_is {b:Bool} {a:ByteArray} {l:List Sx} {K:Kn} (hp:encP ⟨b,a,l⟩ []) (h:K (.tu []) [some (.cells [.pt 0 0, .oa .u8 1 0]),some (.arr 0 .u8 (jO ⟨b,a,l⟩))]):F171f (b,a,l,()) K:=by
 obtain ⟨hk,hz⟩:=hp
 obtain ⟨hs,hsz,hbl,_⟩:=Je hk
 have hl:=ZK
 unfold F171f
 simp only [vk,List.length_nil] at hz
 dsimp only [Lf.ty,prodL] at h ⊢
 cases b
 . rw [QR] at h
   have hn:j6 (a.size:Int):=(⟨by omega,by omega⟩: -9223372036854775808<=(a.size:Int)/\(a.size:Int)<=9223372036854775807)
   have hd:=WQ hn
   simp only [Bool.not_false,cond_true]
   refine ⟨hn, ?_, ?_, ?_, ?_⟩
   . rw [jB];omega
   . simp only [jB,List.length_cons,List.length_nil];omega
   . simp only [List.length_append,jB,List.length_cons,List.length_nil];omega
   . rw [show ((qS (wo (a.size:Int)))++[58])++qS a=(qS (wo (a.size:Int))++(58::qS a))by simp]
     exact h
 . rw [Ze] at h
   simp only [Bool.not_true,cond_false]
   refine ⟨by simp only [List.length_cons,List.length_nil];omega, ?_⟩
   unfold Y2
   refine qZ.fold l (fun n (cs:List Int)=>(l,(l.length:Int),(n:Int),cs,())) (fun r _ cs=>K (.tu []) [some (.cells [.pt 0 0, .oa .u8 1 0]),some (.arr 0 .u8 (cs++(yO r++[41])))]/\cs.length+22*zl r<=70368744177664) (a0:=[40]) rfl ⟨?_,by simp only [List.length_cons,List.length_nil];omega⟩ (fun cs hp W=> ?_) (fun n hn r cs hr hp W hW=> ?_)
   . exact h
   . obtain ⟨p1,p2⟩:=hp
     unfold Xv
     rw [zK,if_neg (by dsimp only;omega)]
     simp only [zl] at p2
     exact ⟨by simp only [List.length_cons,List.length_nil];omega,p1⟩
   . obtain ⟨p1,p2⟩:=hp
     unfold Xv
     rw [zK,if_pos (by dsimp only;omega)]
     have hx:vk l[n]<=zl l:=WC (List.getElem_mem hn)
     have he:=encI_len (x:=l[n]) (by omega)
     simp only [zl] at p2
     refine qM hn ⟨(by show encP ⟨l[n].isList,l[n].atom,l[n].list⟩ cs;rw [Sx.eta];exact ⟨by omega,by omega⟩), ?_⟩
     rw [Sx.eta,zU hn hs]
     refine hW (cs++jO l[n]) ⟨?_, ?_⟩
     . have e:yO (l[n]::r)=jO l[n]++yO r:=by unfold yO jO;simp [yJ]
       rw [e] at p1
       rw [List.append_assoc, <- List.append_assoc (jO l[n])]
       exact p1
     . rw [List.length_append];omega
def Q9:Raw:=⟨V5,O171f,QM,0,fun g K _=>encPf g/\K (.tu []) [some (.cells [.pt 0 0, .oa .u8 1 0]),some (.arr 0 .u8 (jO ⟨g.1,g.2.1,g.2.2.1⟩))]⟩
theorem rw171f_ok:Q9.Ok Tryz.prog 171:=fun g K X h=>F171f_ok g K X (F171f_is h.1 h.2)
end Go.Proofs.YtbglndogddddoaaGreatDoor
namespace Go.Proofs.YtbglndogddddoaaGreatDoor
open Go.RowKit
set_option maxHeartbeats 1000000 in
set_option maxRecDepth 100000 in
theorem string39 (b g cap:Nat) (cur:Array Value) (fr:Nat×Nat) (l:List UInt8) (w:World) (c0:w.cell? ⟨b,1,none⟩=some (.slice (some ⟨g,0,none⟩) l.length cap)) (hg:w.heap[g]? =some (.cells cur 5 fr)) (hl0:l.length≠0) (hnc:l.length<=cap) (hcm:cap<=maxLen) (hcs:cap<=cur.size)
  (hat: ∀(j:Nat) (x:UInt8),l[j]? =some x->cur[j]? =some (Value.int .u8 x.toNat)):
  Calls Tryz.prog 172 #[.pointer (some ⟨b,0,none⟩)] w fun e w'=>e= .returned (.string ⟨l.toArray⟩)/\w'=w.drew.freeze ⟨g,0,none⟩ l.length:=by
 have c1:w.drew.cell? ⟨b,1,none⟩=some (.slice (some ⟨g,0,none⟩) l.length cap):=c0
 have hg':w.drew.heap[g]? =some (.cells cur 5 fr):=hg
 have hSD:(Builtin.unsafeSliceData_ #[69] 222 #[.slice (some ⟨g,0,none⟩) l.length cap]).run Tryz.prog w.drew= .ok (.pointer (some ⟨g,0,none⟩)) w.drew:=
  Lib.run_unsafeSliceData_row _ _ _ _ _ _ (by omega)
 have hUS:(Builtin.unsafeString_ #[222,3] 9 #[.pointer (some ⟨g,0,none⟩), .int .i64 l.length]).run Tryz.prog w.drew= .ok (.string ⟨l.toArray⟩) (w.drew.freeze ⟨g,0,none⟩ l.length):=by
  refine Lib.run_unsafeString_row w.drew 222 3 9 5 Tryz.underlying222 (by kernel_rfl) g cur.size (by simp [World.shape?,hg']) l (fun e=>hl0 (by rw [e];rfl)) (by omega) (by unfold maxLen at hcm;omega) ?_
  intro j x hx
  have:=hat j x hx
  unfold Addr.add
  by_cases hj:j=0
  . subst hj;simp [World.cell?,hg',this]
  . simp [hj,World.cell?,hg',this]
 go_enter Tryz.func172,Tryz.ntmps172
 go_wp2
 go_region
 all_goals (go_wp2;go_ret;exact ⟨rfl,rfl⟩)
end Go.Proofs.YtbglndogddddoaaGreatDoor
namespace Go.Proofs.YtbglndogddddoaaGreatDoor
open Go.RowKit
theorem Kd {w:World} {a:Addr} {n b:Nat} (h:b≠a.block):(w.freeze a n).heap[b]? =w.heap[b]? :=by
 unfold World.freeze
 split
 . rfl
 . simp [Array.getElem?_modify,Ne.symm h]
theorem Y7 {w:World} {a:Addr} {n:Nat}:(w.freeze a n).heap.size=w.heap.size:=by
 unfold World.freeze
 split
 . rfl
 . simp
theorem freeze_os {w:World} {a:Addr} {n:Nat}:(w.freeze a n).os=w.os:=by
 unfold World.freeze;split<;>rfl
theorem Kf {w:World} {a:Addr} {n:Nat}:(w.freeze a n).tape=w.tape:=by
 unfold World.freeze;split<;>rfl
theorem freeze_out {w:World} {a:Addr} {n:Nat}:(w.freeze a n).output=w.output:=by
 unfold World.freeze;split<;>rfl
theorem u8_back {n:Int} (h1:0<=n) (h2:n<256):n=((UInt8.ofNat n.toNat).toNat:Int):=by
 rw [UInt8.toNat_ofNat',Nat.mod_eq_of_lt (by omega)]
 omega
def strPre (g:prodL [.sl .u8]):Prop:=g.1≠[]/\ ∀n∈g.1,0<=n/\n<256
def Vs:Raw:=⟨[.pt 0 0],bdrO,[.sl .u8],0,fun g K _=>strPre g/\K (.str (jT g.1)) [some (.cells [.pt 0 0, .oa .u8 1 0]),some (.arr 1 .u8 [])]⟩
theorem rw172_ok:Vs.Ok Tryz.prog 172:=by
 rintro ⟨l,⟨⟩⟩ K X h g w hg
 obtain ⟨⟨hne,hb⟩,h⟩:=h
 have hne:l≠[]:=hne
 have hb: ∀n∈l,0<=n/\n<256:=hb
 have h:K (.str (jT l)) [some (.cells [.pt 0 0, .oa .u8 1 0]),some (.arr 1 .u8 [])]:=h
 have hg:Good g [some (.cells [.pt 0 0, .oa .u8 1 0]),some (.arr 0 .u8 l)] w:=hg
 refine ya.of (by kernel_rfl) fun args hr=> ?_
 obtain ⟨x,rfl,hx⟩:=Yd hr
 obtain ⟨oi,o1,_,o3⟩:=hg.obj 0 _ rfl
 obtain ⟨oa,a1,a2,a3,a4,a5⟩:=hg.arr (k:=1) (ver:=0) (e:= .u8) (l:=l) rfl
 have o1:g.ob 0 0=some oi:=o1
 have hx:R g (.pt 0 0) x:=hx
 have hl0:0<l.length:=List.length_pos_iff.2 hne
 obtain ⟨_,cur,E,fr,q1,q2,q3,q4,q5⟩:=a5 (by omega)
 have q5:(E==5)=true:=q5
 obtain rfl:E=5:=by simpa using q5
 cases hx with
 | pt _ _ oi' h1=>
  rw [o1] at h1
  simp only [Option.some.injEq] at h1
  subst h1
  rcases o3 with o3 | ⟨_,blk,E,fr',p1,_,p3,_⟩
  . cases o3.1
  have p1:w.heap[oi.b]? =some (.cells blk E fr'):=p1
  obtain ⟨z,z1,_,z3⟩:=p3.at_ 1 _ rfl
  have z3:R g (.oa .u8 1 0) z:=z3
  have hz:z= .slice (some ⟨oa.b,0,none⟩) l.length oa.cap:=by
   cases z3 with
   | oa _ _ _ oi'' A r1 r2 r3 r4=>
    rw [a1] at r1
    simp only [Option.some.injEq] at r1
    subst r1
    rw [r2 (by omega),a2]
  subst hz
  have hlen:(l.map fun n=>UInt8.ofNat n.toNat).length=l.length:=List.length_map ..
  refine (string39 oi.b oa.b oa.cap cur fr (l.map fun n=>UInt8.ofNat n.toNat) w (by rw [hlen];simp [World.cell?,p1,z1]) q1 (by rw [hlen];omega) (by rw [hlen];omega) a4 (by rw [show sz .u8=1 from rfl,Nat.mul_one] at q4;exact q4) (fun j x hx=> ?_)).mono ?_
  . simp only [List.getElem?_map,Option.map_eq_some_iff] at hx
    obtain ⟨n,hn,rfl⟩:=hx
    obtain ⟨y,y1,_,y3⟩:=q3.at_ j (.int .u8 n) (by
     have:=xj (e:= .u8) (j:=0) hn (by decide)
     simpa [sz,enc] using this)
    cases y3
    obtain ⟨b1,b2⟩:=hb n (List.mem_of_getElem? hn)
    rw [y1]
    exact congrArg (fun m=>some (Value.int .u8 m)) (u8_back b1 b2)
  . rintro e w' ⟨rfl,rfl⟩
    have hnew:g.ob 1 1=none:=by
     cases hh:g.ob 1 1 with
     | none=>rfl
     | some oi=>have:=jF (o':= .arr 0 .u8 l) hg rfl hh;simp [obVer] at this
    obtain ⟨k1,k2,k3⟩:=qC (st':=[some (.cells [.pt 0 0, .oa .u8 1 0]),some (.arr 1 .u8 [])]) (k:=1) (v:=1) (o':= .arr 1 .u8 []) (oi:=⟨0,0,0⟩) (w':=w.drew.freeze ⟨oa.b,0,none⟩ (l.map fun n=>UInt8.ofNat n.toNat).length) hg (fun i=>by rcases i with _ | _ | i<;>simp) (Nat.le_of_ble_eq_true rfl) (Nat.le_of_ble_eq_true rfl) rfl (.inl hnew)
     (fun u oi' hu=>by have:=jF (o':= .arr 0 .u8 l) hg rfl hu;simp [obVer] at this;omega) ⟨rfl,Nat.le_refl _,Nat.zero_le _⟩ (fun h=>absurd ⟨rfl,rfl⟩ h) freeze_os Kf freeze_out (by rw [Y7];exact Nat.le_refl _)
     (fun b _ hb=>Kd fun e=>hb (.arr 0 .u8 l) rfl (by rw [zZ a1 (by simp [qe];omega)];exact congrArg some e.symm)) (fun h=>absurd ⟨rfl,rfl⟩ h) (fun o ho=>by
      simp only [List.getElem?_cons_succ,List.getElem?_cons_zero,Option.some.injEq] at ho;subst ho;exact ⟨_,_,rfl⟩)
    exact ⟨_,_,k1,k2 _,_,h, .str _⟩
end Go.Proofs.YtbglndogddddoaaGreatDoor
namespace Go.Proofs.YtbglndogddddoaaGreatDoor
open Go.RowKit
attribute [local irreducible] qJ qd
def H122:List (Nat×Hint):=[]
def J122:List (Nat×Hint):=[]
abbrev S122:List Sh:=[.ag [.leaf, .leaf, .leaf]]
abbrev L122:List Lf:=[.bool, .str, .sl .sexp]
def F122 (g:prodL L122) (K:Kn):Prop:=
 K0.pre (g.1,g.2.1,g.2.2.1,())/\
 bif !decide (ckG ⟨g.1,g.2.1,g.2.2.1⟩=0)then (
  K (.tu [.str (⟨#[]⟩:ByteArray), .int .i64 (ckG ⟨g.1,g.2.1,g.2.2.1⟩)]) [])
 else (
  encPf (g.1,g.2.1,g.2.2.1,())/\
 strPre ((jO ⟨g.1,g.2.1,g.2.2.1⟩),())/\
 K (.tu [.str (jT (jO ⟨g.1,g.2.1,g.2.2.1⟩)), .int .i64 0]) [])
theorem F122_eq (g:prodL L122) (K X:Kn):F122 g K=qJ D (qQ [(171,Q9),(172,Vs)] [(151,true,K0)]) (qw [(171,Q9),(172,Vs)]) H122 J122 14 [.tmp 2, .tmp 3] (qz Tryz.f122) (argsT S122 L122 g) [] (settle0 K) X:=by kernel_rfl
theorem F122_ok (g:prodL L122) (K X:Kn) (h:F122 g K):FCalls Tryz.prog 122 (argsT S122 L122 g) [] K X:=
 FCalls.settle0 (qq (Γ:=qQ [(171,Q9),(172,Vs)] [(151,true,K0)]) (mu:=qw [(171,Q9),(172,Vs)]) (H:=H122) (J:=J122) qh (qX (rs:=[(171,Q9),(172,Vs)]) (l:=[(151,true,K0)]) (by intro p hp;simp only [List.mem_cons,List.not_mem_nil,or_false] at hp;rcases hp with rfl | rfl<;>first | exact rw171f_ok | exact rw172_ok) (by intro p hp;simp only [List.mem_cons,List.not_mem_nil,or_false] at hp;subst hp;exact sp151_ok)) qx rfl Tryz.func122 (c:=qz Tryz.f122) rfl Tryz.ntmps122 Tryz.results122 (by unfold qk;rw [Tryz.func122];kernel_rfl) (Nat.le_of_ble_eq_true (by kernel_rfl)) (c0:=0) (Eq.mp (F122_eq g K X) h))
end Go.Proofs.YtbglndogddddoaaGreatDoor
namespace Go.Proofs.YtbglndogddddoaaGreatDoor
open Go.RowKit
theorem bStr_encI (x:Sx):jT (jO x)=Xn x:=by
 have h:bl (jT (jO x))=bl (Xn x):=by
  rw [encB_bl]
  unfold jT jO bl
  simp [Function.comp_def]
 exact ByteArray.ext (Array.toList_inj.1 h)
theorem encI_ne (x:Sx):jO x≠[]:=by
 obtain ⟨b,a,l⟩:=x
 cases b
 . rw [QR];simp
 . rw [Ze];simp
theorem encI_byte (x:Sx): ∀n∈jO x,0<=n/\n<256:=by
 intro n hn
 unfold jO at hn
 obtain ⟨b,_,rfl⟩:=List.mem_map.1 hn
 have:=b.toNat_lt
 omega
theorem encode_ok:Kt:=
 ⟨by
  rintro ⟨b,a,l,⟨⟩⟩ K X q1 h
  have h:K (.tu [.str (wL ⟨b,a,l⟩).1, .int .i64 (wL ⟨b,a,l⟩).2]) []:=h
  have q1:vk ⟨b,a,l⟩<=lim:=q1
  refine F122_ok (b,a,l,()) K X ⟨q1, ?_⟩
  unfold wL at h
  dsimp only
  rw [bif_ndec]
  by_cases h0:ckG ⟨b,a,l⟩=0
  . rw [if_pos h0] at h
    rw [if_pos h0]
    refine ⟨⟨q1, ?_⟩,⟨encI_ne _,encI_byte _⟩, ?_⟩
    . have:=ZK;simp only [List.length_nil];omega
    . show K (.tu [.str (jT (jO ⟨b,a,l⟩)), .int .i64 0]) []
      rw [bStr_encI];exact h
  . rw [if_neg h0] at h
    rw [if_neg h0]
    exact h,fun _ _ _=>rfl,fun _=>rfl,fun _ _=>⟨rfl,rfl⟩⟩
end Go.Proofs.YtbglndogddddoaaGreatDoor
namespace Go.Proofs.YtbglndogddddoaaGreatDoor
open Go.RowKit Go.Lib
def wd (d:Dig):List Int:=[d.b0,d.b1,d.b2,d.b3,d.b4,d.b5,d.b6,d.b7,d.b8,d.b9,d.b10,d.b11,d.b12,d.b13,d.b14,d.b15,d.b16,d.b17,d.b18,d.b19,d.b20,d.b21,d.b22,d.b23,d.b24,d.b25,d.b26,d.b27,d.b28,d.b29,d.b30,d.b31]
def YX (d:Dig):ByteArray:=jT (wd d)
def vd (a b:Dig):Bool:=decide (a.b0=b.b0)&&(decide (a.b1=b.b1)&&(decide (a.b2=b.b2)&&(decide (a.b3=b.b3)&&(decide (a.b4=b.b4)&&(decide (a.b5=b.b5)&&(decide (a.b6=b.b6)&&(decide (a.b7=b.b7)&&(decide (a.b8=b.b8)&&(decide (a.b9=b.b9)&&(decide (a.b10=b.b10)&&(decide (a.b11=b.b11)&&(decide (a.b12=b.b12)&&(decide (a.b13=b.b13)&&(decide (a.b14=b.b14)&&(decide (a.b15=b.b15)&&(decide (a.b16=b.b16)&&(decide (a.b17=b.b17)&&(decide (a.b18=b.b18)&&(decide (a.b19=b.b19)&&(decide (a.b20=b.b20)&&(decide (a.b21=b.b21)&&(decide (a.b22=b.b22)&&(decide (a.b23=b.b23)&&(decide (a.b24=b.b24)&&(decide (a.b25=b.b25)&&(decide (a.b26=b.b26)&&(decide (a.b27=b.b27)&&(decide (a.b28=b.b28)&&(decide (a.b29=b.b29)&&(decide (a.b30=b.b30)&&(decide (a.b31=b.b31)&&(true))))))))))))))))))))))))))))))))
def zy (a b:Idn):Bool:=decide (a.patch.b0=b.patch.b0)&&(decide (a.patch.b1=b.patch.b1)&&(decide (a.patch.b2=b.patch.b2)&&(decide (a.patch.b3=b.patch.b3)&&(decide (a.patch.b4=b.patch.b4)&&(decide (a.patch.b5=b.patch.b5)&&(decide (a.patch.b6=b.patch.b6)&&(decide (a.patch.b7=b.patch.b7)&&(decide (a.patch.b8=b.patch.b8)&&(decide (a.patch.b9=b.patch.b9)&&(decide (a.patch.b10=b.patch.b10)&&(decide (a.patch.b11=b.patch.b11)&&(decide (a.patch.b12=b.patch.b12)&&(decide (a.patch.b13=b.patch.b13)&&(decide (a.patch.b14=b.patch.b14)&&(decide (a.patch.b15=b.patch.b15)&&(decide (a.patch.b16=b.patch.b16)&&(decide (a.patch.b17=b.patch.b17)&&(decide (a.patch.b18=b.patch.b18)&&(decide (a.patch.b19=b.patch.b19)&&(decide (a.patch.b20=b.patch.b20)&&(decide (a.patch.b21=b.patch.b21)&&(decide (a.patch.b22=b.patch.b22)&&(decide (a.patch.b23=b.patch.b23)&&(decide (a.patch.b24=b.patch.b24)&&(decide (a.patch.b25=b.patch.b25)&&(decide (a.patch.b26=b.patch.b26)&&(decide (a.patch.b27=b.patch.b27)&&(decide (a.patch.b28=b.patch.b28)&&(decide (a.patch.b29=b.patch.b29)&&(decide (a.patch.b30=b.patch.b30)&&(decide (a.patch.b31=b.patch.b31)&&(decide (a.n=b.n)&&(true)))))))))))))))))))))))))))))))))
def dz:Dig:=⟨0,0,0,0,0,0,0,0,0,0,0,0,0,0,0,0,0,0,0,0,0,0,0,0,0,0,0,0,0,0,0,0⟩
def iz:Idn:=⟨dz,0⟩
def y7 (x:Idn):Bool:=vd x.patch dz
def bs (l:List Int):List UInt8:=l.map fun n=>UInt8.ofNat n.toNat
def zD (a b:Dig):Int:=compareBytes (bs (wd a)) (bs (wd b))
def Zj (a b:Int):Int:=bif decide (a<b)then -1 else bif decide (b<a)then 1 else 0
def idC (a b:Idn):Int:=bif !decide (zD a.patch b.patch=0)then zD a.patch b.patch else Zj a.n b.n
def XS (c:Chg):Int:=bif decide (c.kind=5)then IntKind.i64.wrap (IntKind.i64.wrap (2*(c.lines.length:Int))+1)else 1
def vm:List Int->Int->Int
 | [],_=> -1
 | a::l,n=>bif decide (n=a)then 0 else bif decide (vm l n<0)then -1 else vm l n+1
theorem WT: ∀(l:List Int) (n:Int), -1<=vm l n
 | [],_=>Int.le_refl _
 | a::l,n=>by
  have:=WT l n
  unfold vm
  cases decide (n=a)
  . cases c:decide (vm l n<0)
    . have:=of_decide_eq_false c;simp only [cond_false];omega
    . simp
  . simp
def chrB (b:UInt8):Bool:=decide ((97<=b.toNat/\b.toNat<=122)∨(65<=b.toNat/\b.toNat<=90)∨(48<=b.toNat/\b.toNat<=57)∨b.toNat=46∨b.toNat=95∨b.toNat=45)
def restN (s:ByteArray):Bool:=bif !decide (s=(⟨#[]⟩:ByteArray))then (bif decide ((s.size:Int)<=40)then (bif !decide (s=(⟨#[46]⟩:ByteArray))then !decide (s=(⟨#[46,46]⟩:ByteArray))else false)else false)else false
def Qh (s:ByteArray):Bool:=s.data.toList.all chrB&&restN s
def cleanB (s:ByteArray) (a b:Int):Bool:=s.data.toList.all fun x=> !(decide ((x.toNat:Int)=a)||decide ((x.toNat:Int)=b))
def ZI (s:ByteArray):Bool:=bif decide ((s.size:Int)<=1000)then cleanB s 10 0 else false
def Q1 (l:List ByteArray):Bool:=decide (40<l.length)||decide (3000< (l.map ByteArray.size).sum)
def qp (s:ByteArray):Sx:=⟨false,s,[]⟩
def qU (l:List Sx):Sx:=⟨true,⟨#[]⟩,l⟩
def zE (n:Int):Sx:=(yL n).1
theorem qqZ (a b:Dig):vd a b=decide (a=b):=by
 have:decide (a=b)=decide (wd a=wd b):=by
  rw [decide_eq_decide]
  refine ⟨fun h=>by rw [h],fun h=> ?_⟩
  obtain ⟨a0,a1,a2,a3,a4,a5,a6,a7,a8,a9,a10,a11,a12,a13,a14,a15,a16,a17,a18,a19,a20,a21,a22,a23,a24,a25,a26,a27,a28,a29,a30,a31⟩:=a
  obtain ⟨b0,b1,b2,b3,b4,b5,b6,b7,b8,b9,b10,b11,b12,b13,b14,b15,b16,b17,b18,b19,b20,b21,b22,b23,b24,b25,b26,b27,b28,b29,b30,b31⟩:=b
  simp only [wd,List.cons.injEq,and_true] at h
  simpa only [Dig.mk.injEq] using h
 rw [this]
 simp only [vd,wd,List.cons.injEq,and_true,Bool.and_true,Bool.decide_and]
theorem yF (a b:Idn):zy a b=decide (a=b):=by
 obtain ⟨a,n⟩:=a
 obtain ⟨b,m⟩:=b
 have h:zy ⟨a,n⟩ ⟨b,m⟩=(vd a b&&decide (n=m)):=by
  simp only [zy,vd,Bool.and_true,Bool.and_assoc]
 rw [h,qqZ, <- Bool.decide_and,decide_eq_decide,Idn.mk.injEq]
theorem ju {α:Type} {K:α->Prop} {c:Bool} {x y:α} {P Q:Prop} (h1:K x->P) (h2:K y->Q) (h:K (bif c then x else y)):bif c then P else Q:=by
 cases c
 . exact h2 h
 . exact h1 h
theorem qZ.count {γ:Type} {body:(γ->Prop)->γ->Prop} (N:Nat) (S:Nat->γ) (P:Nat->Prop) (h: ∀n,n<=N->P n-> ∀W:γ->Prop,(n<N->P (n+1)->W (S (n+1)))->body W (S n)) (h0:P 0):qZ body (S 0):=by
 have key: ∀k n,n+k=N->P n->QQ body (k+1) (S n):=by
  intro k
  induction k with
  | zero=>intro n hn hp;exact h n (by omega) hp _ fun hlt=>by omega
  | succ k ih=>intro n hn hp;exact h n (by omega) hp _ fun hlt hp'=>ih (n+1) (by omega) hp'
 exact ⟨N+1,key N 0 (by omega) h0⟩
theorem qZ.countTo {γ:Type} {body:(γ->Prop)->γ->Prop} {g:γ} (N:Nat) (S:Nat->γ) (P:Nat->Prop) (hg:g=S 0) (h: ∀n,n<=N->P n-> ∀W:γ->Prop,(n<N->P (n+1)->W (S (n+1)))->body W (S n)) (h0:P 0):qZ body g:=by
 rw [hg];exact qZ.count N S P h h0
theorem zg {α:Type} {l:List α} {n:Nat} (h:n<l.length):l.take (n+1)=l.take n++[l[n]]:=by
 simp
theorem qH {n N:Nat} (h:n<N):decide ((n:Int) < (N:Int))=true:=by simp;omega
theorem qt {N:Nat}:decide ((N:Int) < (N:Int))=false:=by simp
end Go.Proofs.YtbglndogddddoaaGreatDoor
namespace Go.Proofs.YtbglndogddddoaaGreatDoor
open Go.RowKit
theorem qZ.all {γ:Type} {body:(γ->Prop)->γ->Prop} {g:γ} (N:Nat) (S:Nat->γ) (p:Nat->Bool) (Q:Bool->Prop) (hQ:Q (decide (∀n,n<N->p n=true))) (hg:g=S 0)
  (step: ∀(W:γ->Prop) (n:Nat),n<N->(p n=true->W (S (n+1)))->(p n=false->Q false)->body W (S n)) (last:Q true-> ∀W:γ->Prop,body W (S N)):qZ body g:=by
 refine qZ.countTo N S (fun n=> ∀i,i<n->p i=true) hg (fun n hn hp W hW=> ?_) fun i hi=>by omega
 by_cases hlt:n<N
 . refine step W n hlt (fun h=>hW hlt fun i hi=> ?_) fun h=> ?_
   . by_cases e:i=n
     . rw [e];exact h
     . exact hp i (by omega)
   . have:decide (∀n,n<N->p n=true)=false:=by
      rw [decide_eq_false_iff_not]
      intro ha
      have:=ha n hlt
      rw [h] at this;cases this
     rwa [this] at hQ
 . have:n=N:=by omega
   subst this
   have:decide (∀i,i<n->p i=true)=true:=by rw [decide_eq_true_eq];exact hp
   rw [this] at hQ
   exact last hQ W
theorem decB_one {n:Nat} (h:n<10):wo (n:Int)=⟨#[UInt8.ofNat (48+n)]⟩:=by
 unfold wo Lib.itoa
 rw [if_neg (by omega),show ((n:Int)).toNat=n by omega,Lib.decDigits_one h]
theorem VF (d:Dig):(YX d).size=32:=rfl
theorem yb (s:ByteArray):vk (qp s)=s.size+3:=by simp [qp,vk,zl]
theorem vR (l:List Sx):vk (qU l)=zl l+3:=by
 have:(⟨#[]⟩:ByteArray).size=0:=rfl
 simp only [qU,vk,this];omega
theorem itoa_len {n:Int} (h:j6 n):(wo n).size<=21:=by
 obtain ⟨h1,h2⟩:=h
 show (Lib.itoa n).toArray.size<=21
 rw [List.size_toArray]
 unfold Lib.itoa
 split
 . have:=yC 19 n.natAbs (by omega)
   simp only [List.length_cons];omega
 . have:=yC 19 n.toNat (by omega)
   omega
theorem QI {n:Int} (h:j6 n):vk (zE n)<=24:=by
 have:=itoa_len h
 unfold zE yL
 split
 . simp only [sx0,vk,zl];exact Nat.le_of_ble_eq_true rfl
 . simp only [vk,zl];omega
theorem qZ.map {α β γ:Type} {body:(γ->Prop)->γ->Prop} {g:γ} (l:List α) (f:α->β) (S:Int->List β->γ) (hr:l.length<=4294967296) (hg:g=S 0 [])
  (step: ∀(W:γ->Prop) (n:Nat) (h:n<l.length) (out:List β),out.length=n->W (S (IntKind.i64.wrap ((n:Int)+1)) (out++[f l[n]]))->body W (S n out))
  (last: ∀W:γ->Prop,body W (S l.length (l.map f))):qZ body g:=by
 refine qZ.countTo l.length (fun n=>S n ((l.take n).map f)) (fun _=>True) (by simpa using hg) (fun n hn _ W hW=> ?_) trivial
 by_cases hlt:n<l.length
 . refine step W n hlt _ (by simp;omega) ?_
   have:=hW hlt trivial
   rw [zU hlt hr]
   rwa [zg hlt,List.map_append] at this
 . have:n=l.length:=by omega
   subst this
   simp only [List.take_length]
   exact last W
def spL (n:Nat):Prop:=n<=4294967295
theorem jI {α:Type} {a:List α} {n:Nat} (h:n<a.length):a[n]? =some a[n]:=List.getElem?_eq_getElem h
theorem w64 {n:Int} (h:0<=n/\n<=8589934592):IntKind.i64.wrap n=n:=QP (by omega) (by omega)
def sumP (l:List ByteArray):Prop:=(l.map zt).sum<=2097152
theorem K7 {l:List ByteArray} {n:Nat} (h:n<l.length):((l.take (n+1)).map ByteArray.size).sum=((l.take n).map ByteArray.size).sum+l[n].size:=by
 rw [zg h,List.map_append,List.sum_append];simp
theorem sum_bk: ∀l:List ByteArray,(l.map zt).sum=(l.map ByteArray.size).sum+l.length
 | []=>rfl
 | s::l=>by simp only [List.map_cons,List.sum_cons,List.length_cons,sum_bk l,zt];omega
theorem sum_le {l:List ByteArray} (n:Nat):((l.take n).map ByteArray.size).sum<=(l.map ByteArray.size).sum:=by
 have:=List.take_append_drop n l
 have e:(l.map ByteArray.size).sum=((l.take n).map ByteArray.size).sum+((l.drop n).map ByteArray.size).sum:=by
  rw [<- List.sum_append, <- List.map_append,this]
 omega
theorem qqd {α:Type} {a:List α} (q:α->Bool):a.all q=decide (∀n,n<a.length->(a[n]?).all q=true):=by
 rw [Bool.eq_iff_iff,decide_eq_true_eq,List.all_eq_true]
 refine ⟨fun e n h=>by rw [jI h];exact e _ (List.getElem_mem _),fun e x hx=> ?_⟩
 obtain ⟨n,h,rfl⟩:=List.mem_iff_getElem.1 hx
 have:=e n h
 rwa [jI h] at this
end Go.Proofs.YtbglndogddddoaaGreatDoor
namespace Go.Proofs.YtbglndogddddoaaGreatDoor
open Go.RowKit
attribute [local irreducible] qJ qd
set_option maxRecDepth 100000
def H47:List (Nat×Hint):=[]
def J47:List (Nat×Hint):=[]
abbrev S47:List Sh:=[.leaf]
abbrev L47:List Lf:=[.el .idk]
def F47 (g:prodL L47) (K:Kn):Prop:=
 K (.bool (vd g.1.patch dz)) []
theorem F47_eq (g:prodL L47) (K X:Kn):F47 g K=qJ D (qQ [] []) (qw []) H47 J47 7 [.tmp 2] (qz Tryz.f47) (argsT S47 L47 g) [] (settle0 K) X:=by kernel_rfl
theorem F47_ok (g:prodL L47) (K X:Kn) (h:F47 g K):FCalls Tryz.prog 47 (argsT S47 L47 g) [] K X:=
 FCalls.settle0 (qq qh (wQ wZ) qx rfl Tryz.func47 (c:=qz Tryz.f47) rfl Tryz.ntmps47 Tryz.results47 (by unfold qk;rw [Tryz.func47];kernel_rfl) (Nat.le_of_ble_eq_true (by kernel_rfl)) (c0:=0) (Eq.mp (F47_eq g K X) h))
def KV:Sp:=⟨S47,L47,fun _=>True,fun g=> .bool (y7 g.1),fun _=>none⟩
theorem WE:KV.Ok Tryz.prog 47 true:=
 ⟨fun g K X hp h=>F47_ok g K X h,fun _ _ _=>rfl,fun _=>rfl,by first | exact fun _ _=>⟨rfl,rfl⟩ | (intro h;cases h)⟩
def H28:List (Nat×Hint):=[]
def J28:List (Nat×Hint):=[]
abbrev S28:List Sh:=[]
abbrev L28:List Lf:=[]
def F28 (g:prodL L28) (K:Kn):Prop:=
 K (.ag (enc .idk (⟨dz, -1⟩:Idn))) []
theorem F28_eq (g:prodL L28) (K X:Kn):F28 g K=qJ D (qQ [] []) (qw []) H28 J28 2 [.cell 0 36] (qz Tryz.f28) (argsT S28 L28 g) [] (settle0 K) X:=by kernel_rfl
theorem F28_ok (g:prodL L28) (K X:Kn) (h:F28 g K):FCalls Tryz.prog 28 (argsT S28 L28 g) [] K X:=
 FCalls.settle0 (qq qh (wQ wZ) qx rfl Tryz.func28 (c:=qz Tryz.f28) rfl Tryz.ntmps28 Tryz.results28 (by unfold qk;rw [Tryz.func28];kernel_rfl) (Nat.le_of_ble_eq_true (by kernel_rfl)) (c0:=0) (Eq.mp (F28_eq g K X) h))
def sp28:Sp:=⟨S28,L28,fun _=>True,fun g=> .ag (enc .idk (⟨dz, -1⟩:Idn)),fun _=>none⟩
theorem sp28_ok:sp28.Ok Tryz.prog 28 false:=
 ⟨fun g K X hp h=>F28_ok g K X h,fun _ _ _=>rfl,fun _=>rfl,by first | exact fun _ _=>⟨rfl,rfl⟩ | (intro h;cases h)⟩
def H119:List (Nat×Hint):=[]
def J119:List (Nat×Hint):=[]
abbrev S119:List Sh:=[.leaf]
abbrev L119:List Lf:=[.str]
def F119 (g:prodL L119) (K:Kn):Prop:=
 K (.ag [.bool false, .str g.1, .nil]) []
theorem F119_eq (g:prodL L119) (K X:Kn):F119 g K=qJ D (qQ [] []) (qw []) H119 J119 5 [.cell 2 85] (qz Tryz.f119) (argsT S119 L119 g) [] (settle0 K) X:=by kernel_rfl
theorem F119_ok (g:prodL L119) (K X:Kn) (h:F119 g K):FCalls Tryz.prog 119 (argsT S119 L119 g) [] K X:=
 FCalls.settle0 (qq qh (wQ wZ) qx rfl Tryz.func119 (c:=qz Tryz.f119) rfl Tryz.ntmps119 Tryz.results119 (by unfold qk;rw [Tryz.func119];kernel_rfl) (Nat.le_of_ble_eq_true (by kernel_rfl)) (c0:=0) (Eq.mp (F119_eq g K X) h))
def wG:Sp:=⟨S119,L119,fun _=>True,fun g=> .ag [.bool false, .str g.1, .nil],fun _=>none⟩
theorem yV:wG.Ok Tryz.prog 119 false:=
 ⟨fun g K X hp h=>F119_ok g K X h,fun _ _ _=>rfl,fun _=>rfl,by first | exact fun _ _=>⟨rfl,rfl⟩ | (intro h;cases h)⟩
def H118:List (Nat×Hint):=[]
def J118:List (Nat×Hint):=[]
abbrev S118:List Sh:=[.fsl .sexp]
abbrev L118:List Lf:=[.sl .sexp]
abbrev O118:List ObSh:=[]
def F118 (g:prodL L118) (K:Kn):Prop:=
 K (.ag [.bool true, .str (⟨#[]⟩:ByteArray), .sl true .sexp g.1]) []
theorem F118_eq (g:prodL L118) (K X:Kn):F118 g K=qJ D (qQ [] []) (qw []) H118 J118 5 [.cell 2 85] (qz Tryz.f118) (argsT S118 L118 g) (qa S118 O118 L118 g) (settle0 K) X 0:=by kernel_rfl
theorem F118_ok (g:prodL L118) (K X:Kn) (h:F118 g K):FCalls Tryz.prog 118 (argsT S118 L118 g) (qa S118 O118 L118 g) K X 0:=
 FCalls.settle0 (qq qh (wQ wZ) qx rfl Tryz.func118 (c:=qz Tryz.f118) rfl Tryz.ntmps118 Tryz.results118 (by unfold qk;rw [Tryz.func118];kernel_rfl) (Nat.le_of_ble_eq_true (by kernel_rfl)) (c0:=0) (Eq.mp (F118_eq g K X) h))
def yj:Raw:=⟨S118,O118,L118,0,fun g K _=>F118 g K⟩
theorem rw118_ok:yj.Ok Tryz.prog 118:=fun g K X h=>F118_ok g K X h
def H83:List (Nat×Hint):=[]
def J83:List (Nat×Hint):=[]
abbrev S83:List Sh:=[.leaf]
abbrev L83:List Lf:=[.int .i64]
def F83 (g:prodL L83) (K:Kn):Prop:=
 K (.bool (!decide (g.1=g.1))) []
theorem F83_eq (g:prodL L83) (K X:Kn):F83 g K=qJ D (qQ [] []) (qw []) H83 J83 6 [.tmp 2] (qz Tryz.f83) (argsT S83 L83 g) [] (settle0 K) X:=by kernel_rfl
theorem F83_ok (g:prodL L83) (K X:Kn) (h:F83 g K):FCalls Tryz.prog 83 (argsT S83 L83 g) [] K X:=
 FCalls.settle0 (qq qh (wQ wZ) qx rfl Tryz.func83 (c:=qz Tryz.f83) rfl Tryz.ntmps83 Tryz.results83 (by unfold qk;rw [Tryz.func83];kernel_rfl) (Nat.le_of_ble_eq_true (by kernel_rfl)) (c0:=0) (Eq.mp (F83_eq g K X) h))
def sp83:Sp:=⟨S83,L83,fun _=>True,fun g=> .bool (!decide (g.1=g.1)),fun _=>none⟩
theorem sp83_ok:sp83.Ok Tryz.prog 83 false:=
 ⟨fun g K X hp h=>F83_ok g K X h,fun _ _ _=>rfl,fun _=>rfl,by first | exact fun _ _=>⟨rfl,rfl⟩ | (intro h;cases h)⟩
def H41:List (Nat×Hint):=[]
def J41:List (Nat×Hint):=[]
abbrev S41:List Sh:=[.leaf, .leaf]
abbrev L41:List Lf:=[.int .i64, .int .i64]
def F41 (g:prodL L41) (K:Kn):Prop:=
 True/\
 True/\
 bif !decide (g.1=g.1)then (
  bif !decide (g.2.1=g.2.1)then (
   K (.int .i64 0) [])
  else (
   K (.int .i64 (-1)) []))
 else (
  bif !decide (g.2.1=g.2.1)then (
  K (.int .i64 1) [])
 else (
  bif decide (g.1<g.2.1)then (
  K (.int .i64 (-1)) [])
 else (
  bif decide (g.2.1<g.1)then (
  K (.int .i64 1) [])
 else (
  K (.int .i64 0) []))))
theorem F41_eq (g:prodL L41) (K X:Kn):F41 g K=qJ D (qQ [] [(83,false,sp83)]) (qw []) H41 J41 20 [.tmp 4] (qz Tryz.f41) (argsT S41 L41 g) [] (settle0 K) X:=by kernel_rfl
theorem F41_ok (g:prodL L41) (K X:Kn) (h:F41 g K):FCalls Tryz.prog 41 (argsT S41 L41 g) [] K X:=
 FCalls.settle0 (qq (Γ:=qQ [] [(83,false,sp83)]) (mu:=qw []) (H:=H41) (J:=J41) qh (qX (rs:=[]) (l:=[(83,false,sp83)]) (fun p hp=>by cases hp) (by intro p hp;simp only [List.mem_cons,List.not_mem_nil,or_false] at hp;subst hp;exact sp83_ok)) qx rfl Tryz.func41 (c:=qz Tryz.f41) rfl Tryz.ntmps41 Tryz.results41 (by unfold qk;rw [Tryz.func41];kernel_rfl) (Nat.le_of_ble_eq_true (by kernel_rfl)) (c0:=0) (Eq.mp (F41_eq g K X) h))
def H64:List (Nat×Hint):=[]
def J64:List (Nat×Hint):=[]
abbrev S64:List Sh:=[]
abbrev L64:List Lf:=[]
def F64 (g:prodL L64) (K:Kn):Prop:=
 K (.ag [.int .u32 1779033703, .int .u32 3144134277, .int .u32 1013904242, .int .u32 2773480762, .int .u32 1359893119, .int .u32 2600822924, .int .u32 528734635, .int .u32 1541459225]) []
theorem F64_eq (g:prodL L64) (K X:Kn):F64 g K=qJ D (qQ [] []) (qw []) H64 J64 2 [.cell 0 101] (qz Tryz.f64) (argsT S64 L64 g) [] (settle0 K) X:=by kernel_rfl
theorem F64_ok (g:prodL L64) (K X:Kn) (h:F64 g K):FCalls Tryz.prog 64 (argsT S64 L64 g) [] K X:=
 FCalls.settle0 (qq qh (wQ wZ) qx rfl Tryz.func64 (c:=qz Tryz.f64) rfl Tryz.ntmps64 Tryz.results64 (by unfold qk;rw [Tryz.func64];kernel_rfl) (Nat.le_of_ble_eq_true (by kernel_rfl)) (c0:=0) (Eq.mp (F64_eq g K X) h))
def sp64:Sp:=⟨S64,L64,fun _=>True,fun g=> .ag [.int .u32 1779033703, .int .u32 3144134277, .int .u32 1013904242, .int .u32 2773480762, .int .u32 1359893119, .int .u32 2600822924, .int .u32 528734635, .int .u32 1541459225],fun _=>none⟩
theorem sp64_ok:sp64.Ok Tryz.prog 64 false:=
 ⟨fun g K X hp h=>F64_ok g K X h,fun _ _ _=>rfl,fun _=>rfl,by first | exact fun _ _=>⟨rfl,rfl⟩ | (intro h;cases h)⟩
def H34:List (Nat×Hint):=[(3,⟨[],[(0, .leaf),(3, .leaf),(4, .leaf)],[],[.sl .str, .int .i64, .int .i64]⟩)]
def J34:List (Nat×Hint):=[]
abbrev S34:List Sh:=[.leaf]
abbrev L34:List Lf:=[.sl .str]
def F34_B2 (K:Kn) (W2:prodL [.sl .str, .int .i64, .int .i64]->Prop) (l_1:List ByteArray) (n_1 i_1:Int):Prop:=
 bif decide (i_1< (l_1.length:Int))then (
  At l_1 i_1 fun u3=>
 W2 (l_1,IntKind.i64.wrap (n_1+(u3.size:Int)),IntKind.i64.wrap (i_1+1),()))
 else (
  bif decide (40< (l_1.length:Int))then (
  K (.bool true) [])
 else (
  K (.bool (decide (3000<n_1))) []))
def F34_L2 (K:Kn) (g:prodL [.sl .str, .int .i64, .int .i64]):Prop:=
 qZ (γ:=prodL [.sl .str, .int .i64, .int .i64]) (fun V y=>F34_B2 K V y.1 y.2.1 y.2.2.1) g
def F34 (g:prodL L34) (K:Kn):Prop:=
 F34_L2 K (g.1,0,0,())
theorem F34_eq (g:prodL L34) (K X:Kn):F34 g K=qJ D (qQ [] []) (qw []) H34 J34 25 [.tmp 2] (qz Tryz.f34) (argsT S34 L34 g) [] (settle0 K) X:=by kernel_rfl
theorem F34_ok (g:prodL L34) (K X:Kn) (h:F34 g K):FCalls Tryz.prog 34 (argsT S34 L34 g) [] K X:=
 FCalls.settle0 (qq qh (wQ wZ) qx rfl Tryz.func34 (c:=qz Tryz.f34) rfl Tryz.ntmps34 Tryz.results34 (by unfold qk;rw [Tryz.func34];kernel_rfl) (Nat.le_of_ble_eq_true (by kernel_rfl)) (c0:=0) (Eq.mp (F34_eq g K X) h))
def H115:List (Nat×Hint):=[(2,⟨[],[(0, .leaf),(6, .leaf),(7, .leaf)],[],[.str, .int .i64, .int .i64]⟩)]
def J115:List (Nat×Hint):=[(6,⟨[],[(0, .leaf),(6, .leaf),(7, .leaf),(46, .leaf)],[],[.str, .int .i64, .int .i64, .bool]⟩)]
abbrev S115:List Sh:=[.leaf]
abbrev L115:List Lf:=[.str]
def qi (K:Kn) (W2:prodL [.str, .int .i64, .int .i64]->Prop) (s_4:ByteArray) (t_4 t2_4:Int) (t3_4:Bool):Prop:=
 bif t3_4 then (
  K (.bool false) [])
 else (
  W2 (s_4,t_4,IntKind.i64.wrap (t2_4+1),()))
def Qw (K:Kn) (W2:prodL [.str, .int .i64, .int .i64]->Prop) (s_1:ByteArray) (t_1 t2_1:Int):Prop:=
 bif decide (t2_1<t_1)then (
  StrAt s_1 t2_1 fun b3=>
 bif decide (b3<97)then (
  bif decide (b3<65)then (
   bif decide (b3<48)then (
    bif !decide (b3=46)then (
     bif !decide (b3=95)then (
      qi K W2 s_1 t_1 t2_1 (!decide (b3=45)))
     else (
      qi K W2 s_1 t_1 t2_1 false))
    else (
     qi K W2 s_1 t_1 t2_1 false))
   else (
    bif decide (57<b3)then (
     bif !decide (b3=46)then (
      bif !decide (b3=95)then (
       qi K W2 s_1 t_1 t2_1 (!decide (b3=45)))
      else (
       qi K W2 s_1 t_1 t2_1 false))
     else (
      qi K W2 s_1 t_1 t2_1 false))
    else (
     qi K W2 s_1 t_1 t2_1 false)))
  else (
   bif decide (90<b3)then (
    bif decide (b3<48)then (
     bif !decide (b3=46)then (
      bif !decide (b3=95)then (
       qi K W2 s_1 t_1 t2_1 (!decide (b3=45)))
      else (
       qi K W2 s_1 t_1 t2_1 false))
     else (
      qi K W2 s_1 t_1 t2_1 false))
    else (
     bif decide (57<b3)then (
      bif !decide (b3=46)then (
       bif !decide (b3=95)then (
        qi K W2 s_1 t_1 t2_1 (!decide (b3=45)))
       else (
        qi K W2 s_1 t_1 t2_1 false))
      else (
       qi K W2 s_1 t_1 t2_1 false))
     else (
      qi K W2 s_1 t_1 t2_1 false)))
   else (
    qi K W2 s_1 t_1 t2_1 false)))
 else (
  bif decide (122<b3)then (
   bif decide (b3<65)then (
    bif decide (b3<48)then (
     bif !decide (b3=46)then (
      bif !decide (b3=95)then (
       qi K W2 s_1 t_1 t2_1 (!decide (b3=45)))
      else (
       qi K W2 s_1 t_1 t2_1 false))
     else (
      qi K W2 s_1 t_1 t2_1 false))
    else (
     bif decide (57<b3)then (
      bif !decide (b3=46)then (
       bif !decide (b3=95)then (
        qi K W2 s_1 t_1 t2_1 (!decide (b3=45)))
       else (
        qi K W2 s_1 t_1 t2_1 false))
      else (
       qi K W2 s_1 t_1 t2_1 false))
     else (
      qi K W2 s_1 t_1 t2_1 false)))
   else (
    bif decide (90<b3)then (
     bif decide (b3<48)then (
      bif !decide (b3=46)then (
       bif !decide (b3=95)then (
        qi K W2 s_1 t_1 t2_1 (!decide (b3=45)))
       else (
        qi K W2 s_1 t_1 t2_1 false))
      else (
       qi K W2 s_1 t_1 t2_1 false))
     else (
      bif decide (57<b3)then (
       bif !decide (b3=46)then (
        bif !decide (b3=95)then (
         qi K W2 s_1 t_1 t2_1 (!decide (b3=45)))
        else (
         qi K W2 s_1 t_1 t2_1 false))
       else (
        qi K W2 s_1 t_1 t2_1 false))
      else (
       qi K W2 s_1 t_1 t2_1 false)))
    else (
     qi K W2 s_1 t_1 t2_1 false)))
  else (
   qi K W2 s_1 t_1 t2_1 false)))
 else (
  bif !decide (s_1=(⟨#[]⟩:ByteArray))then (
  bif decide ((s_1.size:Int)<=40)then (
   bif !decide (s_1=(⟨#[46]⟩:ByteArray))then (
    K (.bool (!decide (s_1=(⟨#[46,46]⟩:ByteArray)))) [])
   else (
    K (.bool false) []))
  else (
   K (.bool false) []))
 else (
  K (.bool false) []))
def F115_L2 (K:Kn) (g:prodL [.str, .int .i64, .int .i64]):Prop:=
 qZ (γ:=prodL [.str, .int .i64, .int .i64]) (fun V y=>Qw K V y.1 y.2.1 y.2.2.1) g
def F115 (g:prodL L115) (K:Kn):Prop:=
 F115_L2 K (g.1,(g.1.size:Int),0,())
theorem F115_eq (g:prodL L115) (K X:Kn):F115 g K=qJ D (qQ [] []) (qw []) H115 J115 63 [.tmp 2] (qz Tryz.f115) (argsT S115 L115 g) [] (settle0 K) X:=by kernel_rfl
theorem F115_ok (g:prodL L115) (K X:Kn) (h:F115 g K):FCalls Tryz.prog 115 (argsT S115 L115 g) [] K X:=
 FCalls.settle0 (qq qh (wQ wZ) qx rfl Tryz.func115 (c:=qz Tryz.f115) rfl Tryz.ntmps115 Tryz.results115 (by unfold qk;rw [Tryz.func115];kernel_rfl) (Nat.le_of_ble_eq_true (by kernel_rfl)) (c0:=0) (Eq.mp (F115_eq g K X) h))
end Go.Proofs.YtbglndogddddoaaGreatDoor
namespace Go.Proofs.YtbglndogddddoaaGreatDoor
open Go.RowKit
theorem F34_is {l:List ByteArray} {K:Kn} (hl:sumP l) (h:K (.bool (Q1 l)) []):F34 (l,()) K:=by
 unfold sumP at hl
 rw [sum_bk] at hl
 unfold F34
 refine qZ.countTo l.length (fun n=>(l,((((l.take n).map ByteArray.size).sum:Nat):Int),(n:Int),())) (fun _=>True) rfl (fun n hn _ W hW=> ?_) trivial
 show F34_B2 K W l ((((l.take n).map ByteArray.size).sum:Nat):Int) n
 unfold F34_B2
 by_cases hlt:n<l.length
 . rw [qH hlt,cond_true]
   refine qM hlt ?_
   have:=hW hlt trivial
   rw [K7 hlt] at this
   have h1:=sum_le (l:=l) (n+1)
   rw [K7 hlt] at h1
   rw [zU hlt (by omega),w64 (by omega)]
   exact_mod_cast this
 . have:n=l.length:=by omega
   subst this
   rw [qt,cond_false,List.take_length]
   unfold Q1 at h
   have e1:decide (40< (l.length:Int))=decide (40<l.length):=by rw [decide_eq_decide];omega
   have e2:decide (3000< (((l.map ByteArray.size).sum:Nat):Int))=decide (3000< (l.map ByteArray.size).sum):=by rw [decide_eq_decide];omega
   rw [e1,e2]
   cases c:decide (40<l.length)<;>simp only [c,Bool.true_or,Bool.false_or,cond_true,cond_false] at h ⊢ <;>exact h
def sp34:Sp:=⟨S34,L34,fun g=>sumP g.1,fun g=> .bool (Q1 g.1),fun _=>none⟩
theorem sp34_ok:sp34.Ok Tryz.prog 34 true:=
 ⟨fun g K X hp h=>F34_ok g K X (F34_is hp h),fun _ _ _=>rfl,fun _=>rfl,by first | exact fun _ _=>⟨rfl,rfl⟩ | (intro h;cases h)⟩
theorem F41_is {a b:Int} {K:Kn} (h:K (.int .i64 (Zj a b)) []):F41 (a,b,()) K:=by
 unfold F41
 simp only [decide_true,Bool.not_true,cond_false]
 refine ⟨trivial,trivial, ?_⟩
 unfold Zj at h
 cases c:decide (a<b)<;>simp only [c,cond_true,cond_false] at h ⊢
 . cases d:decide (b<a)<;>simp only [d,cond_true,cond_false] at h ⊢ <;>exact h
 . exact h
def sp41:Sp:=⟨S41,L41,fun _=>True,fun g=> .int .i64 (Zj g.1 g.2.1),fun _=>none⟩
theorem sp41_ok:sp41.Ok Tryz.prog 41 false:=
 ⟨fun g K X _ h=>F41_ok g K X (F41_is h),fun _ _ _=>rfl,fun _=>rfl,by first | exact fun _ _=>⟨rfl,rfl⟩ | (intro h;cases h)⟩
end Go.Proofs.YtbglndogddddoaaGreatDoor
namespace Go.Proofs.YtbglndogddddoaaGreatDoor
open Go.RowKit Go.Lib
theorem Zu {P:Program} [Bd P] {g:G P} {st:St} {w:World} (hg:Good g st w) {full:Bool} {l:List Int} {x:Value} (h:R g (.sl full .u8 l) x):(Extern.Bytes.bytesOf x).run P w= .ok ⟨(bs l).toArray⟩ w:=by
 cases h with
 | sl _ _ _ A c h1 h2 h3 h4=>
  by_cases hl:l=[]
  . subst hl
    cases A with
    | none=>rfl
    | some a=>rfl
  . obtain ⟨b,off,cs,rfl,k2,k3⟩:=h4 hl
    obtain ⟨blk,E,fr,p1,p2⟩:=hg.ro b cs k2
    obtain ⟨he,_⟩:=JQ (e:= .u8) (f:=id) rfl l
    have hrow:=zr.ofR p2 p1 off (l.length*sz .u8) (by rw [k3];exact qT)
    rw [k3,he] at hrow
    have hc: ∀(j:Nat) (y:Int),l[j]? =some y->w.cell? ((⟨b,off,none⟩:Addr).add j)=some (.int .u8 y):=fun j y hj=>by
     obtain ⟨z,y1,_,y3⟩:=hrow j (.int .u8 y) (by simp only [id,List.getElem?_map,hj];rfl)
     cases y3
     rw [Addr.add_lit];exact y1
    have hl:=run_loadBytesX (P:=P) w l ⟨b,off,none⟩ .empty hc
    show (Extern.Bytes.loadBytes ⟨b,off,none⟩ l.length .empty).run P w=_
    rw [hl]
    congr 1
    apply ByteArray.ext
    show (#[]:Array UInt8)++(Lib.bytesOf l).toArray=(bs l).toArray
    rw [Array.empty_append]
    rfl
theorem Ki {P:Program} {w:World} {x y:Value} {l m:List UInt8} (hx:(Extern.Bytes.bytesOf x).run P w= .ok ⟨l.toArray⟩ w) (hy:(Extern.Bytes.bytesOf y).run P w= .ok ⟨m.toArray⟩ w):
  (Extern.BytealgCompare.compare #[x,y]).run P w= .ok (.int .i64 (compareBytes l m)) w:=by
 change Sem.run P (do pure (goInt (Extern.BytealgCompare.cmp (<- Extern.Bytes.bytesOf x) (<- Extern.Bytes.bytesOf y)))) w=_
 simp only [Sem.run_bind,hx,hy,Sem.run_pure,Result.andThen]
 rw [cmp_eq]
 rfl
set_option maxHeartbeats 1000000 in
set_option maxRecDepth 100000 in
theorem Vn {w:World} {x y:Value} {l m:List UInt8} (hx:(Extern.Bytes.bytesOf x).run Tryz.prog w= .ok ⟨l.toArray⟩ w) (hy:(Extern.Bytes.bytesOf y).run Tryz.prog w= .ok ⟨m.toArray⟩ w):
  Calls Tryz.prog 40 #[x,y] w fun e w'=>e= .returned (.int .i64 (compareBytes l m))/\w'=w:=by
 go_enter Tryz.func40,Tryz.ntmps40
 go_wp2
 rw [run_callFunc_extern Tryz.func82 (by kernel_rfl) (by kernel_rfl) (by kernel_rfl) (e:=Extern.BytealgCompare.compare) (by kernel_rfl),Ki hx hy]
 simp only [Result.andThen]
 rw [Oper.upon_value]
 go_wp2
 go_ret
 exact ⟨rfl,rfl⟩
set_option maxHeartbeats 1000000 in
set_option maxRecDepth 100000 in
theorem idx_calls {w:World} {s:ByteArray} {c:Int}:
  Calls Tryz.prog 208 #[.string s, .int .u8 c] w fun e w'=>e= .returned (.int .i64 (Lib.indexByte s.data.toList c.toNat.toUInt8))/\w'=w:=by
 go_enter Tryz.func208,Tryz.ntmps208
 go_wp2
 rw [run_callFunc_extern Tryz.func227 (by kernel_rfl) (by kernel_rfl) (by kernel_rfl) (e:=Extern.BytealgIndexByte.indexByte) (by kernel_rfl),Lib.run_indexByteString]
 simp only [Result.andThen]
 rw [Oper.upon_value]
 go_wp2
 go_ret
 exact ⟨rfl,rfl⟩
theorem rl_two {P:Program} {g:G P} {u v:T} {args:Array Value} (h:RL g [u,v] args): ∃x y,args= #[x,y]/\R g u x/\R g v y:=by
 have h2:args.size=2:=h.len.symm
 refine ⟨args[0],args[1],Array.ext (by simpa using h2) fun i h1 h3=> ?_,h.val 0 u _ rfl (Array.getElem?_eq_getElem (by omega)),h.val 1 v _ rfl (Array.getElem?_eq_getElem (by omega))⟩
 have:i=0∨i=1:=by simp at h3;omega
 rcases this with rfl | rfl<;>rfl
def cmpBs (l m:List Int):Int:=compareBytes (bs l) (bs m)
def XX (s:ByteArray) (c:Int):Int:=Lib.indexByte s.data.toList c.toNat.toUInt8
def sp40:Sp:=⟨[.leaf, .leaf],[.sl .u8, .sl .u8],fun _=>True,fun g=> .int .i64 (cmpBs g.1 g.2.1),fun _=>none⟩
theorem sp40_ok:sp40.Ok Tryz.prog 40 true:=
 ⟨by
  rintro ⟨l,m,⟨⟩⟩ K X hp hK g w hg
  refine ya.of (by kernel_rfl) fun args hr=> ?_
  obtain ⟨x,y,rfl,hx,hy⟩:=rl_two hr
  refine (Vn (Zu hg hx) (Zu hg hy)).mono ?_
  rintro e w' ⟨rfl,rfl⟩
  exact ⟨g,[],hg,Step.refl,_,hK, .int _ _⟩,fun _ _ _=>rfl,fun _=>rfl,fun _ _=>⟨rfl,rfl⟩⟩
def sp208:Sp:=⟨[.leaf, .leaf],[.str, .int .u8],fun _=>True,fun g=> .int .i64 (XX g.1 g.2.1),fun _=>none⟩
theorem sp208_ok:sp208.Ok Tryz.prog 208 true:=
 ⟨by
  rintro ⟨s,c,⟨⟩⟩ K X hp hK g w hg
  refine ya.of (by kernel_rfl) fun args hr=> ?_
  obtain ⟨x,y,rfl,hx,hy⟩:=rl_two hr
  cases hx
  cases hy
  refine idx_calls.mono ?_
  rintro e w' ⟨rfl,rfl⟩
  exact ⟨g,[],hg,Step.refl,_,hK, .int _ _⟩,fun _ _ _=>rfl,fun _=>rfl,fun _ _=>⟨rfl,rfl⟩⟩
end Go.Proofs.YtbglndogddddoaaGreatDoor
namespace Go.Proofs.YtbglndogddddoaaGreatDoor
open Go.RowKit
attribute [local irreducible] qJ qd
set_option maxRecDepth 100000
def H18:List (Nat×Hint):=[]
def J18:List (Nat×Hint):=[]
abbrev S18:List Sh:=[.leaf, .leaf]
abbrev L18:List Lf:=[.el .dig, .el .dig]
def F18 (g:prodL L18) (K:Kn):Prop:=
 True/\
 K (.int .i64 (cmpBs (wd g.1) (wd g.2.1))) []
theorem F18_eq (g:prodL L18) (K X:Kn):F18 g K=qJ D (qQ [] [(40,true,sp40)]) (qw []) H18 J18 8 [.tmp 4] (qz Tryz.f18) (argsT S18 L18 g) [] (settle0 K) X:=by kernel_rfl
theorem F18_ok (g:prodL L18) (K X:Kn) (h:F18 g K):FCalls Tryz.prog 18 (argsT S18 L18 g) [] K X:=
 FCalls.settle0 (qq (Γ:=qQ [] [(40,true,sp40)]) (mu:=qw []) (H:=H18) (J:=J18) qh (qX (rs:=[]) (l:=[(40,true,sp40)]) (fun p hp=>by cases hp) (by intro p hp;simp only [List.mem_cons,List.not_mem_nil,or_false] at hp;subst hp;exact sp40_ok)) qx rfl Tryz.func18 (c:=qz Tryz.f18) rfl Tryz.ntmps18 Tryz.results18 (by unfold qk;rw [Tryz.func18];kernel_rfl) (Nat.le_of_ble_eq_true (by kernel_rfl)) (c0:=0) (Eq.mp (F18_eq g K X) h))
def sp18:Sp:=⟨S18,L18,fun _=>True,fun g=> .int .i64 (zD g.1 g.2.1),fun _=>none⟩
theorem sp18_ok:sp18.Ok Tryz.prog 18 true:=
 ⟨fun g K X hp h=>F18_ok g K X (by
  have h:K (.int .i64 (zD g.1 g.2.1)) []:=h
  exact ⟨trivial,h⟩),fun _ _ _=>rfl,fun _=>rfl,by first | exact fun _ _=>⟨rfl,rfl⟩ | (intro h;cases h)⟩
def H159:List (Nat×Hint):=[]
def J159:List (Nat×Hint):=[]
abbrev S159:List Sh:=[.leaf, .leaf]
abbrev L159:List Lf:=[.str, .int .u8]
def F159 (g:prodL L159) (K:Kn):Prop:=
 True/\
 K (.int .i64 (XX g.1 g.2.1)) []
theorem F159_eq (g:prodL L159) (K X:Kn):F159 g K=qJ D (qQ [] [(208,true,sp208)]) (qw []) H159 J159 8 [.tmp 4] (qz Tryz.f159) (argsT S159 L159 g) [] (settle0 K) X:=by kernel_rfl
theorem F159_ok (g:prodL L159) (K X:Kn) (h:F159 g K):FCalls Tryz.prog 159 (argsT S159 L159 g) [] K X:=
 FCalls.settle0 (qq (Γ:=qQ [] [(208,true,sp208)]) (mu:=qw []) (H:=H159) (J:=J159) qh (qX (rs:=[]) (l:=[(208,true,sp208)]) (fun p hp=>by cases hp) (by intro p hp;simp only [List.mem_cons,List.not_mem_nil,or_false] at hp;subst hp;exact sp208_ok)) qx rfl Tryz.func159 (c:=qz Tryz.f159) rfl Tryz.ntmps159 Tryz.results159 (by unfold qk;rw [Tryz.func159];kernel_rfl) (Nat.le_of_ble_eq_true (by kernel_rfl)) (c0:=0) (Eq.mp (F159_eq g K X) h))
def sp159:Sp:=⟨S159,L159,fun _=>True,fun g=> .int .i64 (XX g.1 g.2.1),fun _=>none⟩
theorem sp159_ok:sp159.Ok Tryz.prog 159 true:=
 ⟨fun g K X hp h=>F159_ok g K X (by
  have h:K (.int .i64 (XX g.1 g.2.1)) []:=h
  exact ⟨trivial,h⟩),fun _ _ _=>rfl,fun _=>rfl,by first | exact fun _ _=>⟨rfl,rfl⟩ | (intro h;cases h)⟩
def H17:List (Nat×Hint):=[]
def J17:List (Nat×Hint):=[]
abbrev S17:List Sh:=[.leaf, .leaf]
abbrev L17:List Lf:=[.el .idk, .el .idk]
def F17 (g:prodL L17) (K:Kn):Prop:=
 True/\
 bif !decide (cmpBs (wd g.1.patch) (wd g.2.1.patch)=0)then (
  K (.int .i64 (cmpBs (wd g.1.patch) (wd g.2.1.patch))) [])
 else (
  True/\
 K (.int .i64 (Zj g.1.n g.2.1.n)) [])
theorem F17_eq (g:prodL L17) (K X:Kn):F17 g K=qJ D (qQ [] [(40,true,sp40),(41,false,sp41)]) (qw []) H17 J17 19 [.tmp 4] (qz Tryz.f17) (argsT S17 L17 g) [] (settle0 K) X:=by kernel_rfl
theorem F17_ok (g:prodL L17) (K X:Kn) (h:F17 g K):FCalls Tryz.prog 17 (argsT S17 L17 g) [] K X:=
 FCalls.settle0 (qq qh (wQ (vf sp40_ok (vf sp41_ok wZ))) qx rfl Tryz.func17 (c:=qz Tryz.f17) rfl Tryz.ntmps17 Tryz.results17 (by unfold qk;rw [Tryz.func17];kernel_rfl) (Nat.le_of_ble_eq_true (by kernel_rfl)) (c0:=0) (Eq.mp (F17_eq g K X) h))
def sp17:Sp:=⟨S17,L17,fun _=>True,fun g=> .int .i64 (idC g.1 g.2.1),fun _=>none⟩
theorem sp17_ok:sp17.Ok Tryz.prog 17 true:=
 ⟨fun g K X hp h=>F17_ok g K X (by
  have h:K (.int .i64 (idC g.1 g.2.1)) []:=h
  revert h;unfold F17 idC;show (fun v=>K (.int .i64 v) []) _->_
  repeat' (first | exact id | refine ju (K:=fun v=>K (.int .i64 v) []) ?_ ?_ | (intro h;refine ⟨trivial, ?_⟩;revert h))),fun _ _ _=>rfl,fun _=>rfl,by first | exact fun _ _=>⟨rfl,rfl⟩ | (intro h;cases h)⟩
end Go.Proofs.YtbglndogddddoaaGreatDoor
namespace Go.Proofs.YtbglndogddddoaaGreatDoor
open Go.RowKit
def szP (s:ByteArray):Prop:=s.size<=2147483648
theorem getB {s:ByteArray} {n:Nat} (h:n<s.size):s.data.toList[n]? =some (s.data[n]'h):=by
 rw [List.getElem?_eq_getElem (by simpa using h)];simp
theorem StrAt_get {s:ByteArray} {n:Nat} {K:Int->Prop} (h:n<s.size) (hK:K ((s.data[n]'h).toNat:Int)):StrAt s (n:Int) K:=
 ⟨Int.natCast_nonneg _,s.data[n]'h,getElem?_pos s n h,hK⟩
theorem all_bytes (s:ByteArray) (q:UInt8->Bool):s.data.toList.all q=decide (∀n,n<s.size->(s.data.toList[n]?).all q=true):=by
 rw [qqd];rfl
theorem F115_is {s:ByteArray} {K:Kn} (hs:szP s) (h:K (.bool (Qh s)) []):F115 (s,()) K:=by
 unfold szP at hs
 unfold Qh at h
 rw [all_bytes] at h
 unfold F115
 refine qZ.all s.size (fun n=>(s,(s.size:Int),(n:Int),())) (fun n=>(s.data.toList[n]?).all chrB) (fun r=>K (.bool (r&&restN s)) []) h rfl (fun W n hn ht hf=> ?_) fun ht W=> ?_
 . show Qw K W s (s.size:Int) n
   unfold Qw
   rw [qH hn,cond_true]
   refine StrAt_get hn ?_
   simp only [getB hn,Option.all_some] at ht hf
   rw [Bool.false_and] at hf
   generalize s.data[n]'hn=c at ht hf ⊢
   have e1:chrB c=true->qi K W s s.size n false:=fun e=>by unfold qi;rw [cond_false,zU hn (by omega)];exact ht e
   have e2:chrB c=false->qi K W s s.size n true:=fun e=>by unfold qi;rw [cond_true];exact hf e
   simp only [Bool.cond_eq_ite,decide_eq_true_eq,Bool.not_eq_true',decide_eq_false_iff_not]
   (repeat' split)<;>first
    | exact e1 (decide_eq_true (by omega))
    | exact e2 (decide_eq_false (by omega))
    | (by_cases d:((c.toNat:Nat):Int)=45<;>simp only [d,decide_true,decide_false,Bool.not_true,Bool.not_false]<;>first | exact e1 (decide_eq_true (by omega)) | exact e2 (decide_eq_false (by omega)))
 . show Qw K W s (s.size:Int) (s.size:Int)
   unfold Qw
   rw [qt,cond_false]
   rw [Bool.true_and] at ht
   revert ht
   unfold restN
   repeat' (first | exact id | refine ju (K:=fun v=>K (.bool v) []) ?_ ?_)
def Ke:Sp:=⟨S115,L115,fun g=>szP g.1,fun g=> .bool (Qh g.1),fun _=>none⟩
theorem qqe:Ke.Ok Tryz.prog 115 true:=
 ⟨fun g K X hp h=>F115_ok g K X (F115_is hp h),fun _ _ _=>rfl,fun _=>rfl,fun _ _=>⟨rfl,rfl⟩⟩
end Go.Proofs.YtbglndogddddoaaGreatDoor
namespace Go.Proofs.YtbglndogddddoaaGreatDoor
open Go.RowKit
attribute [local irreducible] qJ qd
set_option maxRecDepth 100000
def H117:List (Nat×Hint):=[]
def J117:List (Nat×Hint):=[]
abbrev S117:List Sh:=[.leaf]
abbrev L117:List Lf:=[.str]
def F117 (g:prodL L117) (K:Kn):Prop:=
 bif decide ((g.1.size:Int)<=1000)then (
  True/\
  bif decide (XX g.1 10<0)then (
   True/\
   K (.bool (decide (XX g.1 0<0))) [])
  else (
   K (.bool false) []))
 else (
  K (.bool false) [])
theorem F117_eq (g:prodL L117) (K X:Kn):F117 g K=qJ D (qQ [] [(159,true,sp159)]) (qw []) H117 J117 16 [.tmp 2] (qz Tryz.f117) (argsT S117 L117 g) [] (settle0 K) X:=by kernel_rfl
theorem F117_ok (g:prodL L117) (K X:Kn) (h:F117 g K):FCalls Tryz.prog 117 (argsT S117 L117 g) [] K X:=
 FCalls.settle0 (qq (Γ:=qQ [] [(159,true,sp159)]) (mu:=qw []) (H:=H117) (J:=J117) qh (qX (rs:=[]) (l:=[(159,true,sp159)]) (fun p hp=>by cases hp) (by intro p hp;simp only [List.mem_cons,List.not_mem_nil,or_false] at hp;subst hp;exact sp159_ok)) qx rfl Tryz.func117 (c:=qz Tryz.f117) rfl Tryz.ntmps117 Tryz.results117 (by unfold qk;rw [Tryz.func117];kernel_rfl) (Nat.le_of_ble_eq_true (by kernel_rfl)) (c0:=0) (Eq.mp (F117_eq g K X) h))
def H207:List (Nat×Hint):=[(2,⟨[],[(0, .leaf),(1, .leaf),(7, .leaf),(8, .leaf)],[],[.sl .i64, .int .i64, .int .i64, .int .i64]⟩)]
def J207:List (Nat×Hint):=[]
abbrev S207:List Sh:=[.leaf, .leaf]
abbrev L207:List Lf:=[.sl .i64, .int .i64]
def YB (K:Kn) (W2:prodL [.sl .i64, .int .i64, .int .i64, .int .i64]->Prop) (s_1:List Int) (v_1 t_1 t2_1:Int):Prop:=
 bif decide (t2_1<t_1)then (
  At s_1 t2_1 fun u3=>
 bif decide (v_1=u3)then (
  K (.int .i64 t2_1) [])
 else (
  W2 (s_1,v_1,t_1,IntKind.i64.wrap (t2_1+1),())))
 else (
  K (.int .i64 (-1)) [])
def F207_L2 (K:Kn) (g:prodL [.sl .i64, .int .i64, .int .i64, .int .i64]):Prop:=
 qZ (γ:=prodL [.sl .i64, .int .i64, .int .i64, .int .i64]) (fun V y=>YB K V y.1 y.2.1 y.2.2.1 y.2.2.2.1) g
def F207 (g:prodL L207) (K:Kn):Prop:=
 F207_L2 K (g.1,g.2.1,(g.1.length:Int),0,())
theorem F207_eq (g:prodL L207) (K X:Kn):F207 g K=qJ D (qQ [] []) (qw []) H207 J207 19 [.tmp 4] (qz Tryz.f207) (argsT S207 L207 g) [] (settle0 K) X:=by kernel_rfl
theorem F207_ok (g:prodL L207) (K X:Kn) (h:F207 g K):FCalls Tryz.prog 207 (argsT S207 L207 g) [] K X:=
 FCalls.settle0 (qq qh (wQ wZ) qx rfl Tryz.func207 (c:=qz Tryz.f207) rfl Tryz.ntmps207 Tryz.results207 (by unfold qk;rw [Tryz.func207];kernel_rfl) (Nat.le_of_ble_eq_true (by kernel_rfl)) (c0:=0) (Eq.mp (F207_eq g K X) h))
end Go.Proofs.YtbglndogddddoaaGreatDoor
namespace Go.Proofs.YtbglndogddddoaaGreatDoor
open Go.RowKit
theorem WX: ∀(l:List UInt8) (c:UInt8),decide (Lib.indexByte l c<0)=l.all fun x=> !(x==c)
 | [],c=>rfl
 | b::l,c=>by
  have ih:=WX l c
  unfold Lib.indexByte
  cases e:b==c
  . simp only [Bool.false_eq_true,if_false,List.all_cons,e,Bool.not_false,Bool.true_and]
    rw [<- ih]
    have hg:=Lib.indexByte_ge l c
    by_cases h:Lib.indexByte l c= -1
    . rw [h];rfl
    . have:(Lib.indexByte l c== -1)=false:=by simpa using h
      rw [this,decide_eq_decide]
      simp only [Bool.false_eq_true,if_false]
      omega
  . simp [e]
theorem lineB_eq (s:ByteArray):ZI s=bif decide ((s.size:Int)<=1000)then (bif decide (XX s 10<0)then decide (XX s 0<0)else false)else false:=by
 unfold ZI
 have:cleanB s 10 0=bif decide (XX s 10<0)then decide (XX s 0<0)else false:=by
  unfold cleanB XX
  rw [WX,WX]
  have e1: ∀x:UInt8,decide ((x.toNat:Int)=10)=(x==(10:Int).toNat.toUInt8):=fun x=>by
   rw [Bool.eq_iff_iff,decide_eq_true_eq,beq_iff_eq, <- UInt8.toNat_inj]
   show _↔x.toNat=10
   omega
  have e2: ∀x:UInt8,decide ((x.toNat:Int)=0)=(x==(0:Int).toNat.toUInt8):=fun x=>by
   rw [Bool.eq_iff_iff,decide_eq_true_eq,beq_iff_eq, <- UInt8.toNat_inj]
   show _↔x.toNat=0
   omega
  simp only [e1,e2,Bool.not_or]
  induction s.data.toList with
  | nil=>rfl
  | cons a l ih=>
   simp only [List.all_cons,ih]
   cases a==(10:Int).toNat.toUInt8<;>cases a==(0:Int).toNat.toUInt8<;>simp
 rw [this]
def sp117:Sp:=⟨S117,L117,fun _=>True,fun g=> .bool (ZI g.1),fun _=>none⟩
theorem sp117_ok:sp117.Ok Tryz.prog 117 true:=
 ⟨fun g K X _ h=>F117_ok g K X (by
  have h:K (.bool (ZI g.1)) []:=h
  rw [lineB_eq] at h
  revert h
  unfold F117
  exact ju (K:=fun v=>K (.bool v) []) (fun h=>⟨trivial,ju (K:=fun v=>K (.bool v) []) (fun h=>⟨trivial,h⟩) id h⟩) id),fun _ _ _=>rfl,fun _=>rfl,fun _ _=>⟨rfl,rfl⟩⟩
theorem F207_is {l:List Int} {n:Int} {K:Kn} (hl:spL l.length) (h:K (.int .i64 (vm l n)) []):F207 (l,n,()) K:=by
 unfold spL at hl
 unfold F207
 have key: ∀(m:Nat),m<=l.length->(∀j,j<m->l[j]? ≠some n)->(K (.int .i64 (vm l n)) [])->vm l n=(if vm (l.drop m) n<0 then -1 else vm (l.drop m) n+m):=by
  intro m hm hj _
  induction m with
  | zero=>
   rw [List.drop_zero]
   have:=WT l n
   split<;>omega
  | succ m ih=>
   have e:=ih (by omega) fun j hj'=>hj j (by omega)
   have hlt:m<l.length:=by omega
   rw [List.drop_eq_getElem_cons hlt,vm] at e
   have: ¬n=l[m]:=fun q=>hj m (by omega) (by rw [List.getElem?_eq_getElem hlt,q])
   rw [decide_eq_false this,cond_false] at e
   have:=WT (l.drop (m+1)) n
   cases c:decide (vm (l.drop (m+1)) n<0)<;>simp only [c,cond_true,cond_false] at e
   . have c:=of_decide_eq_false c
     rw [if_neg c];rw [if_neg (by omega)] at e;omega
   . have c:=of_decide_eq_true c
     rw [if_pos c];simpa using e
 refine qZ.countTo l.length (fun m=>(l,n,(l.length:Int),(m:Int),())) (fun m=> ∀j,j<m->l[j]? ≠some n) rfl (fun m hm hj W hW=> ?_) (by omega)
 show YB K W l n l.length m
 unfold YB
 have e:=key m hm hj h
 by_cases hlt:m<l.length
 . rw [qH hlt,cond_true]
   refine qM hlt ?_
   by_cases q:n=l[m]
   . rw [decide_eq_true q,cond_true]
     rw [List.drop_eq_getElem_cons hlt,vm,decide_eq_true q,cond_true] at e
     rw [e] at h
     simpa using h
   . rw [decide_eq_false q,cond_false,zU hlt (by omega)]
     refine hW hlt fun j hj'=> ?_
     by_cases c:j=m
     . subst c;rw [List.getElem?_eq_getElem hlt];simpa using fun c=>q c.symm
     . exact hj j (by omega)
 . have:m=l.length:=by omega
   subst this
   rw [qt,cond_false]
   rw [List.drop_length,vm] at e
   rw [e] at h
   simpa using h
def KK:Sp:=⟨S207,L207,fun g=>spL g.1.length,fun g=> .int .i64 (vm g.1 g.2.1),fun _=>none⟩
theorem sp207_ok:KK.Ok Tryz.prog 207 true:=
 ⟨fun g K X hp h=>F207_ok g K X (F207_is hp h),fun _ _ _=>rfl,fun _=>rfl,fun _ _=>⟨rfl,rfl⟩⟩
end Go.Proofs.YtbglndogddddoaaGreatDoor
namespace Go.Proofs.YtbglndogddddoaaGreatDoor
open Go.RowKit
attribute [local irreducible] qJ qd
set_option maxRecDepth 100000
def H158:List (Nat×Hint):=[]
def J158:List (Nat×Hint):=[]
abbrev S158:List Sh:=[.leaf, .leaf]
abbrev L158:List Lf:=[.sl .i64, .int .i64]
def F158 (g:prodL L158) (K:Kn):Prop:=
 KK.pre (g.1,g.2.1,())/\
 K (.bool (decide (0<=vm g.1 g.2.1))) []
theorem F158_eq (g:prodL L158) (K X:Kn):F158 g K=qJ D (qQ [] [(207,true,KK)]) (qw []) H158 J158 9 [.tmp 4] (qz Tryz.f158) (argsT S158 L158 g) [] (settle0 K) X:=by kernel_rfl
theorem F158_ok (g:prodL L158) (K X:Kn) (h:F158 g K):FCalls Tryz.prog 158 (argsT S158 L158 g) [] K X:=
 FCalls.settle0 (qq (Γ:=qQ [] [(207,true,KK)]) (mu:=qw []) (H:=H158) (J:=J158) qh (qX (rs:=[]) (l:=[(207,true,KK)]) (fun p hp=>by cases hp) (by intro p hp;simp only [List.mem_cons,List.not_mem_nil,or_false] at hp;subst hp;exact sp207_ok)) qx rfl Tryz.func158 (c:=qz Tryz.f158) rfl Tryz.ntmps158 Tryz.results158 (by unfold qk;rw [Tryz.func158];kernel_rfl) (Nat.le_of_ble_eq_true (by kernel_rfl)) (c0:=0) (Eq.mp (F158_eq g K X) h))
def K5:Sp:=⟨S158,L158,fun g=>spL g.1.length,fun g=> .bool (decide (0<=vm g.1 g.2.1)),fun _=>none⟩
theorem sp158_ok:K5.Ok Tryz.prog 158 true:=
 ⟨fun g K X hp h=>F158_ok g K X (by
  have h:K (.bool (decide (0<=vm g.1 g.2.1))) []:=h
  exact ⟨hp,h⟩),fun _ _ _=>rfl,fun _=>rfl,by first | exact fun _ _=>⟨rfl,rfl⟩ | (intro h;cases h)⟩
def H157:List (Nat×Hint):=[]
def J157:List (Nat×Hint):=[]
abbrev S157:List Sh:=[.leaf, .leaf]
abbrev L157:List Lf:=[.sl .i64, .pr .i64]
def F157 (g:prodL L157) (K:Kn):Prop:=
 K5.pre (g.1,g.2.1,())/\
 K (.bool (decide (0<=vm g.1 g.2.1))) []
theorem F157_eq (g:prodL L157) (K X:Kn):F157 g K=qJ D (qQ [] [(158,true,K5)]) (qw []) H157 J157 7 [.tmp 3] (qz Tryz.f157) (argsT S157 L157 g) [] (settle0 K) X:=by kernel_rfl
theorem F157_ok (g:prodL L157) (K X:Kn) (h:F157 g K):FCalls Tryz.prog 157 (argsT S157 L157 g) [] K X:=
 FCalls.settle0 (qq (Γ:=qQ [] [(158,true,K5)]) (mu:=qw []) (H:=H157) (J:=J157) qh (qX (rs:=[]) (l:=[(158,true,K5)]) (fun p hp=>by cases hp) (by intro p hp;simp only [List.mem_cons,List.not_mem_nil,or_false] at hp;subst hp;exact sp158_ok)) qx rfl Tryz.func157 (c:=qz Tryz.f157) rfl Tryz.ntmps157 Tryz.results157 (by unfold qk;rw [Tryz.func157];kernel_rfl) (Nat.le_of_ble_eq_true (by kernel_rfl)) (c0:=0) (Eq.mp (F157_eq g K X) h))
def qK:Sp:=⟨S157,L157,fun g=>spL g.1.length,fun g=> .bool (decide (0<=vm g.1 g.2.1)),fun _=>none⟩
theorem xE:qK.Ok Tryz.prog 157 true:=
 ⟨fun g K X hp h=>F157_ok g K X (by
  have h:K (.bool (decide (0<=vm g.1 g.2.1))) []:=h
  exact ⟨hp,h⟩),fun _ _ _=>rfl,fun _=>rfl,by first | exact fun _ _=>⟨rfl,rfl⟩ | (intro h;cases h)⟩
set_option maxRecDepth 100000
def H116k1:List (Nat×Hint):=[]
def J116k1:List (Nat×Hint):=[]
abbrev S116k1:List Sh:=[.leaf]
abbrev ym:List Lf:=[.el .chg]
def kv116k1 (g:prodL ym):prodL ym:=(⟨1,g.1.file,g.1.typ,g.1.parent,g.1.name,g.1.mode,g.1.data,g.1.after,g.1.before,g.1.lines,g.1.over⟩,g.2)
def YY (g:prodL ym) (K:Kn):Prop:=
 qK.pre ([1],1,())/\
 qK.pre ([2,3,4,5,6],1,())/\
 bif zy g.1.file iz then (
  qK.pre ([2],1,())/\
  bif zy g.1.parent iz then (
   bif decide (g.1.name=(⟨#[]⟩:ByteArray))then (
    qK.pre ([3],1,())/\
    bif decide (g.1.mode=0)then (
     qK.pre ([4],1,())/\
     bif decide (g.1.data=(⟨#[]⟩:ByteArray))then (
      qK.pre ([5,6],1,())/\
      bif zy g.1.after iz then (
       bif zy g.1.before iz then (
        qK.pre ([5],1,())/\
        bif decide ((g.1.lines.length:Int)=0)then (
         qK.pre ([2,3,4,6,7],1,())/\
         K (.bool (decide ((g.1.over.length:Int)=0))) [])
        else (
         K (.bool false) []))
       else (
        K (.bool false) []))
      else (
       K (.bool false) []))
     else (
      K (.bool false) []))
    else (
     K (.bool false) []))
   else (
    K (.bool false) []))
  else (
   K (.bool false) []))
 else (
  K (.bool false) [])
theorem F116k1_eq (g:prodL ym) (K X:Kn):YY g K=qJ D (qQ [] [(157,true,qK)]) (qw []) H116k1 J116k1 104 [.tmp 2] (qz Tryz.f116) (argsT S116k1 ym (kv116k1 g)) [] (settle0 K) X:=by kernel_rfl
theorem F116k1_ok (g:prodL ym) (K X:Kn) (h:YY g K):FCalls Tryz.prog 116 (argsT S116k1 ym (kv116k1 g)) [] K X:=
 FCalls.settle0 (qq (Γ:=qQ [] [(157,true,qK)]) (mu:=qw []) (H:=H116k1) (J:=J116k1) qh (qX (rs:=[]) (l:=[(157,true,qK)]) (fun p hp=>by cases hp) (by intro p hp;simp only [List.mem_cons,List.not_mem_nil,or_false] at hp;subst hp;exact xE)) qx rfl Tryz.func116 (c:=qz Tryz.f116) rfl Tryz.ntmps116 Tryz.results116 (by unfold qk;rw [Tryz.func116];kernel_rfl) (Nat.le_of_ble_eq_true (by kernel_rfl)) (c0:=0) (Eq.mp (F116k1_eq g K X) h))
def H116k2:List (Nat×Hint):=[]
def J116k2:List (Nat×Hint):=[]
abbrev S116k2:List Sh:=[.leaf]
abbrev kv:List Lf:=[.el .chg]
def kv116k2 (g:prodL kv):prodL kv:=(⟨2,g.1.file,g.1.typ,g.1.parent,g.1.name,g.1.mode,g.1.data,g.1.after,g.1.before,g.1.lines,g.1.over⟩,g.2)
def WL (g:prodL kv) (K:Kn):Prop:=
 qK.pre ([1],2,())/\
 bif decide (g.1.typ=0)then (
  qK.pre ([2,3,4,5,6],2,())/\
  qK.pre ([2],2,())/\
  qK.pre ([3],2,())/\
  bif decide (g.1.mode=0)then (
   qK.pre ([4],2,())/\
   bif decide (g.1.data=(⟨#[]⟩:ByteArray))then (
    qK.pre ([5,6],2,())/\
    bif zy g.1.after iz then (
     bif zy g.1.before iz then (
      qK.pre ([5],2,())/\
      bif decide ((g.1.lines.length:Int)=0)then (
       qK.pre ([2,3,4,6,7],2,())/\
       K (.bool true) [])
      else (
       K (.bool false) []))
     else (
      K (.bool false) []))
    else (
     K (.bool false) []))
   else (
    K (.bool false) []))
  else (
   K (.bool false) []))
 else (
  K (.bool false) [])
theorem F116k2_eq (g:prodL kv) (K X:Kn):WL g K=qJ D (qQ [] [(157,true,qK)]) (qw []) H116k2 J116k2 104 [.tmp 2] (qz Tryz.f116) (argsT S116k2 kv (kv116k2 g)) [] (settle0 K) X:=by kernel_rfl
theorem F116k2_ok (g:prodL kv) (K X:Kn) (h:WL g K):FCalls Tryz.prog 116 (argsT S116k2 kv (kv116k2 g)) [] K X:=
 FCalls.settle0 (qq (Γ:=qQ [] [(157,true,qK)]) (mu:=qw []) (H:=H116k2) (J:=J116k2) qh (qX (rs:=[]) (l:=[(157,true,qK)]) (fun p hp=>by cases hp) (by intro p hp;simp only [List.mem_cons,List.not_mem_nil,or_false] at hp;subst hp;exact xE)) qx rfl Tryz.func116 (c:=qz Tryz.f116) rfl Tryz.ntmps116 Tryz.results116 (by unfold qk;rw [Tryz.func116];kernel_rfl) (Nat.le_of_ble_eq_true (by kernel_rfl)) (c0:=0) (Eq.mp (F116k2_eq g K X) h))
def H116k3:List (Nat×Hint):=[]
def J116k3:List (Nat×Hint):=[]
abbrev S116k3:List Sh:=[.leaf]
abbrev kZ:List Lf:=[.el .chg]
def kv116k3 (g:prodL kZ):prodL kZ:=(⟨3,g.1.file,g.1.typ,g.1.parent,g.1.name,g.1.mode,g.1.data,g.1.after,g.1.before,g.1.lines,g.1.over⟩,g.2)
def WY (g:prodL kZ) (K:Kn):Prop:=
 qK.pre ([1],3,())/\
 bif decide (g.1.typ=0)then (
  qK.pre ([2,3,4,5,6],3,())/\
  qK.pre ([2],3,())/\
  bif zy g.1.parent iz then (
   bif decide (g.1.name=(⟨#[]⟩:ByteArray))then (
    qK.pre ([3],3,())/\
    qK.pre ([4],3,())/\
    bif decide (g.1.data=(⟨#[]⟩:ByteArray))then (
     qK.pre ([5,6],3,())/\
     bif zy g.1.after iz then (
      bif zy g.1.before iz then (
       qK.pre ([5],3,())/\
       bif decide ((g.1.lines.length:Int)=0)then (
        qK.pre ([2,3,4,6,7],3,())/\
        K (.bool true) [])
       else (
        K (.bool false) []))
      else (
       K (.bool false) []))
     else (
      K (.bool false) []))
    else (
     K (.bool false) []))
   else (
    K (.bool false) []))
  else (
   K (.bool false) []))
 else (
  K (.bool false) [])
theorem F116k3_eq (g:prodL kZ) (K X:Kn):WY g K=qJ D (qQ [] [(157,true,qK)]) (qw []) H116k3 J116k3 104 [.tmp 2] (qz Tryz.f116) (argsT S116k3 kZ (kv116k3 g)) [] (settle0 K) X:=by kernel_rfl
theorem F116k3_ok (g:prodL kZ) (K X:Kn) (h:WY g K):FCalls Tryz.prog 116 (argsT S116k3 kZ (kv116k3 g)) [] K X:=
 FCalls.settle0 (qq (Γ:=qQ [] [(157,true,qK)]) (mu:=qw []) (H:=H116k3) (J:=J116k3) qh (qX (rs:=[]) (l:=[(157,true,qK)]) (fun p hp=>by cases hp) (by intro p hp;simp only [List.mem_cons,List.not_mem_nil,or_false] at hp;subst hp;exact xE)) qx rfl Tryz.func116 (c:=qz Tryz.f116) rfl Tryz.ntmps116 Tryz.results116 (by unfold qk;rw [Tryz.func116];kernel_rfl) (Nat.le_of_ble_eq_true (by kernel_rfl)) (c0:=0) (Eq.mp (F116k3_eq g K X) h))
def H116k4:List (Nat×Hint):=[]
def J116k4:List (Nat×Hint):=[]
abbrev S116k4:List Sh:=[.leaf]
abbrev kg:List Lf:=[.el .chg]
def kv116k4 (g:prodL kg):prodL kg:=(⟨4,g.1.file,g.1.typ,g.1.parent,g.1.name,g.1.mode,g.1.data,g.1.after,g.1.before,g.1.lines,g.1.over⟩,g.2)
def WW (g:prodL kg) (K:Kn):Prop:=
 qK.pre ([1],4,())/\
 bif decide (g.1.typ=0)then (
  qK.pre ([2,3,4,5,6],4,())/\
  qK.pre ([2],4,())/\
  bif zy g.1.parent iz then (
   bif decide (g.1.name=(⟨#[]⟩:ByteArray))then (
    qK.pre ([3],4,())/\
    bif decide (g.1.mode=0)then (
     qK.pre ([4],4,())/\
     qK.pre ([5,6],4,())/\
     bif zy g.1.after iz then (
      bif zy g.1.before iz then (
       qK.pre ([5],4,())/\
       bif decide ((g.1.lines.length:Int)=0)then (
        qK.pre ([2,3,4,6,7],4,())/\
        K (.bool true) [])
       else (
        K (.bool false) []))
      else (
       K (.bool false) []))
     else (
      K (.bool false) []))
    else (
     K (.bool false) []))
   else (
    K (.bool false) []))
  else (
   K (.bool false) []))
 else (
  K (.bool false) [])
theorem F116k4_eq (g:prodL kg) (K X:Kn):WW g K=qJ D (qQ [] [(157,true,qK)]) (qw []) H116k4 J116k4 104 [.tmp 2] (qz Tryz.f116) (argsT S116k4 kg (kv116k4 g)) [] (settle0 K) X:=by kernel_rfl
theorem F116k4_ok (g:prodL kg) (K X:Kn) (h:WW g K):FCalls Tryz.prog 116 (argsT S116k4 kg (kv116k4 g)) [] K X:=
 FCalls.settle0 (qq (Γ:=qQ [] [(157,true,qK)]) (mu:=qw []) (H:=H116k4) (J:=J116k4) qh (qX (rs:=[]) (l:=[(157,true,qK)]) (fun p hp=>by cases hp) (by intro p hp;simp only [List.mem_cons,List.not_mem_nil,or_false] at hp;subst hp;exact xE)) qx rfl Tryz.func116 (c:=qz Tryz.f116) rfl Tryz.ntmps116 Tryz.results116 (by unfold qk;rw [Tryz.func116];kernel_rfl) (Nat.le_of_ble_eq_true (by kernel_rfl)) (c0:=0) (Eq.mp (F116k4_eq g K X) h))
def H116k5:List (Nat×Hint):=[]
def J116k5:List (Nat×Hint):=[]
abbrev S116k5:List Sh:=[.leaf]
abbrev kC:List Lf:=[.el .chg]
def kv116k5 (g:prodL kC):prodL kC:=(⟨5,g.1.file,g.1.typ,g.1.parent,g.1.name,g.1.mode,g.1.data,g.1.after,g.1.before,g.1.lines,g.1.over⟩,g.2)
def Wr (g:prodL kC) (K:Kn):Prop:=
 qK.pre ([1],5,())/\
 bif decide (g.1.typ=0)then (
  qK.pre ([2,3,4,5,6],5,())/\
  qK.pre ([2],5,())/\
  bif zy g.1.parent iz then (
   bif decide (g.1.name=(⟨#[]⟩:ByteArray))then (
    qK.pre ([3],5,())/\
    bif decide (g.1.mode=0)then (
     qK.pre ([4],5,())/\
     bif decide (g.1.data=(⟨#[]⟩:ByteArray))then (
      qK.pre ([5,6],5,())/\
      qK.pre ([5],5,())/\
      qK.pre ([2,3,4,6,7],5,())/\
      K (.bool (decide ((g.1.over.length:Int)=0))) [])
     else (
      K (.bool false) []))
    else (
     K (.bool false) []))
   else (
    K (.bool false) []))
  else (
   K (.bool false) []))
 else (
  K (.bool false) [])
theorem F116k5_eq (g:prodL kC) (K X:Kn):Wr g K=qJ D (qQ [] [(157,true,qK)]) (qw []) H116k5 J116k5 104 [.tmp 2] (qz Tryz.f116) (argsT S116k5 kC (kv116k5 g)) [] (settle0 K) X:=by kernel_rfl
theorem F116k5_ok (g:prodL kC) (K X:Kn) (h:Wr g K):FCalls Tryz.prog 116 (argsT S116k5 kC (kv116k5 g)) [] K X:=
 FCalls.settle0 (qq (Γ:=qQ [] [(157,true,qK)]) (mu:=qw []) (H:=H116k5) (J:=J116k5) qh (qX (rs:=[]) (l:=[(157,true,qK)]) (fun p hp=>by cases hp) (by intro p hp;simp only [List.mem_cons,List.not_mem_nil,or_false] at hp;subst hp;exact xE)) qx rfl Tryz.func116 (c:=qz Tryz.f116) rfl Tryz.ntmps116 Tryz.results116 (by unfold qk;rw [Tryz.func116];kernel_rfl) (Nat.le_of_ble_eq_true (by kernel_rfl)) (c0:=0) (Eq.mp (F116k5_eq g K X) h))
def H116k6:List (Nat×Hint):=[]
def J116k6:List (Nat×Hint):=[]
abbrev S116k6:List Sh:=[.leaf]
abbrev kx:List Lf:=[.el .chg]
def kv116k6 (g:prodL kx):prodL kx:=(⟨6,g.1.file,g.1.typ,g.1.parent,g.1.name,g.1.mode,g.1.data,g.1.after,g.1.before,g.1.lines,g.1.over⟩,g.2)
def Yj (g:prodL kx) (K:Kn):Prop:=
 qK.pre ([1],6,())/\
 bif decide (g.1.typ=0)then (
  qK.pre ([2,3,4,5,6],6,())/\
  qK.pre ([2],6,())/\
  bif zy g.1.parent iz then (
   bif decide (g.1.name=(⟨#[]⟩:ByteArray))then (
    qK.pre ([3],6,())/\
    bif decide (g.1.mode=0)then (
     qK.pre ([4],6,())/\
     bif decide (g.1.data=(⟨#[]⟩:ByteArray))then (
      qK.pre ([5,6],6,())/\
      qK.pre ([5],6,())/\
      bif decide ((g.1.lines.length:Int)=0)then (
       qK.pre ([2,3,4,6,7],6,())/\
       K (.bool true) [])
      else (
       K (.bool false) []))
     else (
      K (.bool false) []))
    else (
     K (.bool false) []))
   else (
    K (.bool false) []))
  else (
   K (.bool false) []))
 else (
  K (.bool false) [])
theorem F116k6_eq (g:prodL kx) (K X:Kn):Yj g K=qJ D (qQ [] [(157,true,qK)]) (qw []) H116k6 J116k6 104 [.tmp 2] (qz Tryz.f116) (argsT S116k6 kx (kv116k6 g)) [] (settle0 K) X:=by kernel_rfl
theorem F116k6_ok (g:prodL kx) (K X:Kn) (h:Yj g K):FCalls Tryz.prog 116 (argsT S116k6 kx (kv116k6 g)) [] K X:=
 FCalls.settle0 (qq (Γ:=qQ [] [(157,true,qK)]) (mu:=qw []) (H:=H116k6) (J:=J116k6) qh (qX (rs:=[]) (l:=[(157,true,qK)]) (fun p hp=>by cases hp) (by intro p hp;simp only [List.mem_cons,List.not_mem_nil,or_false] at hp;subst hp;exact xE)) qx rfl Tryz.func116 (c:=qz Tryz.f116) rfl Tryz.ntmps116 Tryz.results116 (by unfold qk;rw [Tryz.func116];kernel_rfl) (Nat.le_of_ble_eq_true (by kernel_rfl)) (c0:=0) (Eq.mp (F116k6_eq g K X) h))
def H116k7:List (Nat×Hint):=[]
def J116k7:List (Nat×Hint):=[]
abbrev S116k7:List Sh:=[.leaf]
abbrev ke:List Lf:=[.el .chg]
def kv116k7 (g:prodL ke):prodL ke:=(⟨7,g.1.file,g.1.typ,g.1.parent,g.1.name,g.1.mode,g.1.data,g.1.after,g.1.before,g.1.lines,g.1.over⟩,g.2)
def Wc (g:prodL ke) (K:Kn):Prop:=
 qK.pre ([1],7,())/\
 bif decide (g.1.typ=0)then (
  qK.pre ([2,3,4,5,6],7,())/\
  bif zy g.1.file iz then (
   qK.pre ([2],7,())/\
   bif zy g.1.parent iz then (
    bif decide (g.1.name=(⟨#[]⟩:ByteArray))then (
     qK.pre ([3],7,())/\
     bif decide (g.1.mode=0)then (
      qK.pre ([4],7,())/\
      bif decide (g.1.data=(⟨#[]⟩:ByteArray))then (
       qK.pre ([5,6],7,())/\
       bif zy g.1.after iz then (
        bif zy g.1.before iz then (
         qK.pre ([5],7,())/\
         bif decide ((g.1.lines.length:Int)=0)then (
          qK.pre ([2,3,4,6,7],7,())/\
          K (.bool true) [])
         else (
          K (.bool false) []))
        else (
         K (.bool false) []))
       else (
        K (.bool false) []))
      else (
       K (.bool false) []))
     else (
      K (.bool false) []))
    else (
     K (.bool false) []))
   else (
    K (.bool false) []))
  else (
   K (.bool false) []))
 else (
  K (.bool false) [])
theorem F116k7_eq (g:prodL ke) (K X:Kn):Wc g K=qJ D (qQ [] [(157,true,qK)]) (qw []) H116k7 J116k7 104 [.tmp 2] (qz Tryz.f116) (argsT S116k7 ke (kv116k7 g)) [] (settle0 K) X:=by kernel_rfl
theorem F116k7_ok (g:prodL ke) (K X:Kn) (h:Wc g K):FCalls Tryz.prog 116 (argsT S116k7 ke (kv116k7 g)) [] K X:=
 FCalls.settle0 (qq (Γ:=qQ [] [(157,true,qK)]) (mu:=qw []) (H:=H116k7) (J:=J116k7) qh (qX (rs:=[]) (l:=[(157,true,qK)]) (fun p hp=>by cases hp) (by intro p hp;simp only [List.mem_cons,List.not_mem_nil,or_false] at hp;subst hp;exact xE)) qx rfl Tryz.func116 (c:=qz Tryz.f116) rfl Tryz.ntmps116 Tryz.results116 (by unfold qk;rw [Tryz.func116];kernel_rfl) (Nat.le_of_ble_eq_true (by kernel_rfl)) (c0:=0) (Eq.mp (F116k7_eq g K X) h))
end Go.Proofs.YtbglndogddddoaaGreatDoor
namespace Go.Proofs.YtbglndogddddoaaGreatDoor
open Go.RowKit
abbrev KI (K:Kn):Int->Prop:=fun v=>K (.int .i64 v) []
abbrev KBo (K:Kn):Bool->Prop:=fun v=>K (.bool v) []
theorem ZW {α β:Type} {J:β->Prop} {f:β->α} {K:α->Prop} (hJ: ∀t,K (f t)->J t) {c:Bool} {a b:β} (h:K (f (bif c then a else b))):bif c then J a else J b:=by
 cases c
 . exact hJ _ h
 . exact hJ _ h
def rC9 (c:Chg):Chg:=bif decide (c.kind=1)then ⟨c.kind,c.file,0,c.parent,c.name,c.mode,c.data,c.after,c.before,c.lines,c.over⟩
 else bif decide (c.kind=2)then ⟨c.kind,c.file,c.typ,iz,⟨#[]⟩,c.mode,c.data,c.after,c.before,c.lines,c.over⟩
 else bif decide (c.kind=3)then ⟨c.kind,c.file,c.typ,c.parent,c.name,0,c.data,c.after,c.before,c.lines,c.over⟩
 else bif decide (c.kind=4)then ⟨c.kind,c.file,c.typ,c.parent,c.name,c.mode,⟨#[]⟩,c.after,c.before,c.lines,c.over⟩
 else bif decide (c.kind=5)then ⟨c.kind,c.file,c.typ,c.parent,c.name,c.mode,c.data,iz,iz,[],c.over⟩
 else bif decide (c.kind=6)then ⟨c.kind,c.file,c.typ,c.parent,c.name,c.mode,c.data,iz,iz,c.lines,c.over⟩else c
def rC5 (t:Bool) (c:Chg):Chg:=bif t then rC9 ⟨c.kind,c.file,c.typ,c.parent,c.name,c.mode,c.data,c.after,c.before,c.lines,[]⟩else rC9 c
def rC10 (c:Chg):Chg:=rC5 (bif !decide (c.kind=1)then !decide (c.kind=5)else false) c
def rC2 (t:Bool) (c:Chg):Chg:=bif t then rC10 ⟨c.kind,iz,c.typ,c.parent,c.name,c.mode,c.data,c.after,c.before,c.lines,c.over⟩else rC10 c
def ZF (c:Chg):Chg:=rC2 (bif decide (2<=c.kind)then decide (c.kind<=6)else false) c
def yw (c:Chg):Bool:=bif decide (c.typ=0)then (bif zy c.file iz then (bif zy c.parent iz then (bif decide (c.name=(⟨#[]⟩:ByteArray))then (bif decide (c.mode=0)then (bif decide (c.data=(⟨#[]⟩:ByteArray))then
 (bif zy c.after iz then (bif zy c.before iz then (bif decide ((c.lines.length:Int)=0)then decide ((c.over.length:Int)=0)else false)else false)else false)else false)else false)else false)else false)else false)else false
def xQ (c:Chg):Bool:=yw (ZF c)
def jJ (c:Chg):Prop:=1<=c.kind/\c.kind<=7
theorem Xr:zy iz iz=true:=by rw [yF];exact decide_eq_true rfl
theorem F116k1_is {file:Idn} {typ:Int} {parent:Idn} {name:ByteArray} {mode:Int} {data:ByteArray} {after before:Idn} {lines:List ByteArray} {over:List Idn} {K:Kn} (h:K (.bool (xQ ⟨1,file,typ,parent,name,mode,data,after,before,lines,over⟩)) []):YY (⟨1,file,typ,parent,name,mode,data,after,before,lines,over⟩,()) K:=by
 revert h
 unfold YY xQ
 rw [show ZF ⟨1,file,typ,parent,name,mode,data,after,before,lines,over⟩=⟨1,file,0,parent,name,mode,data,after,before,lines,over⟩ from rfl]
 unfold yw
 simp only [Xr,decide_true,List.length_nil,Int.natCast_zero,Int.ofNat_zero,cond_true,cond_false]
 repeat' (first | exact id | (intro h;refine ⟨Nat.le_of_ble_eq_true rfl, ?_⟩;revert h) | refine ju (K:=KBo K) ?_ ?_)
theorem F116k2_is {file:Idn} {typ:Int} {parent:Idn} {name:ByteArray} {mode:Int} {data:ByteArray} {after before:Idn} {lines:List ByteArray} {over:List Idn} {K:Kn} (h:K (.bool (xQ ⟨2,file,typ,parent,name,mode,data,after,before,lines,over⟩)) []):WL (⟨2,file,typ,parent,name,mode,data,after,before,lines,over⟩,()) K:=by
 revert h
 unfold WL xQ
 rw [show ZF ⟨2,file,typ,parent,name,mode,data,after,before,lines,over⟩=⟨2,iz,typ,iz,⟨#[]⟩,mode,data,after,before,lines,[]⟩ from rfl]
 unfold yw
 simp only [Xr,decide_true,List.length_nil,Int.natCast_zero,Int.ofNat_zero,cond_true,cond_false]
 repeat' (first | exact id | (intro h;refine ⟨Nat.le_of_ble_eq_true rfl, ?_⟩;revert h) | refine ju (K:=KBo K) ?_ ?_)
theorem F116k3_is {file:Idn} {typ:Int} {parent:Idn} {name:ByteArray} {mode:Int} {data:ByteArray} {after before:Idn} {lines:List ByteArray} {over:List Idn} {K:Kn} (h:K (.bool (xQ ⟨3,file,typ,parent,name,mode,data,after,before,lines,over⟩)) []):WY (⟨3,file,typ,parent,name,mode,data,after,before,lines,over⟩,()) K:=by
 revert h
 unfold WY xQ
 rw [show ZF ⟨3,file,typ,parent,name,mode,data,after,before,lines,over⟩=⟨3,iz,typ,parent,name,0,data,after,before,lines,[]⟩ from rfl]
 unfold yw
 simp only [Xr,decide_true,List.length_nil,Int.natCast_zero,Int.ofNat_zero,cond_true,cond_false]
 repeat' (first | exact id | (intro h;refine ⟨Nat.le_of_ble_eq_true rfl, ?_⟩;revert h) | refine ju (K:=KBo K) ?_ ?_)
theorem F116k4_is {file:Idn} {typ:Int} {parent:Idn} {name:ByteArray} {mode:Int} {data:ByteArray} {after before:Idn} {lines:List ByteArray} {over:List Idn} {K:Kn} (h:K (.bool (xQ ⟨4,file,typ,parent,name,mode,data,after,before,lines,over⟩)) []):WW (⟨4,file,typ,parent,name,mode,data,after,before,lines,over⟩,()) K:=by
 revert h
 unfold WW xQ
 rw [show ZF ⟨4,file,typ,parent,name,mode,data,after,before,lines,over⟩=⟨4,iz,typ,parent,name,mode,⟨#[]⟩,after,before,lines,[]⟩ from rfl]
 unfold yw
 simp only [Xr,decide_true,List.length_nil,Int.natCast_zero,Int.ofNat_zero,cond_true,cond_false]
 repeat' (first | exact id | (intro h;refine ⟨Nat.le_of_ble_eq_true rfl, ?_⟩;revert h) | refine ju (K:=KBo K) ?_ ?_)
theorem F116k5_is {file:Idn} {typ:Int} {parent:Idn} {name:ByteArray} {mode:Int} {data:ByteArray} {after before:Idn} {lines:List ByteArray} {over:List Idn} {K:Kn} (h:K (.bool (xQ ⟨5,file,typ,parent,name,mode,data,after,before,lines,over⟩)) []):Wr (⟨5,file,typ,parent,name,mode,data,after,before,lines,over⟩,()) K:=by
 revert h
 unfold Wr xQ
 rw [show ZF ⟨5,file,typ,parent,name,mode,data,after,before,lines,over⟩=⟨5,iz,typ,parent,name,mode,data,iz,iz,[],over⟩ from rfl]
 unfold yw
 simp only [Xr,decide_true,List.length_nil,Int.natCast_zero,Int.ofNat_zero,cond_true,cond_false]
 repeat' (first | exact id | (intro h;refine ⟨Nat.le_of_ble_eq_true rfl, ?_⟩;revert h) | refine ju (K:=KBo K) ?_ ?_)
theorem F116k6_is {file:Idn} {typ:Int} {parent:Idn} {name:ByteArray} {mode:Int} {data:ByteArray} {after before:Idn} {lines:List ByteArray} {over:List Idn} {K:Kn} (h:K (.bool (xQ ⟨6,file,typ,parent,name,mode,data,after,before,lines,over⟩)) []):Yj (⟨6,file,typ,parent,name,mode,data,after,before,lines,over⟩,()) K:=by
 revert h
 unfold Yj xQ
 rw [show ZF ⟨6,file,typ,parent,name,mode,data,after,before,lines,over⟩=⟨6,iz,typ,parent,name,mode,data,iz,iz,lines,[]⟩ from rfl]
 unfold yw
 simp only [Xr,decide_true,List.length_nil,Int.natCast_zero,Int.ofNat_zero,cond_true,cond_false]
 repeat' (first | exact id | (intro h;refine ⟨Nat.le_of_ble_eq_true rfl, ?_⟩;revert h) | refine ju (K:=KBo K) ?_ ?_)
theorem F116k7_is {file:Idn} {typ:Int} {parent:Idn} {name:ByteArray} {mode:Int} {data:ByteArray} {after before:Idn} {lines:List ByteArray} {over:List Idn} {K:Kn} (h:K (.bool (xQ ⟨7,file,typ,parent,name,mode,data,after,before,lines,over⟩)) []):Wc (⟨7,file,typ,parent,name,mode,data,after,before,lines,over⟩,()) K:=by
 revert h
 unfold Wc xQ
 rw [show ZF ⟨7,file,typ,parent,name,mode,data,after,before,lines,over⟩=⟨7,file,typ,parent,name,mode,data,after,before,lines,[]⟩ from rfl]
 unfold yw
 simp only [Xr,decide_true,List.length_nil,Int.natCast_zero,Int.ofNat_zero,cond_true,cond_false]
 repeat' (first | exact id | (intro h;refine ⟨Nat.le_of_ble_eq_true rfl, ?_⟩;revert h) | refine ju (K:=KBo K) ?_ ?_)
def sp116:Sp:=⟨S116k1,ym,fun g=>jJ g.1,fun g=> .bool (xQ g.1),fun _=>none⟩
set_option maxRecDepth 100000 in
theorem sp116_ok:sp116.Ok Tryz.prog 116 true:=
 ⟨fun g K X hp h=>by
  obtain ⟨⟨kind,file,typ,parent,name,mode,data,after,before,lines,over⟩,⟨⟩⟩:=g
  have hk1:(1:Int)<=kind/\kind<=7:=hp
  have:kind=1∨kind=2∨kind=3∨kind=4∨kind=5∨kind=6∨kind=7:=by omega
  rcases this with rfl | rfl | rfl | rfl | rfl | rfl | rfl
  . exact F116k1_ok (⟨1,file,typ,parent,name,mode,data,after,before,lines,over⟩,()) K X (F116k1_is h)
  . exact F116k2_ok (⟨2,file,typ,parent,name,mode,data,after,before,lines,over⟩,()) K X (F116k2_is h)
  . exact F116k3_ok (⟨3,file,typ,parent,name,mode,data,after,before,lines,over⟩,()) K X (F116k3_is h)
  . exact F116k4_ok (⟨4,file,typ,parent,name,mode,data,after,before,lines,over⟩,()) K X (F116k4_is h)
  . exact F116k5_ok (⟨5,file,typ,parent,name,mode,data,after,before,lines,over⟩,()) K X (F116k5_is h)
  . exact F116k6_ok (⟨6,file,typ,parent,name,mode,data,after,before,lines,over⟩,()) K X (F116k6_is h)
  . exact F116k7_ok (⟨7,file,typ,parent,name,mode,data,after,before,lines,over⟩,()) K X (F116k7_is h)
  ,fun _ _ _=>rfl,fun _=>rfl,fun _ _=>⟨rfl,rfl⟩⟩
def az:Atm:=⟨iz,0,iz,0,iz,⟨#[]⟩,0,⟨#[]⟩,⟨#[]⟩,iz,iz,[]⟩
def errs:List Int->Int
 | []=>0
 | e::l=>bif decide (e=0)then errs l else e
theorem qZ.errs {γ:Type} {body:(γ->Prop)->γ->Prop} {g:γ} (l:List Int) (S:Nat->γ) (Q:Int->Prop) (hQ:Q (errs l)) (hg:g=S 0)
  (step: ∀(W:γ->Prop) (n:Nat) (h:n<l.length),(l[n]=0->W (S (n+1)))->(l[n]≠0->Q l[n])->body W (S n)) (last:Q 0-> ∀W:γ->Prop,body W (S l.length)):qZ body g:=by
 refine qZ.countTo l.length S (fun n=>Q (Go.Proofs.YtbglndogddddoaaGreatDoor.errs (l.drop n))) hg (fun n hn hp W hW=> ?_) (by simpa using hQ)
 by_cases hlt:n<l.length
 . rw [List.drop_eq_getElem_cons hlt,Go.Proofs.YtbglndogddddoaaGreatDoor.errs] at hp
   refine step W n hlt (fun h=> ?_) fun h=> ?_
   . rw [decide_eq_true h,cond_true] at hp
     exact hW hlt hp
   . rw [decide_eq_false h,cond_false] at hp
     exact hp
 . have:n=l.length:=by omega
   subst this
   rw [List.drop_length] at hp
   exact last hp W
def errsN (N:Nat) (f:Nat->Int):Int:=errs ((List.range N).map f)
theorem qZ.errsN {γ:Type} {body:(γ->Prop)->γ->Prop} {g:γ} (N:Nat) (f:Nat->Int) (S:Nat->γ) (Q:Int->Prop) (hQ:Q (errsN N f)) (hg:g=S 0)
  (step: ∀(W:γ->Prop) (n:Nat),n<N->(f n=0->W (S (n+1)))->(f n≠0->Q (f n))->body W (S n)) (last:Q 0-> ∀W:γ->Prop,body W (S N)):qZ body g:=by
 have hl:((List.range N).map f).length=N:=by simp
 refine qZ.errs ((List.range N).map f) S Q hQ hg (fun W n h h1 h2=> ?_) (by rw [hl];exact last)
 simp only [List.getElem_map,List.getElem_range] at h1 h2
 exact step W n (by omega) h1 h2
def depE (cmp:Dig->Dig->Int) (ds:List Dig) (n:Nat):Int:=match ds[n]? with
 | none=>0
 | some d=>bif vd d dz then 1 else bif decide (0<n)then (match ds[n-1]? with
  | none=>0
  | some c=>bif decide (0<=cmp c d)then 9 else 0)else 0
def depsE (cmp:Dig->Dig->Int) (ds:List Dig):Int:=errsN ds.length (depE cmp ds)
def XO (cmp:Dig->Dig->Int) (ds:List Dig):Int:=bif decide (100< (ds.length:Int))then 4 else depsE cmp ds
def xG (cmp:Dig->Dig->Int) (a m:ByteArray) (t:Int) (ds:List Dig) (cs:List Chg):Int:=
 bif !(Qh a)then 5 else bif decide (1000< (m.size:Int))then 4 else bif (bif decide (t<0)then true else decide (1099511627776<t))then 2 else
 bif !decide (XO cmp ds=0)then XO cmp ds else bif decide ((cs.length:Int)=0)then 1 else bif decide (400< (cs.length:Int))then 4 else 0
def overE (cmp:Idn->Idn->Int) (l:List Idn) (n:Nat):Int:=match l[n]?,l[n+1]? with
 | some a,some b=>bif decide (0<=cmp a b)then 9 else 0
 | _,_=>0
def overEs (cmp:Idn->Idn->Int) (l:List Idn):Int:=errsN (l.length-1) (overE cmp l)
def lineE (l:List ByteArray) (n:Nat):Int:=match l[n]? with
 | some s=>bif !(ZI s)then 3 else 0
 | none=>0
def linesEs (l:List ByteArray):Int:=errsN l.length (lineE l)
def fP15 (t:Bool) (c:Chg):Int:=bif t then 1 else bif decide (400< (c.over.length:Int))then 4 else overEs idC c.over
def fP12 (c:Chg):Int:=bif !decide (linesEs c.lines=0)then linesEs c.lines else fP15 (bif decide (c.kind=7)then decide ((c.over.length:Int)=0)else false) c
def fP6 (t:Bool) (c:Chg):Int:=bif t then 1 else bif decide (2000< (c.lines.length:Int))then 4 else fP12 c
def fP7 (t:Bool) (c:Chg):Int:=bif t then 2 else bif decide (65536< (c.data.size:Int))then 4 else fP6 (bif decide (c.kind=5)then decide ((c.lines.length:Int)=0)else false) c
def fP8 (t:Bool) (c:Chg):Int:=bif t then 5 else fP7 (bif decide (c.mode<0)then true else decide (511<c.mode)) c
def fP9 (t:Bool) (c:Chg):Int:=bif t then 8 else fP8 (bif decide (c.kind=2)then !(Qh c.name)else false) c
def fP10 (t:Bool) (c:Chg):Int:=bif t then 8 else bif !(xQ c)then 1 else fP9 (bif decide (c.kind=1)then (bif decide (c.typ<1)then true else decide (4<c.typ))else false) c
def jH (c:Chg):Int:=fP10 (bif decide (c.kind<1)then true else decide (7<c.kind)) c
def ZS (c:Chg):Prop:=qf c<=4194304
theorem Qz {α:Type} (f:α->Nat): ∀{l:List α} {x:α},x∈l->f x<=(l.map f).sum
 | y::l,x,h=>by
  rw [List.map_cons,List.sum_cons]
  rcases List.mem_cons.1 h with rfl | h
  . omega
  . have:=Qz f h;omega
theorem vY {α:Type} (f:α->Nat) (k:Nat): ∀(l:List α),(∀x∈l,k<=f x)->k*l.length<=(l.map f).sum
 | [],_=>by simp
 | y::l,h=>by
  rw [List.map_cons,List.sum_cons,List.length_cons,Nat.mul_succ]
  have:=vY f k l fun x hx=>h x (List.mem_cons_of_mem _ hx)
  have:=h y (List.mem_cons_self ..)
  omega
theorem zF {c:Chg} (h:ZS c):c.name.size<=4194304/\c.data.size<=4194304/\c.lines.length<=4194304/\(∀s∈c.lines,s.size<=4194304)/\c.over.length<=4194304:=by
 unfold ZS qf at h
 have h1:=vY zt 1 c.lines fun x _=>by unfold zt;omega
 have h2:=vY wh 33 c.over fun x _=>Nat.le_refl _
 refine ⟨by omega,by omega,by omega,fun s hs=> ?_,by omega⟩
 have:=Qz zt hs
 have e:zt s=s.size+1:=rfl
 omega
end Go.Proofs.YtbglndogddddoaaGreatDoor
namespace Go.Proofs.YtbglndogddddoaaGreatDoor
open Go.RowKit
attribute [local irreducible] qJ qd
set_option maxRecDepth 100000
def H67:List (Nat×Hint):=[(10,⟨[((1,[]),none)],[(1, .pt 0 0),(31, .leaf),(32, .leaf),(33, .leaf)],[.cells [.leaf, .leaf, .leaf, .leaf, .leaf]],[.sl .dig, .int .i64, .int .i64, .str, .str, .int .i64, .sl .dig, .sl .chg]⟩)]
def J67:List (Nat×Hint):=[(6,⟨[((1,[]),none)],[(1, .pt 0 0),(16, .leaf)],[.cells [.leaf, .leaf, .leaf, .leaf, .leaf]],[.bool, .str, .str, .int .i64, .sl .dig, .sl .chg]⟩),(15,⟨[((1,[]),none)],[(1, .pt 0 0),(31, .leaf),(32, .leaf),(33, .leaf),(53, .leaf)],[.cells [.leaf, .leaf, .leaf, .leaf, .leaf]],[.sl .dig, .int .i64, .int .i64, .bool, .str, .str, .int .i64, .sl .dig, .sl .chg]⟩)]
abbrev S67:List Sh:=[.ag [.leaf, .leaf, .leaf, .leaf, .leaf]]
abbrev L67:List Lf:=[.str, .str, .int .i64, .sl .dig, .sl .chg]
def Xm (K:Kn) (W4:prodL [.sl .dig, .int .i64, .int .i64, .str, .str, .int .i64, .sl .dig, .sl .chg]->Prop) (t_7:List Dig) (t2_7 t3_7:Int) (t4_7:Bool) (p1_7 p2_7:ByteArray) (p3_7:Int) (p4_7:List Dig) (p5_7:List Chg):Prop:=
 bif t4_7 then (
  K (.int .i64 9) [])
 else (
  W4 (t_7,t2_7,IntKind.i64.wrap (t3_7+1),p1_7,p2_7,p3_7,p4_7,p5_7,()))
def JI (K:Kn) (W4:prodL [.sl .dig, .int .i64, .int .i64, .str, .str, .int .i64, .sl .dig, .sl .chg]->Prop) (t_3:List Dig) (t2_3 t3_3:Int) (p1_3 p2_3:ByteArray) (p3_3:Int) (p4_3:List Dig) (p5_3:List Chg):Prop:=
 bif decide (t3_3<t2_3)then (
  At t_3 t3_3 fun u5=>
 bif vd u5 dz then (
  K (.int .i64 1) [])
 else (
  bif decide (0<t3_3)then (
  At p4_3 (IntKind.i64.wrap (t3_3-1)) fun u6=>
  True/\
  Xm K W4 t_3 t2_3 t3_3 (decide (0<=zD u6 u5)) p1_3 p2_3 p3_3 p4_3 p5_3)
 else (
  Xm K W4 t_3 t2_3 t3_3 false p1_3 p2_3 p3_3 p4_3 p5_3)))
 else (
  bif decide ((p5_3.length:Int)=0)then (
  K (.int .i64 1) [])
 else (
  bif decide (400< (p5_3.length:Int))then (
   K (.int .i64 4) [])
  else (
   K (.int .i64 0) [])))
def F67_L4 (K:Kn) (g:prodL [.sl .dig, .int .i64, .int .i64, .str, .str, .int .i64, .sl .dig, .sl .chg]):Prop:=
 qZ (γ:=prodL [.sl .dig, .int .i64, .int .i64, .str, .str, .int .i64, .sl .dig, .sl .chg]) (fun V y=>JI K V y.1 y.2.1 y.2.2.1 y.2.2.2.1 y.2.2.2.2.1 y.2.2.2.2.2.1 y.2.2.2.2.2.2.1 y.2.2.2.2.2.2.2.1) g
def J3 (K:Kn) (t_1:Bool) (p1_1 p2_1:ByteArray) (p3_1:Int) (p4_1:List Dig) (p5_1:List Chg):Prop:=
 bif t_1 then (
    K (.int .i64 2) [])
   else (
    bif decide (100< (p4_1.length:Int))then (
     K (.int .i64 4) [])
    else (
     F67_L4 K (p4_1,(p4_1.length:Int),0,p1_1,p2_1,p3_1,p4_1,p5_1,())))
def F67 (g:prodL L67) (K:Kn):Prop:=
 Ke.pre (g.1,())/\
 bif !(Qh g.1)then (
  K (.int .i64 5) [])
 else (
  bif decide (1000< (g.2.1.size:Int))then (
   K (.int .i64 4) [])
  else (
   bif decide (g.2.2.1<0)then (
    J3 K true g.1 g.2.1 g.2.2.1 g.2.2.2.1 g.2.2.2.2.1)
   else (
    J3 K (decide (1099511627776<g.2.2.1)) g.1 g.2.1 g.2.2.1 g.2.2.2.1 g.2.2.2.2.1)))
theorem F67_eq (g:prodL L67) (K X:Kn):F67 g K=qJ D (qQ [] [(18,true,sp18),(115,true,Ke)]) (qw []) H67 J67 64 [.tmp 2] (qz Tryz.f67) (argsT S67 L67 g) [] (settle0 K) X:=by kernel_rfl
theorem F67_ok (g:prodL L67) (K X:Kn) (h:F67 g K):FCalls Tryz.prog 67 (argsT S67 L67 g) [] K X:=
 FCalls.settle0 (qq qh (wQ (vf sp18_ok (vf qqe wZ))) qx rfl Tryz.func67 (c:=qz Tryz.f67) rfl Tryz.ntmps67 Tryz.results67 (by unfold qk;rw [Tryz.func67];kernel_rfl) (Nat.le_of_ble_eq_true (by kernel_rfl)) (c0:=0) (Eq.mp (F67_eq g K X) h))
end Go.Proofs.YtbglndogddddoaaGreatDoor
namespace Go.Proofs.YtbglndogddddoaaGreatDoor
open Go.RowKit
set_option maxRecDepth 100000
theorem wrapP {n:Nat} (h:0<n/\n<=4294967296):IntKind.i64.wrap ((n:Int) - 1)=((n-1:Nat):Int):=by
 rw [w64 (by omega)];omega
theorem posI {n:Nat} (h:0<n):decide ((0:Int) < (n:Int))=true:=decide_eq_true (by omega)
theorem depE_at {cmp:Dig->Dig->Int} {l:List Dig} {n:Nat} (h:n<l.length):depE cmp l n=bif vd l[n] dz then 1 else bif decide (0<n)then (bif decide (0<=cmp l[n-1] l[n])then 9 else 0)else 0:=by
 unfold depE
 rw [jI h,jI (show n-1<l.length by omega)]
theorem F67_is {a m:ByteArray} {t:Int} {ds:List Dig} {cs:List Chg} {K:Kn} (ha:szP a) (h:KI K (xG zD a m t ds cs)):F67 (a,m,t,ds,cs,()) K:=by
 unfold F67
 unfold xG at h
 refine ⟨ha, ?_⟩
 show bif !(Qh a)then _ else _
 cases c1:Qh a
 . rw [c1] at h;exact h
 rw [c1] at h
 simp only [Bool.not_true,cond_false] at h ⊢
 cases c2:decide (1000< (m.size:Int))
 rotate_left
 . rw [c2] at h;exact h
 rw [c2] at h
 rw [cond_false] at h ⊢
 have hJ: ∀b,KI K (bif b then 2 else bif !decide (XO zD ds=0)then XO zD ds else bif decide ((cs.length:Int)=0)then 1 else bif decide (400< (cs.length:Int))then 4 else 0)->J3 K b a m t ds cs:=by
  intro b h
  unfold J3
  cases b
  rotate_left
  . exact h
  rw [cond_false] at h ⊢
  unfold XO at h
  cases c0:decide (100< (ds.length:Int))
  rotate_left
  . rw [c0] at h;exact h
  have hl:ds.length<=100:=by have:=of_decide_eq_false c0;omega
  rw [c0,cond_false] at h
  rw [cond_false]
  unfold F67_L4
  refine qZ.errsN ds.length (depE zD ds) (fun n=>(ds,(ds.length:Int),(n:Int),a,m,t,ds,cs,())) (fun e=>KI K (bif !decide (e=0)then e else bif decide ((cs.length:Int)=0)then 1 else bif decide (400< (cs.length:Int))then 4 else 0)) h rfl (fun W n hn h0 h1=> ?_) fun h W=> ?_
  . show JI K W ds (ds.length:Int) n a m t ds cs
    unfold JI
    rw [qH hn,cond_true]
    rw [depE_at hn] at h0 h1
    refine qM hn ?_
    cases c1:vd ds[n] dz
    . rw [c1] at h0 h1
      rw [cond_false] at h0 h1 ⊢
      by_cases hz:0<n
      . rw [posI hz,cond_true]
        rw [decide_eq_true hz,cond_true] at h0 h1
        rw [wrapP (by omega)]
        refine qM (by omega) ⟨trivial, ?_⟩
        unfold Xm
        cases c2:decide (0<=zD ds[n-1] ds[n])
        . rw [c2] at h0;rw [cond_false,zU hn (by omega)];exact h0 rfl
        . rw [c2] at h1;exact h1 (by decide)
      . have:n=0:=by omega
        subst this
        show Xm K W ds ds.length 0 false a m t ds cs
        unfold Xm
        rw [cond_false]
        have:=zU hn (show ds.length<=4294967296 by omega)
        have e:IntKind.i64.wrap ((0:Int)+1)=((0+1:Nat):Int):=this
        rw [e]
        exact h0 rfl
    . rw [c1] at h1;exact h1 (show (1:Int)≠0 by decide)
  . show JI K W ds (ds.length:Int) (ds.length:Int) a m t ds cs
    unfold JI
    rw [qt,cond_false]
    change KI K (bif decide ((cs.length:Int)=0)then 1 else bif decide (400< (cs.length:Int))then 4 else 0)at h
    revert h
    exact ju (K:=KI K) id (ju (K:=KI K) id id)
 exact ZW (J:=fun b=>J3 K b a m t ds cs) (f:=fun b=>bif b then 2 else bif !decide (XO zD ds=0)then XO zD ds else bif decide ((cs.length:Int)=0)then 1 else bif decide (400< (cs.length:Int))then 4 else 0) (K:=KI K) hJ h
def sp67:Sp:=⟨S67,L67,fun g=>szP g.1,fun g=> .int .i64 (xG zD g.1 g.2.1 g.2.2.1 g.2.2.2.1 g.2.2.2.2.1),fun _=>none⟩
theorem sp67_ok:sp67.Ok Tryz.prog 67 true:=
 ⟨fun g K X hp h=>F67_ok g K X (F67_is hp h),fun _ _ _=>rfl,fun _=>rfl,fun _ _=>⟨rfl,rfl⟩⟩
theorem lineE_at {l:List ByteArray} {n:Nat} (h:n<l.length):lineE l n=bif !(ZI l[n])then 3 else 0:=by
 unfold lineE
 rw [jI h]
theorem overE_at {cmp:Idn->Idn->Int} {l:List Idn} {n:Nat} (h:n+1<l.length):overE cmp l n=bif decide (0<=cmp l[n] l[n+1])then 9 else 0:=by
 unfold overE
 rw [jI (show n<l.length by omega),jI h]
end Go.Proofs.YtbglndogddddoaaGreatDoor
namespace Go.Proofs.YtbglndogddddoaaGreatDoor
open Go.RowKit
attribute [local irreducible] qJ qd
set_option maxRecDepth 100000
def H68:List (Nat×Hint):=[(18,⟨[((1,[]),none)],[(1, .pt 0 0),(73, .leaf),(74, .leaf),(75, .leaf)],[.el],[.sl .str, .int .i64, .int .i64, .el .chg]⟩),(28,⟨[((1,[]),none)],[(1, .pt 0 0),(5, .leaf)],[.el],[.int .i64, .el .chg]⟩)]
def J68:List (Nat×Hint):=[(2,⟨[((1,[]),none)],[(1, .pt 0 0),(6, .leaf)],[.el],[.bool, .el .chg]⟩),(6,⟨[((1,[]),none)],[(1, .pt 0 0),(19, .leaf)],[.el],[.bool, .el .chg]⟩),(8,⟨[((1,[]),none)],[(1, .pt 0 0),(33, .leaf)],[.el],[.bool, .el .chg]⟩),(10,⟨[((1,[]),none)],[(1, .pt 0 0),(43, .leaf)],[.el],[.bool, .el .chg]⟩),(14,⟨[((1,[]),none)],[(1, .pt 0 0),(57, .leaf)],[.el],[.bool, .el .chg]⟩),(24,⟨[((1,[]),none)],[(1, .pt 0 0),(83, .leaf)],[.el],[.bool, .el .chg]⟩)]
abbrev S68:List Sh:=[.leaf]
abbrev L68:List Lf:=[.el .chg]
def Qq (K:Kn) (W17:prodL [.int .i64, .el .chg]->Prop) (i_16:Int) (c_16:Chg):Prop:=
 bif decide (i_16< (c_16.over.length:Int))then (
  At c_16.over (IntKind.i64.wrap (i_16-1)) fun u18=>
 At c_16.over i_16 fun u19=>
 True/\
 bif decide (0<=idC u18 u19)then (
  K (.int .i64 9) [])
 else (
  W17 (IntKind.i64.wrap (i_16+1),c_16,())))
 else (
  K (.int .i64 0) [])
def YR (K:Kn) (g:prodL [.int .i64, .el .chg]):Prop:=
 qZ (γ:=prodL [.int .i64, .el .chg]) (fun V y=>Qq K V y.1 y.2.1) g
def QY (K:Kn) (t_14:Bool) (c_14:Chg):Prop:=
 bif t_14 then (
  K (.int .i64 1) [])
 else (
  bif decide (400< (c_14.over.length:Int))then (
   K (.int .i64 4) [])
  else (
   YR K (1,c_14,())))
def kH (K:Kn) (W12:prodL [.sl .str, .int .i64, .int .i64, .el .chg]->Prop) (t_11:List ByteArray) (t2_11 t3_11:Int) (c_11:Chg):Prop:=
 bif decide (t3_11<t2_11)then (
  At t_11 t3_11 fun u13=>
 sp117.pre (u13,())/\
 bif !(ZI u13)then (
  K (.int .i64 3) [])
 else (
  W12 (t_11,t2_11,IntKind.i64.wrap (t3_11+1),c_11,())))
 else (
  bif decide (c_11.kind=7)then (
  QY K (decide ((c_11.over.length:Int)=0)) c_11)
 else (
  QY K false c_11))
def Ye (K:Kn) (g:prodL [.sl .str, .int .i64, .int .i64, .el .chg]):Prop:=
 qZ (γ:=prodL [.sl .str, .int .i64, .int .i64, .el .chg]) (fun V y=>kH K V y.1 y.2.1 y.2.2.1 y.2.2.2.1) g
def XT (K:Kn) (t_5:Bool) (c_5:Chg):Prop:=
 bif t_5 then (
        K (.int .i64 1) [])
       else (
        bif decide (2000< (c_5.lines.length:Int))then (
         K (.int .i64 4) [])
        else (
         Ye K (c_5.lines,(c_5.lines.length:Int),0,c_5,())))
def JO (K:Kn) (t_4:Bool) (c_4:Chg):Prop:=
 bif t_4 then (
      K (.int .i64 2) [])
     else (
      bif decide (65536< (c_4.data.size:Int))then (
       K (.int .i64 4) [])
      else (
       bif decide (c_4.kind=5)then (
        XT K (decide ((c_4.lines.length:Int)=0)) c_4)
       else (
        XT K false c_4)))
def Yx (K:Kn) (t_3:Bool) (c_3:Chg):Prop:=
 bif t_3 then (
     K (.int .i64 5) [])
    else (
     bif decide (c_3.mode<0)then (
      JO K true c_3)
     else (
      JO K (decide (511<c_3.mode)) c_3))
def QT (K:Kn) (t_2:Bool) (c_2:Chg):Prop:=
 bif t_2 then (
    K (.int .i64 8) [])
   else (
    bif decide (c_2.kind=2)then (
     Ke.pre (c_2.name,())/\
     Yx K (!(Qh c_2.name)) c_2)
    else (
     Yx K false c_2))
def Jz (K:Kn) (t_1:Bool) (c_1:Chg):Prop:=
 bif t_1 then (
  K (.int .i64 8) [])
 else (
  sp116.pre (c_1,())/\
  bif !(xQ c_1)then (
   K (.int .i64 1) [])
  else (
   bif decide (c_1.kind=1)then (
    bif decide (c_1.typ<1)then (
     QT K true c_1)
    else (
     QT K (decide (4<c_1.typ)) c_1))
   else (
    QT K false c_1)))
def F68 (g:prodL L68) (K:Kn):Prop:=
 bif decide (g.1.kind<1)then (
  Jz K true g.1)
 else (
  Jz K (decide (7<g.1.kind)) g.1)
theorem F68_eq (g:prodL L68) (K X:Kn):F68 g K=qJ D (qQ [] [(17,true,sp17),(115,true,Ke),(116,true,sp116),(117,true,sp117)]) (qw []) H68 J68 118 [.tmp 2] (qz Tryz.f68) (argsT S68 L68 g) [] (settle0 K) X:=by kernel_rfl
theorem F68_ok (g:prodL L68) (K X:Kn) (h:F68 g K):FCalls Tryz.prog 68 (argsT S68 L68 g) [] K X:=
 FCalls.settle0 (qq qh (wQ (vf sp17_ok (vf qqe (vf sp116_ok (vf sp117_ok wZ))))) qx rfl Tryz.func68 (c:=qz Tryz.f68) rfl Tryz.ntmps68 Tryz.results68 (by unfold qk;rw [Tryz.func68];kernel_rfl) (Nat.le_of_ble_eq_true (by kernel_rfl)) (c0:=0) (Eq.mp (F68_eq g K X) h))
end Go.Proofs.YtbglndogddddoaaGreatDoor
namespace Go.Proofs.YtbglndogddddoaaGreatDoor
open Go.RowKit
set_option maxRecDepth 100000
theorem F68_L17_is {c:Chg} {K:Kn} (hl:c.over.length<=4194304) (h:KI K (overEs idC c.over)):YR K (1,c,()):=by
 unfold YR
 unfold overEs at h
 refine qZ.errsN (c.over.length-1) (overE idC c.over) (fun n=>(((n+1:Nat):Int),c,())) (KI K) h rfl (fun W n hn h0 h1=> ?_) fun h W=> ?_
 . show Qq K W ((n+1:Nat):Int) c
   unfold Qq
   rw [qH (show n+1<c.over.length by omega),cond_true]
   rw [overE_at (by omega)] at h0 h1
   rw [wrapP (by omega)]
   refine qM (show n+1-1<c.over.length by omega) (qM (show n+1<c.over.length by omega) ⟨trivial, ?_⟩)
   simp only [Nat.add_sub_cancel]
   cases e:decide (0<=idC c.over[n] c.over[n+1])
   . rw [e] at h0;rw [cond_false,zU (show n+1<c.over.length by omega) (by omega)];exact h0 rfl
   . rw [e] at h1;exact h1 (by decide)
 . show Qq K W ((c.over.length-1+1:Nat):Int) c
   unfold Qq
   rw [decide_eq_false (by omega),cond_false];exact h
theorem F68_J15_is {t:Bool} {c:Chg} {K:Kn} (hp:ZS c) (h:KI K (fP15 t c)):QY K t c:=by
 unfold QY
 revert h
 unfold fP15
 exact ju (K:=KI K) id (ju (K:=KI K) id (F68_L17_is (zF hp).2.2.2.2))
theorem F68_L12_is {c:Chg} {K:Kn} (hp:ZS c) (h:KI K (fP12 c)):Ye K (c.lines,(c.lines.length:Int),0,c,()):=by
 obtain ⟨p1,p2,p3,p4,p5⟩:=zF hp
 unfold Ye
 unfold fP12 at h
 refine qZ.errsN c.lines.length (lineE c.lines) (fun n=>(c.lines,(c.lines.length:Int),(n:Int),c,())) (fun e=>KI K (bif !decide (e=0)then e else fP15 (bif decide (c.kind=7)then decide ((c.over.length:Int)=0)else false) c)) h rfl (fun W n hn h0 h1=> ?_) fun h W=> ?_
 . show kH K W c.lines c.lines.length n c
   unfold kH
   rw [qH hn,cond_true]
   rw [lineE_at hn] at h0 h1
   refine qM hn ⟨trivial, ?_⟩
   cases e:ZI c.lines[n]
   . rw [e] at h1;exact h1 (by decide)
   . rw [e] at h0;simp only [Bool.not_true,cond_false];rw [zU hn (by omega)];exact h0 rfl
 . show kH K W c.lines c.lines.length c.lines.length c
   unfold kH
   rw [qt,cond_false]
   exact ZW (J:=fun b=>QY K b c) (f:=fun b=>fP15 b c) (K:=KI K) (fun _ h=>F68_J15_is hp h) h
theorem F68_J6_is {t:Bool} {c:Chg} {K:Kn} (hp:ZS c) (h:KI K (fP6 t c)):XT K t c:=by
 unfold XT
 revert h
 unfold fP6
 exact ju (K:=KI K) id (ju (K:=KI K) id (F68_L12_is hp))
theorem F68_J7_is {t:Bool} {c:Chg} {K:Kn} (hp:ZS c) (h:KI K (fP7 t c)):JO K t c:=by
 unfold JO
 revert h
 unfold fP7
 exact ju (K:=KI K) id (ju (K:=KI K) id (ZW (J:=fun b=>XT K b c) (f:=fun b=>fP6 b c) (K:=KI K) (fun _ h=>F68_J6_is hp h)))
theorem V7 {t:Bool} {c:Chg} {K:Kn} (hp:ZS c) (h:KI K (fP8 t c)):Yx K t c:=by
 unfold Yx
 revert h
 unfold fP8
 exact ju (K:=KI K) id (ZW (J:=fun b=>JO K b c) (f:=fun b=>fP7 b c) (K:=KI K) (fun _ h=>F68_J7_is hp h))
theorem VX {t:Bool} {c:Chg} {K:Kn} (hp:ZS c) (h:KI K (fP9 t c)):QT K t c:=by
 unfold QT
 revert h
 unfold fP9
 refine ju (K:=KI K) id fun h=> ?_
 show bif decide (c.kind=2)then _ else _
 cases e:decide (c.kind=2)
 . rw [e] at h;exact V7 hp h
 . rw [e] at h;exact ⟨Nat.le_trans (zF hp).1 (by omega),V7 hp h⟩
theorem XJ {t:Bool} {c:Chg} {K:Kn} (hp:ZS c) (hk:t=false->jJ c) (h:KI K (fP10 t c)):Jz K t c:=by
 unfold Jz
 unfold fP10 at h
 cases t
 rotate_left
 . exact h
 rw [cond_false] at h ⊢
 refine ⟨hk rfl, ?_⟩
 revert h
 refine ju (K:=KI K) id fun h=> ?_
 show bif decide (c.kind=1)then _ else _
 cases e:decide (c.kind=1)
 . rw [e] at h;exact VX hp h
 . rw [e] at h
   exact ZW (J:=fun b=>QT K b c) (f:=fun b=>fP9 b c) (K:=KI K) (fun _ h=>VX hp h) h
theorem F68_is {c:Chg} {K:Kn} (hp:ZS c) (h:KI K (jH c)):F68 (c,()) K:=by
 unfold F68
 unfold jH at h
 show bif decide (c.kind<1)then _ else _
 cases e:decide (c.kind<1)
 . rw [e] at h
   exact XJ hp (fun e2=>⟨by have: ¬c.kind<1:=of_decide_eq_false e;show 1<=c.kind;omega,by have: ¬7<c.kind:=of_decide_eq_false e2;show c.kind<=7;omega⟩) h
 . rw [e] at h
   exact XJ hp (fun e2=>by cases e2) h
def sp68:Sp:=⟨S68,L68,fun g=>ZS g.1,fun g=> .int .i64 (jH g.1),fun _=>none⟩
theorem sp68_ok:sp68.Ok Tryz.prog 68 true:=
 ⟨fun g K X hp h=>F68_ok g K X (F68_is hp h),fun _ _ _=>rfl,fun _=>rfl,fun _ _=>⟨rfl,rfl⟩⟩
set_option maxRecDepth 100000
theorem vq (x:Sx):(⟨x.isList,x.atom,x.list⟩:Sx)=x:=by cases x;rfl
def digX (d:Dig):Sx:=qp (bif vd d dz then ⟨#[]⟩else YX d)
def jp (x:Idn):Sx:=qU [digX x.patch,zE x.n]
def zG (l:List Idn):Sx:=qU (l.map jp)
def yg (l:List ByteArray):Sx:=qU (l.map qp)
def zm (k:Nat) (c:Chg):List Sx:=match k with
 | 1=>[zE c.typ]
 | 2=>[jp c.file,jp c.parent,qp c.name,zG c.over]
 | 3=>[jp c.file,zE c.mode,zG c.over]
 | 4=>[jp c.file,qp c.data,zG c.over]
 | 5=>[jp c.file,jp c.after,jp c.before,yg c.lines]
 | 6=>[jp c.file,jp c.after,jp c.before,zG c.over]
 | 7=>[zG c.over]
 | _=>[]
def chX (c:Chg):Sx:=qU (zE c.kind::zm c.kind.toNat c)
def Xe:ByteArray:=⟨#[113,117,105,108,116,49]⟩
def jV (a m:ByteArray) (t:Int) (D:List Sx) (cs:List Chg):Sx:=qU [qp Xe,qp a,qp m,zE t,qU D,qU (cs.map chX)]
def tblL:List (Int×ByteArray×Nat):=[(1,⟨#[]⟩,160),(2,⟨#[]⟩,161),(3,⟨#[]⟩,164),(4,⟨#[]⟩,165),(5,⟨#[]⟩,166),(6,⟨#[]⟩,168),(7,⟨#[]⟩,169)]
def chW (c:Chg):Prop:=j6 c.typ/\j6 c.mode/\j6 c.file.n/\j6 c.parent.n/\j6 c.after.n/\j6 c.before.n/\ ∀x∈c.over,j6 x.n
def ovP (l:List Idn):Prop:=l.length<=4194304/\ ∀x∈l,j6 x.n
theorem ZQ {c:Chg} (hp:ZS c) (hw:chW c):ovP c.over:=⟨(zF hp).2.2.2.2,hw.2.2.2.2.2.2⟩
theorem bk_digX (d:Dig):vk (digX d)<=35:=by
 unfold digX
 rw [yb]
 cases vd d dz
 . rw [cond_false,VF];omega
 . have:(⟨#[]⟩:ByteArray).size=0:=rfl
   rw [cond_true,this];omega
theorem J1 {x:Idn} (h:j6 x.n):vk (jp x)<=62:=by
 have h1:=bk_digX x.patch
 have h2:=QI h
 unfold jp
 rw [vR]
 simp only [zl]
 omega
theorem XQ {α:Type} (f:α->Sx) (m:Nat): ∀(l:List α),(∀x∈l,vk (f x)<=m)->zl (l.map f)<=m*l.length
 | [],_=>by simp [zl]
 | x::l,h=>by
  have h1:=h x (List.mem_cons_self ..)
  have h2:=XQ f m l fun y hy=>h y (List.mem_cons_of_mem _ hy)
  simp only [List.map_cons,zl,List.length_cons,Nat.mul_succ]
  omega
theorem bk_overX {l:List Idn} (h:ovP l):vk (zG l)<=62*l.length+3:=by
 unfold zG
 rw [vR]
 have:=XQ jp 62 l fun x hx=>J1 (h.2 x hx)
 omega
theorem bk_linesX (l:List ByteArray):vk (yg l)<=3*(l.map zt).sum+3:=by
 unfold yg
 rw [vR]
 have:zl (l.map qp)<=3*(l.map zt).sum:=by
  induction l with
  | nil=>simp [zl]
  | cons s l ih=>
   simp only [List.map_cons,zl,List.sum_cons,yb,zt] at ih ⊢
   omega
 omega
theorem bk_chX {c:Chg} (hp:ZS c) (hw:chW c) (hk:j6 c.kind):vk (chX c)<=5*qf c+300:=by
 have ho:=bk_overX (ZQ hp hw)
 have hl:=bk_linesX c.lines
 obtain ⟨w1,w2,w3,w4,w5,w6,w7⟩:=hw
 have e:=vY wh 33 c.over fun x _=>Nat.le_refl _
 have h3:=J1 w3
 have h4:=J1 w4
 have h5:=J1 w5
 have h6:=J1 w6
 have h1:=QI w1
 have h2:=QI w2
 have hk:=QI hk
 have hb:qf c=(c.name.size+1)+(c.data.size+1)+((c.lines.map zt).sum+1)+((c.over.map wh).sum+1)+135:=rfl
 unfold chX
 rw [vR]
 unfold zm
 split<;>simp only [zl,yb]<;>omega
end Go.Proofs.YtbglndogddddoaaGreatDoor
namespace Go.Proofs.YtbglndogddddoaaGreatDoor
open Go.RowKit
attribute [local irreducible] qJ qd
set_option maxRecDepth 100000
def H118n:List (Nat×Hint):=[]
def J118n:List (Nat×Hint):=[]
abbrev qqb:List Sh:=[.nil]
abbrev Zr:List Lf:=[]
abbrev O118n:List ObSh:=[]
def F118n (g:prodL Zr) (K:Kn):Prop:=
 K (.ag [.bool true, .str (⟨#[]⟩:ByteArray), .nil]) []
theorem F118n_eq (g:prodL Zr) (K X:Kn):F118n g K=qJ D (qQ [] []) (qw []) H118n J118n 5 [.cell 2 85] (qz Tryz.f118) (argsT qqb Zr g) (qa qqb O118n Zr g) (settle0 K) X 0:=by kernel_rfl
theorem F118n_ok (g:prodL Zr) (K X:Kn) (h:F118n g K):FCalls Tryz.prog 118 (argsT qqb Zr g) (qa qqb O118n Zr g) K X 0:=
 FCalls.settle0 (qq (Γ:=qQ [] []) (mu:=qw []) (H:=H118n) (J:=J118n) qh (wQ wZ) qx rfl Tryz.func118 (c:=qz Tryz.f118) rfl Tryz.ntmps118 Tryz.results118 (by unfold qk;rw [Tryz.func118];kernel_rfl) (Nat.le_of_ble_eq_true (by kernel_rfl)) (c0:=0) (Eq.mp (F118n_eq g K X) h))
def jX:Raw:=⟨qqb,O118n,Zr,0,fun g K _=>F118n g K⟩
theorem Zl:jX.Ok Tryz.prog 118:=fun g K X h=>F118n_ok g K X h
def H121:List (Nat×Hint):=[]
def J121:List (Nat×Hint):=[]
abbrev S121:List Sh:=[.leaf]
abbrev L121:List Lf:=[.int .i64]
def F121 (g:prodL L121) (K:Kn):Prop:=
 sp170.pre (g.1,())/\
 K (.ag [.bool (((yL g.1).1).isList), .str (((yL g.1).1).atom), .sl false .sexp (((yL g.1).1).list)]) []
theorem F121_eq (g:prodL L121) (K X:Kn):F121 g K=qJ D (qQ [] [(170,false,sp170)]) (qw []) H121 J121 11 [.cell 2 85] (qz Tryz.f121) (argsT S121 L121 g) [] (settle0 K) X:=by kernel_rfl
theorem F121_ok (g:prodL L121) (K X:Kn) (h:F121 g K):FCalls Tryz.prog 121 (argsT S121 L121 g) [] K X:=
 FCalls.settle0 (qq (Γ:=qQ [] [(170,false,sp170)]) (mu:=qw []) (H:=H121) (J:=J121) qh (qX (rs:=[]) (l:=[(170,false,sp170)]) (fun p hp=>by cases hp) (by intro p hp;simp only [List.mem_cons,List.not_mem_nil,or_false] at hp;subst hp;exact sp170_ok)) qx rfl Tryz.func121 (c:=qz Tryz.f121) rfl Tryz.ntmps121 Tryz.results121 (by unfold qk;rw [Tryz.func121];kernel_rfl) (Nat.le_of_ble_eq_true (by kernel_rfl)) (c0:=0) (Eq.mp (F121_eq g K X) h))
def H120:List (Nat×Hint):=[]
def J120:List (Nat×Hint):=[]
abbrev S120:List Sh:=[]
abbrev Ws:List Lf:=[]
abbrev O120:List ObSh:=[]
def F120 (g:prodL Ws) (K:Kn):Prop:=
 K (.mp 0) [some (.cells [.fents false [(1,(⟨#[]⟩:ByteArray),160),(2,(⟨#[]⟩:ByteArray),161),(3,(⟨#[]⟩:ByteArray),164),(4,(⟨#[]⟩:ByteArray),165),(5,(⟨#[]⟩:ByteArray),166),(6,(⟨#[]⟩:ByteArray),168),(7,(⟨#[]⟩:ByteArray),169)]])]
theorem F120_eq (g:prodL Ws) (K X:Kn):F120 g K=qJ D (qQ [] []) (qw []) H120 J120 3 [.tmp 0] (qz Tryz.f120) (argsT S120 Ws g) (qa S120 O120 Ws g) (settleD (qa S120 O120 Ws g).length 0 K) X 0:=by kernel_rfl
theorem F120_ok (g:prodL Ws) (K X:Kn) (h:F120 g K):FCalls Tryz.prog 120 (argsT S120 Ws g) (qa S120 O120 Ws g) K X 0:=
 FCalls.settleD (qq (Γ:=qQ [] []) (mu:=qw []) (H:=H120) (J:=J120) qh (wQ wZ) qx rfl Tryz.func120 (c:=qz Tryz.f120) rfl Tryz.ntmps120 (rs:=[.tmp 0]) Tryz.results120 (by unfold qk;rw [Tryz.func120];kernel_rfl) (Nat.le_of_ble_eq_true (by kernel_rfl)) (X:=X) (c0:=0) (Eq.mp (F120_eq g K X) h))
def H167:List (Nat×Hint):=[(3,⟨[((2,[]),none),((3,[]),none),((3,[2]),some .sexp)],[(2, .pt 0 0),(3, .pt 1 0),(7, .leaf),(8, .leaf),(9, .leaf)],[.cells [.leaf, .leaf, .nil], .cells [.leaf, .leaf, .oa .sexp 2], .arr .sexp],[.sl .str, .int .i64, .int .i64, .bool, .str, .bool, .str, .sl .sexp]⟩)]
def J167:List (Nat×Hint):=[]
abbrev S167:List Sh:=[.leaf]
abbrev L167:List Lf:=[.sl .str]
def kI (K:Kn) (W6:prodL [.sl .str, .int .i64, .int .i64, .bool, .str, .bool, .str, .sl .sexp]->Prop) (t_5:List ByteArray) (t2_5 t3_5:Int) (t1_5:Bool) (t22_5:ByteArray) (x1_5:Bool) (x2_5:ByteArray) (x_5:List Sx):Prop:=
 bif decide (t3_5<t2_5)then (
  At t_5 t3_5 fun u7=>
 True/\
 qG (x_5.length+[(⟨false,u7,[]⟩:Sx)].length) 48 (
 W6 (t_5,t2_5,IntKind.i64.wrap (t3_5+1),t1_5,t22_5,x1_5,x2_5,x_5++[(⟨false,u7,[]⟩:Sx)],())))
 else (
  K (.ag [.bool x1_5, .str x2_5, .sl false .sexp x_5]) [])
def F167_L6 (K:Kn) (g:prodL [.sl .str, .int .i64, .int .i64, .bool, .str, .bool, .str, .sl .sexp]):Prop:=
 qZ (γ:=prodL [.sl .str, .int .i64, .int .i64, .bool, .str, .bool, .str, .sl .sexp]) (fun V y=>kI K V y.1 y.2.1 y.2.2.1 y.2.2.2.1 y.2.2.2.2.1 y.2.2.2.2.2.1 y.2.2.2.2.2.2.1 y.2.2.2.2.2.2.2.1) g
def F167 (g:prodL L167) (K:Kn):Prop:=
 let g1:prodL []:=(());
 F167_L6 K (g.1,(g.1.length:Int),0,false,(⟨#[]⟩:ByteArray),true,(⟨#[]⟩:ByteArray),[],())
theorem F167_eq (g:prodL L167) (K X:Kn):F167 g K=qJ D (qQ [(118,jX)] [(119,false,wG)]) (qw [(118,jX)]) H167 J167 22 [.cell 2 85] (qz Tryz.f167) (argsT S167 L167 g) [] (settle0 K) X:=by kernel_rfl
theorem F167_ok (g:prodL L167) (K X:Kn) (h:F167 g K):FCalls Tryz.prog 167 (argsT S167 L167 g) [] K X:=
 FCalls.settle0 (qq (Γ:=qQ [(118,jX)] [(119,false,wG)]) (mu:=qw [(118,jX)]) (H:=H167) (J:=J167) qh (qX (rs:=[(118,jX)]) (l:=[(119,false,wG)]) (by intro p hp;simp only [List.mem_cons,List.not_mem_nil,or_false] at hp;subst hp;exact Zl) (by intro p hp;simp only [List.mem_cons,List.not_mem_nil,or_false] at hp;subst hp;exact yV)) qx rfl Tryz.func167 (c:=qz Tryz.f167) rfl Tryz.ntmps167 Tryz.results167 (by unfold qk;rw [Tryz.func167];kernel_rfl) (Nat.le_of_ble_eq_true (by kernel_rfl)) (c0:=0) (Eq.mp (F167_eq g K X) h))
end Go.Proofs.YtbglndogddddoaaGreatDoor
namespace Go.Proofs.YtbglndogddddoaaGreatDoor
open Go.RowKit
set_option maxRecDepth 100000
theorem wkX {K:Kn} {b:Bool} {s:ByteArray} {f:Bool} {l:List Sx} {st:St} (h:K (.ag [.bool b, .str s, .sl false .sexp l]) st):kB K (.ag [.bool b, .str s, .sl f .sexp l]) st:=
 ⟨_,zM.ag (qO.cons (zM.refl _) (qO.cons (zM.refl _) (qO.cons (zM.sl f .sexp l) qO.nil))),h⟩
def j7:Sp:=⟨S121,L121,fun g=>j6 g.1,fun g=> .ag (enc .sexp (zE g.1)),fun _=>none⟩
theorem Qn:j7.Ok Tryz.prog 121 false:=
 ⟨fun g K X hp h=>F121_ok g K X ⟨hp,h⟩,fun _ _ _=>rfl,fun _=>rfl,fun h=>(by cases h)⟩
def sp120:Sp:=⟨S120,Ws,fun _=>True,fun _=> .mp 0,fun _=>some (.cells [.fents false tblL])⟩
theorem sp120_ok:sp120.Ok Tryz.prog 120 false:=
 ⟨fun g K X _ h=>F120_ok g K X h,fun _ _ _=>rfl,fun _=>rfl,fun h=>(by cases h)⟩
theorem F167_is {l:List ByteArray} {K:Kn} (hl:l.length<=4194304) (h:K (.ag (enc .sexp (yg l))) []):F167 (l,()) K:=by
 unfold F167
 refine qZ.map l qp (fun n out=>(l,(l.length:Int),n,false,⟨#[]⟩,true,⟨#[]⟩,out,())) (by omega) rfl (fun W n hn out ho hW=> ?_) fun W=> ?_
 . show kI K W l l.length n false ⟨#[]⟩ true ⟨#[]⟩ out
   unfold kI
   rw [qH hn,cond_true]
   exact qM hn ⟨trivial,by simp only [List.length_singleton,ho];omega,hW⟩
 . show kI K W l l.length l.length false ⟨#[]⟩ true ⟨#[]⟩ (l.map qp)
   unfold kI
   rw [qt,cond_false];exact h
def sp167:Sp:=⟨S167,L167,fun g=>g.1.length<=4194304,fun g=> .ag (enc .sexp (yg g.1)),fun _=>none⟩
theorem sp167_ok:sp167.Ok Tryz.prog 167 false:=
 ⟨fun g K X hp h=>F167_ok g K X (F167_is hp h),fun _ _ _=>rfl,fun _=>rfl,fun h=>(by cases h)⟩
end Go.Proofs.YtbglndogddddoaaGreatDoor
namespace Go.Proofs.YtbglndogddddoaaGreatDoor
open Go.RowKit
attribute [local irreducible] qJ qd
set_option maxRecDepth 100000
def H162:List (Nat×Hint):=[]
def J162:List (Nat×Hint):=[]
abbrev S162:List Sh:=[.leaf]
abbrev L162:List Lf:=[.el .idk]
def F162 (g:prodL L162) (K:Kn):Prop:=
 True/\
 bif y7 g.1 then (
  True/\
  j7.pre (g.1.n,())/\
  let g1:prodL [.sl .sexp]:=([(⟨false,(⟨#[]⟩:ByteArray),[]⟩:Sx),(⟨(zE g.1.n).isList,(zE g.1.n).atom,(zE g.1.n).list⟩:Sx)],());
  K (.ag [.bool true, .str (⟨#[]⟩:ByteArray), .sl true .sexp g1.1]) [])
 else (
  True/\
 j7.pre (g.1.n,())/\
 let g2:prodL [.sl .sexp]:=([(⟨false,YX g.1.patch,[]⟩:Sx),(⟨(zE g.1.n).isList,(zE g.1.n).atom,(zE g.1.n).list⟩:Sx)],());
 K (.ag [.bool true, .str (⟨#[]⟩:ByteArray), .sl true .sexp g2.1]) [])
theorem F162_eq (g:prodL L162) (K X:Kn):F162 g K=qJ D (qQ [(118,yj)] [(47,true,KV),(119,false,wG),(121,false,j7)]) (qw [(118,yj)]) H162 J162 20 [.cell 2 85] (qz Tryz.f162) (argsT S162 L162 g) [] (settle0 K) X:=by kernel_rfl
theorem F162_ok (g:prodL L162) (K X:Kn) (h:F162 g K):FCalls Tryz.prog 162 (argsT S162 L162 g) [] K X:=
 FCalls.settle0 (qq (Γ:=qQ [(118,yj)] [(47,true,KV),(119,false,wG),(121,false,j7)]) (mu:=qw [(118,yj)]) (H:=H162) (J:=J162) qh (qX (rs:=[(118,yj)]) (l:=[(47,true,KV),(119,false,wG),(121,false,j7)]) (by intro p hp;simp only [List.mem_cons,List.not_mem_nil,or_false] at hp;subst hp;exact rw118_ok) (by intro p hp;simp only [List.mem_cons,List.not_mem_nil,or_false] at hp;rcases hp with rfl | rfl | rfl<;>first | exact WE | exact yV | exact Qn)) qx rfl Tryz.func162 (c:=qz Tryz.f162) rfl Tryz.ntmps162 Tryz.results162 (by unfold qk;rw [Tryz.func162];kernel_rfl) (Nat.le_of_ble_eq_true (by kernel_rfl)) (c0:=0) (Eq.mp (F162_eq g K X) h))
end Go.Proofs.YtbglndogddddoaaGreatDoor
namespace Go.Proofs.YtbglndogddddoaaGreatDoor
open Go.RowKit
set_option maxRecDepth 100000
theorem F162_is {x:Idn} {K:Kn} (hp:j6 x.n) (h:K (.ag (enc .sexp (jp x))) []):F162 (x,()) (kB K):=by
 unfold F162
 simp only [vq]
 refine ⟨trivial, ?_⟩
 unfold jp digX at h
 unfold y7
 cases c:vd x.patch dz
 . rw [c] at h;exact ⟨trivial,hp,wkX h⟩
 . rw [c] at h;exact ⟨trivial,hp,wkX h⟩
def jt:Sp:=⟨S162,L162,fun g=>j6 g.1.n,fun g=> .ag (enc .sexp (jp g.1)),fun _=>none⟩
theorem wv:jt.Ok Tryz.prog 162 false:=
 ⟨fun g K X hp h=>FCalls.weak (F162_ok g (kB K) X (F162_is hp h)),fun _ _ _=>rfl,fun _=>rfl,fun h=>(by cases h)⟩
end Go.Proofs.YtbglndogddddoaaGreatDoor
namespace Go.Proofs.YtbglndogddddoaaGreatDoor
open Go.RowKit
attribute [local irreducible] qJ qd
set_option maxRecDepth 100000
def H163:List (Nat×Hint):=[(3,⟨[((2,[]),none),((3,[]),none),((3,[2]),some .sexp)],[(2, .pt 0 0),(3, .pt 1 0),(7, .leaf),(8, .leaf),(9, .leaf)],[.cells [.leaf, .leaf, .nil], .cells [.leaf, .leaf, .oa .sexp 2], .arr .sexp],[.sl .idk, .int .i64, .int .i64, .bool, .str, .bool, .str, .sl .sexp]⟩)]
def J163:List (Nat×Hint):=[]
abbrev S163:List Sh:=[.leaf]
abbrev L163:List Lf:=[.sl .idk]
def QN (K:Kn) (W6:prodL [.sl .idk, .int .i64, .int .i64, .bool, .str, .bool, .str, .sl .sexp]->Prop) (t_5:List Idn) (t2_5 t3_5:Int) (t1_5:Bool) (t22_5:ByteArray) (x1_5:Bool) (x2_5:ByteArray) (x_5:List Sx):Prop:=
 bif decide (t3_5<t2_5)then (
  At t_5 t3_5 fun u7=>
 jt.pre (u7,())/\
 qG (x_5.length+[(⟨(jp u7).isList,(jp u7).atom,(jp u7).list⟩:Sx)].length) 48 (
 W6 (t_5,t2_5,IntKind.i64.wrap (t3_5+1),t1_5,t22_5,x1_5,x2_5,x_5++[(⟨(jp u7).isList,(jp u7).atom,(jp u7).list⟩:Sx)],())))
 else (
  K (.ag [.bool x1_5, .str x2_5, .sl false .sexp x_5]) [])
def F163_L6 (K:Kn) (g:prodL [.sl .idk, .int .i64, .int .i64, .bool, .str, .bool, .str, .sl .sexp]):Prop:=
 qZ (γ:=prodL [.sl .idk, .int .i64, .int .i64, .bool, .str, .bool, .str, .sl .sexp]) (fun V y=>QN K V y.1 y.2.1 y.2.2.1 y.2.2.2.1 y.2.2.2.2.1 y.2.2.2.2.2.1 y.2.2.2.2.2.2.1 y.2.2.2.2.2.2.2.1) g
def F163 (g:prodL L163) (K:Kn):Prop:=
 let g1:prodL []:=(());
 F163_L6 K (g.1,(g.1.length:Int),0,false,(⟨#[]⟩:ByteArray),true,(⟨#[]⟩:ByteArray),[],())
theorem F163_eq (g:prodL L163) (K X:Kn):F163 g K=qJ D (qQ [(118,jX)] [(162,false,jt)]) (qw [(118,jX)]) H163 J163 22 [.cell 2 85] (qz Tryz.f163) (argsT S163 L163 g) [] (settle0 K) X:=by kernel_rfl
theorem F163_ok (g:prodL L163) (K X:Kn) (h:F163 g K):FCalls Tryz.prog 163 (argsT S163 L163 g) [] K X:=
 FCalls.settle0 (qq (Γ:=qQ [(118,jX)] [(162,false,jt)]) (mu:=qw [(118,jX)]) (H:=H163) (J:=J163) qh (qX (rs:=[(118,jX)]) (l:=[(162,false,jt)]) (by intro p hp;simp only [List.mem_cons,List.not_mem_nil,or_false] at hp;subst hp;exact Zl) (by intro p hp;simp only [List.mem_cons,List.not_mem_nil,or_false] at hp;subst hp;exact wv)) qx rfl Tryz.func163 (c:=qz Tryz.f163) rfl Tryz.ntmps163 Tryz.results163 (by unfold qk;rw [Tryz.func163];kernel_rfl) (Nat.le_of_ble_eq_true (by kernel_rfl)) (c0:=0) (Eq.mp (F163_eq g K X) h))
end Go.Proofs.YtbglndogddddoaaGreatDoor
namespace Go.Proofs.YtbglndogddddoaaGreatDoor
open Go.RowKit
set_option maxRecDepth 100000
theorem F163_is {l:List Idn} {K:Kn} (hp:ovP l) (h:K (.ag (enc .sexp (zG l))) []):F163 (l,()) K:=by
 obtain ⟨hl,hi⟩:=hp
 unfold F163
 refine qZ.map l jp (fun n out=>(l,(l.length:Int),n,false,⟨#[]⟩,true,⟨#[]⟩,out,())) (by omega) rfl (fun W n hn out ho hW=> ?_) fun W=> ?_
 . show QN K W l l.length n false ⟨#[]⟩ true ⟨#[]⟩ out
   unfold QN
   rw [qH hn,cond_true]
   simp only [vq]
   exact qM hn ⟨hi _ (List.getElem_mem _),by simp only [List.length_singleton,ho];omega,hW⟩
 . show QN K W l l.length l.length false ⟨#[]⟩ true ⟨#[]⟩ (l.map jp)
   unfold QN
   rw [qt,cond_false];exact h
def wq:Sp:=⟨S163,L163,fun g=>ovP g.1,fun g=> .ag (enc .sexp (zG g.1)),fun _=>none⟩
theorem yK:wq.Ok Tryz.prog 163 false:=
 ⟨fun g K X hp h=>F163_ok g K X (F163_is hp h),fun _ _ _=>rfl,fun _=>rfl,fun h=>(by cases h)⟩
end Go.Proofs.YtbglndogddddoaaGreatDoor
namespace Go.Proofs.YtbglndogddddoaaGreatDoor
open Go.RowKit
attribute [local irreducible] qJ qd
set_option maxRecDepth 100000
def H160:List (Nat×Hint):=[]
def J160:List (Nat×Hint):=[]
abbrev S160:List Sh:=[.leaf]
abbrev L160:List Lf:=[.el .chg]
def F160 (g:prodL L160) (K:Kn):Prop:=
 j7.pre (g.1.typ,())/\
 K (.sl true .sexp [(⟨(zE g.1.typ).isList,(zE g.1.typ).atom,(zE g.1.typ).list⟩:Sx)]) []
theorem F160_eq (g:prodL L160) (K X:Kn):F160 g K=qJ D (qQ [] [(121,false,j7)]) (qw []) H160 J160 7 [.tmp 2] (qz Tryz.f160) (argsT S160 L160 g) [] (settle0 K) X:=by kernel_rfl
theorem F160_ok (g:prodL L160) (K X:Kn) (h:F160 g K):FCalls Tryz.prog 160 (argsT S160 L160 g) [] K X:=
 FCalls.settle0 (qq (Γ:=qQ [] [(121,false,j7)]) (mu:=qw []) (H:=H160) (J:=J160) qh (qX (rs:=[]) (l:=[(121,false,j7)]) (fun p hp=>by cases hp) (by intro p hp;simp only [List.mem_cons,List.not_mem_nil,or_false] at hp;subst hp;exact Qn)) qx rfl Tryz.func160 (c:=qz Tryz.f160) rfl Tryz.ntmps160 Tryz.results160 (by unfold qk;rw [Tryz.func160];kernel_rfl) (Nat.le_of_ble_eq_true (by kernel_rfl)) (c0:=0) (Eq.mp (F160_eq g K X) h))
def H161:List (Nat×Hint):=[]
def J161:List (Nat×Hint):=[]
abbrev S161:List Sh:=[.leaf]
abbrev L161:List Lf:=[.el .chg]
def F161 (g:prodL L161) (K:Kn):Prop:=
 jt.pre (g.1.file,())/\
 jt.pre (g.1.parent,())/\
 True/\
 wq.pre (g.1.over,())/\
 K (.sl true .sexp [(⟨(jp g.1.file).isList,(jp g.1.file).atom,(jp g.1.file).list⟩:Sx),(⟨(jp g.1.parent).isList,(jp g.1.parent).atom,(jp g.1.parent).list⟩:Sx),(⟨false,g.1.name,[]⟩:Sx),(⟨(zG g.1.over).isList,(zG g.1.over).atom,(zG g.1.over).list⟩:Sx)]) []
theorem F161_eq (g:prodL L161) (K X:Kn):F161 g K=qJ D (qQ [] [(119,false,wG),(162,false,jt),(163,false,wq)]) (qw []) H161 J161 16 [.tmp 2] (qz Tryz.f161) (argsT S161 L161 g) [] (settle0 K) X:=by kernel_rfl
theorem F161_ok (g:prodL L161) (K X:Kn) (h:F161 g K):FCalls Tryz.prog 161 (argsT S161 L161 g) [] K X:=
 FCalls.settle0 (qq qh (wQ (vf yV (vf wv (vf yK wZ)))) qx rfl Tryz.func161 (c:=qz Tryz.f161) rfl Tryz.ntmps161 Tryz.results161 (by unfold qk;rw [Tryz.func161];kernel_rfl) (Nat.le_of_ble_eq_true (by kernel_rfl)) (c0:=0) (Eq.mp (F161_eq g K X) h))
def H164:List (Nat×Hint):=[]
def J164:List (Nat×Hint):=[]
abbrev S164:List Sh:=[.leaf]
abbrev L164:List Lf:=[.el .chg]
def F164 (g:prodL L164) (K:Kn):Prop:=
 jt.pre (g.1.file,())/\
 j7.pre (g.1.mode,())/\
 wq.pre (g.1.over,())/\
 K (.sl true .sexp [(⟨(jp g.1.file).isList,(jp g.1.file).atom,(jp g.1.file).list⟩:Sx),(⟨(zE g.1.mode).isList,(zE g.1.mode).atom,(zE g.1.mode).list⟩:Sx),(⟨(zG g.1.over).isList,(zG g.1.over).atom,(zG g.1.over).list⟩:Sx)]) []
theorem F164_eq (g:prodL L164) (K X:Kn):F164 g K=qJ D (qQ [] [(121,false,j7),(162,false,jt),(163,false,wq)]) (qw []) H164 J164 13 [.tmp 2] (qz Tryz.f164) (argsT S164 L164 g) [] (settle0 K) X:=by kernel_rfl
theorem F164_ok (g:prodL L164) (K X:Kn) (h:F164 g K):FCalls Tryz.prog 164 (argsT S164 L164 g) [] K X:=
 FCalls.settle0 (qq qh (wQ (vf Qn (vf wv (vf yK wZ)))) qx rfl Tryz.func164 (c:=qz Tryz.f164) rfl Tryz.ntmps164 Tryz.results164 (by unfold qk;rw [Tryz.func164];kernel_rfl) (Nat.le_of_ble_eq_true (by kernel_rfl)) (c0:=0) (Eq.mp (F164_eq g K X) h))
def H165:List (Nat×Hint):=[]
def J165:List (Nat×Hint):=[]
abbrev S165:List Sh:=[.leaf]
abbrev L165:List Lf:=[.el .chg]
def F165 (g:prodL L165) (K:Kn):Prop:=
 jt.pre (g.1.file,())/\
 True/\
 wq.pre (g.1.over,())/\
 K (.sl true .sexp [(⟨(jp g.1.file).isList,(jp g.1.file).atom,(jp g.1.file).list⟩:Sx),(⟨false,g.1.data,[]⟩:Sx),(⟨(zG g.1.over).isList,(zG g.1.over).atom,(zG g.1.over).list⟩:Sx)]) []
theorem F165_eq (g:prodL L165) (K X:Kn):F165 g K=qJ D (qQ [] [(119,false,wG),(162,false,jt),(163,false,wq)]) (qw []) H165 J165 13 [.tmp 2] (qz Tryz.f165) (argsT S165 L165 g) [] (settle0 K) X:=by kernel_rfl
theorem F165_ok (g:prodL L165) (K X:Kn) (h:F165 g K):FCalls Tryz.prog 165 (argsT S165 L165 g) [] K X:=
 FCalls.settle0 (qq qh (wQ (vf yV (vf wv (vf yK wZ)))) qx rfl Tryz.func165 (c:=qz Tryz.f165) rfl Tryz.ntmps165 Tryz.results165 (by unfold qk;rw [Tryz.func165];kernel_rfl) (Nat.le_of_ble_eq_true (by kernel_rfl)) (c0:=0) (Eq.mp (F165_eq g K X) h))
def H166:List (Nat×Hint):=[]
def J166:List (Nat×Hint):=[]
abbrev S166:List Sh:=[.leaf]
abbrev L166:List Lf:=[.el .chg]
def F166 (g:prodL L166) (K:Kn):Prop:=
 jt.pre (g.1.file,())/\
 jt.pre (g.1.after,())/\
 jt.pre (g.1.before,())/\
 sp167.pre (g.1.lines,())/\
 K (.sl true .sexp [(⟨(jp g.1.file).isList,(jp g.1.file).atom,(jp g.1.file).list⟩:Sx),(⟨(jp g.1.after).isList,(jp g.1.after).atom,(jp g.1.after).list⟩:Sx),(⟨(jp g.1.before).isList,(jp g.1.before).atom,(jp g.1.before).list⟩:Sx),(⟨(yg g.1.lines).isList,(yg g.1.lines).atom,(yg g.1.lines).list⟩:Sx)]) []
theorem F166_eq (g:prodL L166) (K X:Kn):F166 g K=qJ D (qQ [] [(162,false,jt),(167,false,sp167)]) (qw []) H166 J166 16 [.tmp 2] (qz Tryz.f166) (argsT S166 L166 g) [] (settle0 K) X:=by kernel_rfl
theorem F166_ok (g:prodL L166) (K X:Kn) (h:F166 g K):FCalls Tryz.prog 166 (argsT S166 L166 g) [] K X:=
 FCalls.settle0 (qq qh (wQ (vf wv (vf sp167_ok wZ))) qx rfl Tryz.func166 (c:=qz Tryz.f166) rfl Tryz.ntmps166 Tryz.results166 (by unfold qk;rw [Tryz.func166];kernel_rfl) (Nat.le_of_ble_eq_true (by kernel_rfl)) (c0:=0) (Eq.mp (F166_eq g K X) h))
def H168:List (Nat×Hint):=[]
def J168:List (Nat×Hint):=[]
abbrev S168:List Sh:=[.leaf]
abbrev L168:List Lf:=[.el .chg]
def F168 (g:prodL L168) (K:Kn):Prop:=
 jt.pre (g.1.file,())/\
 jt.pre (g.1.after,())/\
 jt.pre (g.1.before,())/\
 wq.pre (g.1.over,())/\
 K (.sl true .sexp [(⟨(jp g.1.file).isList,(jp g.1.file).atom,(jp g.1.file).list⟩:Sx),(⟨(jp g.1.after).isList,(jp g.1.after).atom,(jp g.1.after).list⟩:Sx),(⟨(jp g.1.before).isList,(jp g.1.before).atom,(jp g.1.before).list⟩:Sx),(⟨(zG g.1.over).isList,(zG g.1.over).atom,(zG g.1.over).list⟩:Sx)]) []
theorem F168_eq (g:prodL L168) (K X:Kn):F168 g K=qJ D (qQ [] [(162,false,jt),(163,false,wq)]) (qw []) H168 J168 16 [.tmp 2] (qz Tryz.f168) (argsT S168 L168 g) [] (settle0 K) X:=by kernel_rfl
theorem F168_ok (g:prodL L168) (K X:Kn) (h:F168 g K):FCalls Tryz.prog 168 (argsT S168 L168 g) [] K X:=
 FCalls.settle0 (qq qh (wQ (vf wv (vf yK wZ))) qx rfl Tryz.func168 (c:=qz Tryz.f168) rfl Tryz.ntmps168 Tryz.results168 (by unfold qk;rw [Tryz.func168];kernel_rfl) (Nat.le_of_ble_eq_true (by kernel_rfl)) (c0:=0) (Eq.mp (F168_eq g K X) h))
def H169:List (Nat×Hint):=[]
def J169:List (Nat×Hint):=[]
abbrev S169:List Sh:=[.leaf]
abbrev L169:List Lf:=[.el .chg]
def F169 (g:prodL L169) (K:Kn):Prop:=
 wq.pre (g.1.over,())/\
 K (.sl true .sexp [(⟨(zG g.1.over).isList,(zG g.1.over).atom,(zG g.1.over).list⟩:Sx)]) []
theorem F169_eq (g:prodL L169) (K X:Kn):F169 g K=qJ D (qQ [] [(163,false,wq)]) (qw []) H169 J169 7 [.tmp 2] (qz Tryz.f169) (argsT S169 L169 g) [] (settle0 K) X:=by kernel_rfl
theorem F169_ok (g:prodL L169) (K X:Kn) (h:F169 g K):FCalls Tryz.prog 169 (argsT S169 L169 g) [] K X:=
 FCalls.settle0 (qq (Γ:=qQ [] [(163,false,wq)]) (mu:=qw []) (H:=H169) (J:=J169) qh (qX (rs:=[]) (l:=[(163,false,wq)]) (fun p hp=>by cases hp) (by intro p hp;simp only [List.mem_cons,List.not_mem_nil,or_false] at hp;subst hp;exact yK)) qx rfl Tryz.func169 (c:=qz Tryz.f169) rfl Tryz.ntmps169 Tryz.results169 (by unfold qk;rw [Tryz.func169];kernel_rfl) (Nat.le_of_ble_eq_true (by kernel_rfl)) (c0:=0) (Eq.mp (F169_eq g K X) h))
end Go.Proofs.YtbglndogddddoaaGreatDoor
namespace Go.Proofs.YtbglndogddddoaaGreatDoor
open Go.RowKit
set_option maxRecDepth 100000
def Km:Sp:=⟨S160,L160,fun g=>ZS g.1/\chW g.1,fun g=> .sl false .sexp (zm 1 g.1),fun _=>none⟩
theorem sp160_ok:Km.Ok Tryz.prog 160 false:=
 ⟨fun g K X hp h=>FCalls.weak (F160_ok g (kB K) X (by obtain ⟨hp,w1,w2,w3,w4,w5,w6,w7⟩:=hp;unfold F160;simp only [vq];exact ⟨w1,kB.sl h⟩)),fun _ _ _=>rfl,fun _=>rfl,fun h=>(by cases h)⟩
def VH:Sp:=⟨S161,L161,fun g=>ZS g.1/\chW g.1,fun g=> .sl false .sexp (zm 2 g.1),fun _=>none⟩
theorem sp161_ok:VH.Ok Tryz.prog 161 false:=
 ⟨fun g K X hp h=>FCalls.weak (F161_ok g (kB K) X (by have ho:=ZQ hp.1 hp.2;obtain ⟨hp,w1,w2,w3,w4,w5,w6,w7⟩:=hp;unfold F161;simp only [vq];exact ⟨w3,w4,trivial,ho,kB.sl h⟩)),fun _ _ _=>rfl,fun _=>rfl,fun h=>(by cases h)⟩
def VV:Sp:=⟨S164,L164,fun g=>ZS g.1/\chW g.1,fun g=> .sl false .sexp (zm 3 g.1),fun _=>none⟩
theorem sp164_ok:VV.Ok Tryz.prog 164 false:=
 ⟨fun g K X hp h=>FCalls.weak (F164_ok g (kB K) X (by have ho:=ZQ hp.1 hp.2;obtain ⟨hp,w1,w2,w3,w4,w5,w6,w7⟩:=hp;unfold F164;simp only [vq];exact ⟨w3,w2,ho,kB.sl h⟩)),fun _ _ _=>rfl,fun _=>rfl,fun h=>(by cases h)⟩
def Ve:Sp:=⟨S165,L165,fun g=>ZS g.1/\chW g.1,fun g=> .sl false .sexp (zm 4 g.1),fun _=>none⟩
theorem sp165_ok:Ve.Ok Tryz.prog 165 false:=
 ⟨fun g K X hp h=>FCalls.weak (F165_ok g (kB K) X (by have ho:=ZQ hp.1 hp.2;obtain ⟨hp,w1,w2,w3,w4,w5,w6,w7⟩:=hp;unfold F165;simp only [vq];exact ⟨w3,trivial,ho,kB.sl h⟩)),fun _ _ _=>rfl,fun _=>rfl,fun h=>(by cases h)⟩
def VE:Sp:=⟨S166,L166,fun g=>ZS g.1/\chW g.1,fun g=> .sl false .sexp (zm 5 g.1),fun _=>none⟩
theorem sp166_ok:VE.Ok Tryz.prog 166 false:=
 ⟨fun g K X hp h=>FCalls.weak (F166_ok g (kB K) X (by have hl:=(zF hp.1).2.2.1;obtain ⟨hp,w1,w2,w3,w4,w5,w6,w7⟩:=hp;unfold F166;simp only [vq];exact ⟨w3,w5,w6,hl,kB.sl h⟩)),fun _ _ _=>rfl,fun _=>rfl,fun h=>(by cases h)⟩
def VB:Sp:=⟨S168,L168,fun g=>ZS g.1/\chW g.1,fun g=> .sl false .sexp (zm 6 g.1),fun _=>none⟩
theorem sp168_ok:VB.Ok Tryz.prog 168 false:=
 ⟨fun g K X hp h=>FCalls.weak (F168_ok g (kB K) X (by have ho:=ZQ hp.1 hp.2;obtain ⟨hp,w1,w2,w3,w4,w5,w6,w7⟩:=hp;unfold F168;simp only [vq];exact ⟨w3,w5,w6,ho,kB.sl h⟩)),fun _ _ _=>rfl,fun _=>rfl,fun h=>(by cases h)⟩
def V4:Sp:=⟨S169,L169,fun g=>ZS g.1/\chW g.1,fun g=> .sl false .sexp (zm 7 g.1),fun _=>none⟩
theorem sp169_ok:V4.Ok Tryz.prog 169 false:=
 ⟨fun g K X hp h=>FCalls.weak (F169_ok g (kB K) X (by have ho:=ZQ hp.1 hp.2;unfold F169;simp only [vq];exact ⟨ho,kB.sl h⟩)),fun _ _ _=>rfl,fun _=>rfl,fun h=>(by cases h)⟩
end Go.Proofs.YtbglndogddddoaaGreatDoor
namespace Go.Proofs.YtbglndogddddoaaGreatDoor
open Go.RowKit
attribute [local irreducible] qJ qd
set_option maxRecDepth 100000
def H70:List (Nat×Hint):=[(3,⟨[((1,[]),none),((4,[]),none),((5,[]),none),((4,[2]),some .sexp)],[(1, .pt 0 0),(4, .pt 1 0),(5, .pt 2 0),(15, .leaf),(16, .leaf),(17, .leaf)],[.cells [.leaf, .leaf, .leaf, .leaf, .leaf], .cells [.leaf, .leaf, .oa .sexp 3], .cells [.leaf, .leaf, .nil], .arr .sexp],[.sl .dig, .int .i64, .int .i64, .str, .str, .int .i64, .sl .dig, .sl .chg, .bool, .str, .bool, .str, .sl .sexp]⟩),(9,⟨[((1,[]),none),((4,[]),none),((5,[]),none),((8,[]),none),((4,[2]),none),((5,[2]),some .sexp)],[(1, .pt 0 0),(4, .pt 1 0),(5, .pt 2 0),(8, .mp 3),(32, .leaf),(33, .leaf),(34, .leaf)],[.cells [.leaf, .leaf, .leaf, .leaf, .leaf], .cells [.leaf, .leaf, .oa .sexp 4], .cells [.leaf, .leaf, .oa .sexp 5], .cells [.fe [(1,160),(2,161),(3,164),(4,165),(5,166),(6,168),(7,169)]], .arr .sexp, .arr .sexp],[.sl .chg, .int .i64, .int .i64, .str, .str, .int .i64, .sl .dig, .sl .chg, .bool, .str, .bool, .str, .sl .sexp, .sl .sexp]⟩)]
def J70:List (Nat×Hint):=[(13,⟨[((1,[]),none),((4,[]),none),((5,[]),none),((8,[]),none),((11,[]),none),((4,[2]),none),((5,[2]),none)],[(1, .pt 0 0),(4, .pt 1 0),(5, .pt 2 0),(8, .mp 3),(11, .pt 4 0),(32, .leaf),(33, .leaf),(34, .leaf)],[.cells [.leaf, .leaf, .leaf, .leaf, .leaf], .cells [.leaf, .leaf, .oa .sexp 5], .cells [.leaf, .leaf, .oa .sexp 6], .cells [.fe [(1,160),(2,161),(3,164),(4,165),(5,166),(6,168),(7,169)]], .cells [.leaf, .leaf, .leaf], .arr .sexp, .arr .sexp],[.sl .chg, .int .i64, .int .i64, .str, .str, .int .i64, .sl .dig, .sl .chg, .bool, .str, .bool, .str, .bool, .str, .sl .sexp, .sl .sexp, .sl .sexp]⟩),(15,⟨[((1,[]),none),((4,[]),none),((5,[]),none)],[(1, .pt 0 0),(4, .pt 1 0),(5, .pt 2 0)],[.cells [.leaf, .leaf, .leaf, .leaf, .leaf], .cells [.leaf, .leaf, .leaf], .cells [.leaf, .leaf, .leaf]],[.str, .str, .int .i64, .sl .dig, .sl .chg, .bool, .str, .sl .sexp, .bool, .str, .sl .sexp]⟩)]
abbrev S70:List Sh:=[.ag [.leaf, .leaf, .leaf, .leaf, .leaf]]
abbrev L70:List Lf:=[.str, .str, .int .i64, .sl .dig, .sl .chg]
def We (K:Kn) (p1_21 p2_21:ByteArray) (p3_21:Int) (p4_21:List Dig) (p5_21:List Chg) (deps1_21:Bool) (deps2_21:ByteArray) (deps3_21:List Sx) (changes1_21:Bool) (changes2_21:ByteArray) (changes3_21:List Sx):Prop:=
 True/\
 True/\
 True/\
 j7.pre (p3_21,())/\
 let g22:prodL [.sl .sexp]:=([(⟨false,(⟨#[113,117,105,108,116,49]⟩:ByteArray),[]⟩:Sx),(⟨false,p1_21,[]⟩:Sx),(⟨false,p2_21,[]⟩:Sx),(⟨(zE p3_21).isList,(zE p3_21).atom,(zE p3_21).list⟩:Sx),(⟨deps1_21,deps2_21,deps3_21⟩:Sx),(⟨changes1_21,changes2_21,changes3_21⟩:Sx)],());
 sp122.pre (true,(⟨#[]⟩:ByteArray),g22.1,())/\
 K (.tu [.str ((wL ⟨true,(⟨#[]⟩:ByteArray),g22.1⟩).1), .int .i64 ((wL ⟨true,(⟨#[]⟩:ByteArray),g22.1⟩).2)]) []
def qL (K:Kn) (W16:prodL [.sl .chg, .int .i64, .int .i64, .str, .str, .int .i64, .sl .dig, .sl .chg, .bool, .str, .bool, .str, .sl .sexp, .sl .sexp]->Prop) (t_19:List Chg) (t2_19 t3_19:Int) (p1_19 p2_19:ByteArray) (p3_19:Int) (p4_19:List Dig) (p5_19:List Chg) (deps1_19:Bool) (deps2_19:ByteArray) (changes1_19:Bool) (changes2_19:ByteArray) (x1_19:Bool) (x2_19:ByteArray) (x3_19:List Sx) (deps_19:List Sx) (changes_19:List Sx):Prop:=
 qG (changes_19.length+[(⟨x1_19,x2_19,x3_19⟩:Sx)].length) 48 (
 W16 (t_19,t2_19,IntKind.i64.wrap (t3_19+1),p1_19,p2_19,p3_19,p4_19,p5_19,deps1_19,deps2_19,changes1_19,changes2_19,deps_19,changes_19++[(⟨x1_19,x2_19,x3_19⟩:Sx)],()))
def Qu (K:Kn) (W16:prodL [.sl .chg, .int .i64, .int .i64, .str, .str, .int .i64, .sl .dig, .sl .chg, .bool, .str, .bool, .str, .sl .sexp, .sl .sexp]->Prop) (t_15:List Chg) (t2_15 t3_15:Int) (p1_15 p2_15:ByteArray) (p3_15:Int) (p4_15:List Dig) (p5_15:List Chg) (deps1_15:Bool) (deps2_15:ByteArray) (changes1_15:Bool) (changes2_15:ByteArray) (deps_15:List Sx) (changes_15:List Sx):Prop:=
 bif decide (t3_15<t2_15)then (
  At t_15 t3_15 fun u17=>
 j7.pre (u17.kind,())/\
 let g18:prodL [.sl .sexp]:=([(⟨(zE u17.kind).isList,(zE u17.kind).atom,(zE u17.kind).list⟩:Sx)],());
 bif decide (u17.kind=1)then (
  Km.pre (u17,())/\
  bif decide ((zm 1 u17).length=0)then (
   qL K W16 t_15 t2_15 t3_15 p1_15 p2_15 p3_15 p4_15 p5_15 deps1_15 deps2_15 changes1_15 changes2_15 true (⟨#[]⟩:ByteArray) g18.1 deps_15 changes_15)
  else (
   xM (0< (zm 1 u17).length) (qG (g18.1.length+(zm 1 u17).length) 48 (
   qL K W16 t_15 t2_15 t3_15 p1_15 p2_15 p3_15 p4_15 p5_15 deps1_15 deps2_15 changes1_15 changes2_15 true (⟨#[]⟩:ByteArray) (g18.1++(zm 1 u17)) deps_15 changes_15))))
 else (
  bif decide (u17.kind=2)then (
   VH.pre (u17,())/\
   bif decide ((zm 2 u17).length=0)then (
    qL K W16 t_15 t2_15 t3_15 p1_15 p2_15 p3_15 p4_15 p5_15 deps1_15 deps2_15 changes1_15 changes2_15 true (⟨#[]⟩:ByteArray) g18.1 deps_15 changes_15)
   else (
    xM (0< (zm 2 u17).length) (qG (g18.1.length+(zm 2 u17).length) 48 (
    qL K W16 t_15 t2_15 t3_15 p1_15 p2_15 p3_15 p4_15 p5_15 deps1_15 deps2_15 changes1_15 changes2_15 true (⟨#[]⟩:ByteArray) (g18.1++(zm 2 u17)) deps_15 changes_15))))
  else (
   bif decide (u17.kind=3)then (
    VV.pre (u17,())/\
    bif decide ((zm 3 u17).length=0)then (
     qL K W16 t_15 t2_15 t3_15 p1_15 p2_15 p3_15 p4_15 p5_15 deps1_15 deps2_15 changes1_15 changes2_15 true (⟨#[]⟩:ByteArray) g18.1 deps_15 changes_15)
    else (
     xM (0< (zm 3 u17).length) (qG (g18.1.length+(zm 3 u17).length) 48 (
     qL K W16 t_15 t2_15 t3_15 p1_15 p2_15 p3_15 p4_15 p5_15 deps1_15 deps2_15 changes1_15 changes2_15 true (⟨#[]⟩:ByteArray) (g18.1++(zm 3 u17)) deps_15 changes_15))))
   else (
    bif decide (u17.kind=4)then (
     Ve.pre (u17,())/\
     bif decide ((zm 4 u17).length=0)then (
      qL K W16 t_15 t2_15 t3_15 p1_15 p2_15 p3_15 p4_15 p5_15 deps1_15 deps2_15 changes1_15 changes2_15 true (⟨#[]⟩:ByteArray) g18.1 deps_15 changes_15)
     else (
      xM (0< (zm 4 u17).length) (qG (g18.1.length+(zm 4 u17).length) 48 (
      qL K W16 t_15 t2_15 t3_15 p1_15 p2_15 p3_15 p4_15 p5_15 deps1_15 deps2_15 changes1_15 changes2_15 true (⟨#[]⟩:ByteArray) (g18.1++(zm 4 u17)) deps_15 changes_15))))
    else (
     bif decide (u17.kind=5)then (
      VE.pre (u17,())/\
      bif decide ((zm 5 u17).length=0)then (
       qL K W16 t_15 t2_15 t3_15 p1_15 p2_15 p3_15 p4_15 p5_15 deps1_15 deps2_15 changes1_15 changes2_15 true (⟨#[]⟩:ByteArray) g18.1 deps_15 changes_15)
      else (
       xM (0< (zm 5 u17).length) (qG (g18.1.length+(zm 5 u17).length) 48 (
       qL K W16 t_15 t2_15 t3_15 p1_15 p2_15 p3_15 p4_15 p5_15 deps1_15 deps2_15 changes1_15 changes2_15 true (⟨#[]⟩:ByteArray) (g18.1++(zm 5 u17)) deps_15 changes_15))))
     else (
      bif decide (u17.kind=6)then (
       VB.pre (u17,())/\
       bif decide ((zm 6 u17).length=0)then (
        qL K W16 t_15 t2_15 t3_15 p1_15 p2_15 p3_15 p4_15 p5_15 deps1_15 deps2_15 changes1_15 changes2_15 true (⟨#[]⟩:ByteArray) g18.1 deps_15 changes_15)
       else (
        xM (0< (zm 6 u17).length) (qG (g18.1.length+(zm 6 u17).length) 48 (
        qL K W16 t_15 t2_15 t3_15 p1_15 p2_15 p3_15 p4_15 p5_15 deps1_15 deps2_15 changes1_15 changes2_15 true (⟨#[]⟩:ByteArray) (g18.1++(zm 6 u17)) deps_15 changes_15))))
      else (
       bif decide (u17.kind=7)then (
        V4.pre (u17,())/\
        bif decide ((zm 7 u17).length=0)then (
         qL K W16 t_15 t2_15 t3_15 p1_15 p2_15 p3_15 p4_15 p5_15 deps1_15 deps2_15 changes1_15 changes2_15 true (⟨#[]⟩:ByteArray) g18.1 deps_15 changes_15)
        else (
         xM (0< (zm 7 u17).length) (qG (g18.1.length+(zm 7 u17).length) 48 (
         qL K W16 t_15 t2_15 t3_15 p1_15 p2_15 p3_15 p4_15 p5_15 deps1_15 deps2_15 changes1_15 changes2_15 true (⟨#[]⟩:ByteArray) (g18.1++(zm 7 u17)) deps_15 changes_15))))
       else (
        False))))))))
 else (
  We K p1_15 p2_15 p3_15 p4_15 p5_15 deps1_15 deps2_15 deps_15 changes1_15 changes2_15 changes_15)
def YD (K:Kn) (g:prodL [.sl .chg, .int .i64, .int .i64, .str, .str, .int .i64, .sl .dig, .sl .chg, .bool, .str, .bool, .str, .sl .sexp, .sl .sexp]):Prop:=
 qZ (γ:=prodL [.sl .chg, .int .i64, .int .i64, .str, .str, .int .i64, .sl .dig, .sl .chg, .bool, .str, .bool, .str, .sl .sexp, .sl .sexp]) (fun V y=>Qu K V y.1 y.2.1 y.2.2.1 y.2.2.2.1 y.2.2.2.2.1 y.2.2.2.2.2.1 y.2.2.2.2.2.2.1 y.2.2.2.2.2.2.2.1 y.2.2.2.2.2.2.2.2.1 y.2.2.2.2.2.2.2.2.2.1 y.2.2.2.2.2.2.2.2.2.2.1 y.2.2.2.2.2.2.2.2.2.2.2.1 y.2.2.2.2.2.2.2.2.2.2.2.2.1 y.2.2.2.2.2.2.2.2.2.2.2.2.2.1) g
def JP (K:Kn) (W7:prodL [.sl .dig, .int .i64, .int .i64, .str, .str, .int .i64, .sl .dig, .sl .chg, .bool, .str, .bool, .str, .sl .sexp]->Prop) (t_6:List Dig) (t2_6 t3_6:Int) (p1_6 p2_6:ByteArray) (p3_6:Int) (p4_6:List Dig) (p5_6:List Chg) (deps1_6:Bool) (deps2_6:ByteArray) (changes1_6:Bool) (changes2_6:ByteArray) (deps_6:List Sx):Prop:=
 bif decide (t3_6<t2_6)then (
  At t_6 t3_6 fun u8=>
 True/\
 qG (deps_6.length+[(⟨false,YX u8,[]⟩:Sx)].length) 48 (
 W7 (t_6,t2_6,IntKind.i64.wrap (t3_6+1),p1_6,p2_6,p3_6,p4_6,p5_6,deps1_6,deps2_6,changes1_6,changes2_6,deps_6++[(⟨false,YX u8,[]⟩:Sx)],())))
 else (
  True/\
 YD K (p5_6,(p5_6.length:Int),0,p1_6,p2_6,p3_6,p4_6,p5_6,deps1_6,deps2_6,changes1_6,changes2_6,deps_6,[],()))
def F70_L7 (K:Kn) (g:prodL [.sl .dig, .int .i64, .int .i64, .str, .str, .int .i64, .sl .dig, .sl .chg, .bool, .str, .bool, .str, .sl .sexp]):Prop:=
 qZ (γ:=prodL [.sl .dig, .int .i64, .int .i64, .str, .str, .int .i64, .sl .dig, .sl .chg, .bool, .str, .bool, .str, .sl .sexp]) (fun V y=>JP K V y.1 y.2.1 y.2.2.1 y.2.2.2.1 y.2.2.2.2.1 y.2.2.2.2.2.1 y.2.2.2.2.2.2.1 y.2.2.2.2.2.2.2.1 y.2.2.2.2.2.2.2.2.1 y.2.2.2.2.2.2.2.2.2.1 y.2.2.2.2.2.2.2.2.2.2.1 y.2.2.2.2.2.2.2.2.2.2.2.1 y.2.2.2.2.2.2.2.2.2.2.2.2.1) g
def F70 (g:prodL L70) (K:Kn):Prop:=
 let g1:prodL []:=(());
 let g2:prodL []:=(());
 F70_L7 K (g.2.2.2.1,(g.2.2.2.1.length:Int),0,g.1,g.2.1,g.2.2.1,g.2.2.2.1,g.2.2.2.2.1,true,(⟨#[]⟩:ByteArray),true,(⟨#[]⟩:ByteArray),[],())
theorem F70_eq (g:prodL L70) (K X:Kn):F70 g K=qJ D (qQ [(118,yj),(118,jX)] [(119,false,wG),(120,false,sp120),(121,false,j7),(122,true,sp122),(160,false,Km),(161,false,VH),(164,false,VV),(165,false,Ve),(166,false,VE),(168,false,VB),(169,false,V4)]) (qw [(118,yj),(118,jX)]) H70 J70 77 [.tmp 2, .tmp 3] (qz Tryz.f70) (argsT S70 L70 g) [] (settle0 K) X:=by kernel_rfl
theorem F70_ok (g:prodL L70) (K X:Kn) (h:F70 g K):FCalls Tryz.prog 70 (argsT S70 L70 g) [] K X:=
 FCalls.settle0 (qq (Γ:=qQ [(118,yj),(118,jX)] [(119,false,wG),(120,false,sp120),(121,false,j7),(122,true,sp122),(160,false,Km),(161,false,VH),(164,false,VV),(165,false,Ve),(166,false,VE),(168,false,VB),(169,false,V4)]) (mu:=qw [(118,yj),(118,jX)]) (H:=H70) (J:=J70) qh (qX (rs:=[(118,yj),(118,jX)]) (l:=[(119,false,wG),(120,false,sp120),(121,false,j7),(122,true,sp122),(160,false,Km),(161,false,VH),(164,false,VV),(165,false,Ve),(166,false,VE),(168,false,VB),(169,false,V4)]) (by intro p hp;simp only [List.mem_cons,List.not_mem_nil,or_false] at hp;rcases hp with rfl | rfl<;>first | exact rw118_ok | exact Zl) (by intro p hp;simp only [List.mem_cons,List.not_mem_nil,or_false] at hp;rcases hp with rfl | rfl | rfl | rfl | rfl | rfl | rfl | rfl | rfl | rfl | rfl<;>first | exact yV | exact sp120_ok | exact Qn | exact sp122_ok | exact sp160_ok | exact sp161_ok | exact sp164_ok | exact sp165_ok | exact sp166_ok | exact sp168_ok | exact sp169_ok)) qx rfl Tryz.func70 (c:=qz Tryz.f70) rfl Tryz.ntmps70 Tryz.results70 (by unfold qk;rw [Tryz.func70];kernel_rfl) (Nat.le_of_ble_eq_true (by kernel_rfl)) (c0:=0) (Eq.mp (F70_eq g K X) h))
end Go.Proofs.YtbglndogddddoaaGreatDoor
namespace Go.Proofs.YtbglndogddddoaaGreatDoor
open Go.RowKit
set_option maxRecDepth 100000
def paP (a m:ByteArray) (t:Int) (ds:List Dig) (cs:List Chg):Prop:=
 j6 t/\a.size<=4194304/\m.size<=4194304/\ds.length<=4194304/\(cs.map qf).sum<=4194304/\ ∀c∈cs,chW c/\jJ c
theorem ZJ {cs:List Chg} (h:(cs.map qf).sum<=4194304) {c:Chg} (hc:c∈cs):ZS c:=Nat.le_trans (Qz qf hc) h
theorem Q8 {cs:List Chg} (h:(cs.map qf).sum<=4194304):cs.length<=40000:=by
 have:=vY qf 135 cs fun c _=>by unfold qf;omega
 omega
theorem kind_int {c:Chg} (h:jJ c):j6 c.kind:=⟨by have:=h.1;omega,by have:=h.2;omega⟩
theorem bk_chs: ∀{cs:List Chg},(∀c∈cs,ZS c/\chW c/\jJ c)->zl (cs.map chX)<=5*(cs.map qf).sum+300*cs.length
 | [],_=>by simp [zl]
 | c::cs,h=>by
  obtain ⟨h1,h2,h3⟩:=h c (List.mem_cons_self ..)
  have:=bk_chX h1 h2 (kind_int h3)
  have:=bk_chs fun c hc=>h c (List.mem_cons_of_mem _ hc)
  simp only [List.map_cons,zl,List.sum_cons,List.length_cons]
  omega
theorem bk_patX {a m:ByteArray} {t:Int} {ds:List Dig} {cs:List Chg} (hp:paP a m t ds cs) (f:Dig->Sx) (hf: ∀d,vk (f d)<=35):vk (jV a m t (ds.map f) cs)<=lim:=by
 obtain ⟨h1,h2,h3,h4,h5,h6⟩:=hp
 have e1:=bk_chs fun c hc=>⟨ZJ h5 hc,h6 c hc⟩
 have e2:=Q8 h5
 have e3:=XQ f 35 ds fun d _=>hf d
 have e4:=QI h1
 have e5:Xe.size=6:=rfl
 have e6:lim=1073741824:=rfl
 unfold jV
 rw [vR]
 simp only [zl,yb,vR,e5]
 omega
theorem kb {w:Sx} {l:List Sx} (J:List Sx->Prop) (hl:l.length<=4294967295) (h:J (w::l)):bif decide (l.length=0)then J [w] else xM (0<l.length) (qG ([w].length+l.length) 48 (J ([w]++l))):=by
 by_cases e:l.length=0
 . rw [decide_eq_true e,cond_true]
   rwa [List.length_eq_zero_iff.1 e] at h
 . rw [decide_eq_false e,cond_false]
   exact ⟨by omega,by simp only [List.length_singleton];omega,h⟩
theorem F70_L16_is {a m:ByteArray} {t:Int} {ds:List Dig} {cs:List Chg} {K:Kn} {D:List Sx} (hp:paP a m t ds cs)
  (h:We K a m t ds cs true ⟨#[]⟩ D true ⟨#[]⟩ (cs.map chX)):YD K (cs,(cs.length:Int),0,a,m,t,ds,cs,true,⟨#[]⟩,true,⟨#[]⟩,D,[],()):=by
 obtain ⟨h1,h2,h3,h4,h5,h6⟩:=hp
 have hl:=Q8 h5
 unfold YD
 refine qZ.map cs chX (fun n out=>(cs,(cs.length:Int),n,a,m,t,ds,cs,true,⟨#[]⟩,true,⟨#[]⟩,D,out,())) (by omega) rfl (fun W n hn out ho hW=> ?_) fun W=> ?_
 . show Qu K W cs cs.length n a m t ds cs true ⟨#[]⟩ true ⟨#[]⟩ D out
   unfold Qu
   rw [qH hn,cond_true]
   have hm:=List.getElem_mem hn
   have hc:=ZJ h5 hm
   obtain ⟨hw,hk⟩:=h6 _ hm
   refine qM hn ⟨kind_int hk, ?_⟩
   simp only [vq]
   have hfl: ∀k,(zm k cs[n]).length<=4294967295:=fun k=>by unfold zm;split<;>simp
   have hJ: ∀l,zE cs[n].kind::zm cs[n].kind.toNat cs[n]=l->qL K W cs cs.length n a m t ds cs true ⟨#[]⟩ true ⟨#[]⟩ true ⟨#[]⟩ l D out:=by
    rintro l rfl
    unfold qL
    exact ⟨by simp only [List.length_singleton,ho];omega,hW⟩
   generalize cs[n]=u at hm hc hw hk hW hfl hJ ⊢
   obtain ⟨kind,file,typ,parent,name,mode,data,after,before,lines,over⟩:=u
   have hk1:(1:Int)<=kind/\kind<=7:=hk
   have:kind=1∨kind=2∨kind=3∨kind=4∨kind=5∨kind=6∨kind=7:=by omega
   rcases this with rfl | rfl | rfl | rfl | rfl | rfl | rfl
   . exact ⟨⟨hc,hw⟩,kb (fun l=>qL K W cs cs.length n a m t ds cs true ⟨#[]⟩ true ⟨#[]⟩ true ⟨#[]⟩ l D out) (hfl 1) (hJ _ rfl)⟩
   . show VH.pre _/\_
     exact ⟨⟨hc,hw⟩,kb (fun l=>qL K W cs cs.length n a m t ds cs true ⟨#[]⟩ true ⟨#[]⟩ true ⟨#[]⟩ l D out) (hfl 2) (hJ _ rfl)⟩
   . show VV.pre _/\_
     exact ⟨⟨hc,hw⟩,kb (fun l=>qL K W cs cs.length n a m t ds cs true ⟨#[]⟩ true ⟨#[]⟩ true ⟨#[]⟩ l D out) (hfl 3) (hJ _ rfl)⟩
   . show Ve.pre _/\_
     exact ⟨⟨hc,hw⟩,kb (fun l=>qL K W cs cs.length n a m t ds cs true ⟨#[]⟩ true ⟨#[]⟩ true ⟨#[]⟩ l D out) (hfl 4) (hJ _ rfl)⟩
   . show VE.pre _/\_
     exact ⟨⟨hc,hw⟩,kb (fun l=>qL K W cs cs.length n a m t ds cs true ⟨#[]⟩ true ⟨#[]⟩ true ⟨#[]⟩ l D out) (hfl 5) (hJ _ rfl)⟩
   . show VB.pre _/\_
     exact ⟨⟨hc,hw⟩,kb (fun l=>qL K W cs cs.length n a m t ds cs true ⟨#[]⟩ true ⟨#[]⟩ true ⟨#[]⟩ l D out) (hfl 6) (hJ _ rfl)⟩
   . show V4.pre _/\_
     exact ⟨⟨hc,hw⟩,kb (fun l=>qL K W cs cs.length n a m t ds cs true ⟨#[]⟩ true ⟨#[]⟩ true ⟨#[]⟩ l D out) (hfl 7) (hJ _ rfl)⟩
 . show Qu K W cs cs.length cs.length a m t ds cs true ⟨#[]⟩ true ⟨#[]⟩ D (cs.map chX)
   unfold Qu
   rw [qt,cond_false];exact h
def jA (ds:List Dig):List Sx:=ds.map fun d=>qp (YX d)
theorem F70_is {a m:ByteArray} {t:Int} {ds:List Dig} {cs:List Chg} {K:Kn} (hp:paP a m t ds cs) (h:K (.tu [.str (wL (jV a m t (jA ds) cs)).1, .int .i64 (wL (jV a m t (jA ds) cs)).2]) []):F70 (a,m,t,ds,cs,()) K:=by
 have hl:=hp.2.2.2.1
 unfold F70
 show F70_L7 K _
 unfold F70_L7
 refine qZ.map ds (fun d=>qp (YX d)) (fun n out=>(ds,(ds.length:Int),n,a,m,t,ds,cs,true,⟨#[]⟩,true,⟨#[]⟩,out,())) (by omega) rfl (fun W n hn out ho hW=> ?_) fun W=> ?_
 . show JP K W ds ds.length n a m t ds cs true ⟨#[]⟩ true ⟨#[]⟩ out
   unfold JP
   rw [qH hn,cond_true]
   exact qM hn ⟨trivial,by simp only [List.length_singleton,ho];omega,hW⟩
 . show JP K W ds ds.length ds.length a m t ds cs true ⟨#[]⟩ true ⟨#[]⟩ (ds.map fun d=>qp (YX d))
   unfold JP
   rw [qt,cond_false]
   refine ⟨trivial,F70_L16_is hp ?_⟩
   unfold We
   simp only [vq]
   exact ⟨trivial,trivial,trivial,hp.1,⟨bk_patX hp (fun d=>qp (YX d)) fun d=>by rw [yb,VF];omega,encode_ok⟩,h⟩
def sp70:Sp:=⟨S70,L70,fun g=>paP g.1 g.2.1 g.2.2.1 g.2.2.2.1 g.2.2.2.2.1,fun g=> .tu [.str (wL (jV g.1 g.2.1 g.2.2.1 (jA g.2.2.2.1) g.2.2.2.2.1)).1, .int .i64 (wL (jV g.1 g.2.1 g.2.2.1 (jA g.2.2.2.1) g.2.2.2.2.1)).2],fun _=>none⟩
theorem sp70_ok:sp70.Ok Tryz.prog 70 true:=
 ⟨fun g K X hp h=>F70_ok g K X (F70_is hp h),fun _ _ _=>rfl,fun _=>rfl,fun _ _=>⟨rfl,rfl⟩⟩
set_option maxRecDepth 100000
def overK (k:Int):Int:=match va .ment (.int .i64 k) (wH .ment (.int .i64 6) ((⟨6,6⟩:Ment):Ment) (wH .ment (.int .i64 4) ((⟨4,4⟩:Ment):Ment) (wH .ment (.int .i64 3) ((⟨3,3⟩:Ment):Ment) (wH .ment (.int .i64 2) ((⟨2,2⟩:Ment):Ment) ([]:List Ment)))))with | some x=>x.val | none=>0
def qqV (x:Atm):Bool:=bif decide (x.kind=1)then (bif decide (x.typ=2)then true else decide (x.typ=3))else false
def fitTx (x:Atm):Bool:=bif decide (x.kind=1)then decide (x.typ=1)else false
def KH (x:Atm):Bool:=bif decide (x.kind=1)then decide (x.typ=4)else false
def KC (x:Atm) (c:Chg):Bool:=bif zy x.id c.file then true else bif decide (x.kind=5)then zy x.file c.file else false
def Y3 (x:Atm) (c:Chg):Bool:=bif decide (c.kind=7)then true else bif decide (x.kind=overK c.kind)then zy x.file c.file else false
def fitFd:Fd->Atm->Bool
 | .file,x=>decide (x.kind=1)
 | .data,x=>qqV x
 | .txt,x=>fitTx x
 | .dir,x=>KH x
 | .fin c,x=>KC x c
 | .sup c,x=>Y3 x c
def supL (c:Chg):List Rfn:=c.over.map fun x=>⟨x,Fd.sup c⟩
def rL17 (c:Chg) (t:Bool) (out:List Rfn):List Rfn:=bif t then (out++[⟨c.after,Fd.fin c⟩])++[⟨c.before,Fd.fin c⟩]++supL c else out++supL c
def rL24 (c:Chg) (out:List Rfn):List Rfn:=rL17 c (bif decide (c.kind=5)then true else decide (c.kind=6)) out
def rL12 (c:Chg) (t:Bool) (out:List Rfn):List Rfn:=bif t then rL24 c (out++[⟨c.parent,Fd.dir⟩])else rL24 c out
def rL25 (c:Chg) (out:List Rfn):List Rfn:=rL12 c (bif decide (c.kind=2)then !(zy c.parent ⟨dz, -1⟩)else false) out
def rL7 (c:Chg) (t:Bool):List Rfn:=bif t then rL25 c [⟨c.file,Fd.txt⟩] else rL25 c []
def rL8 (c:Chg) (k:Int) (t:Bool):List Rfn:=bif t then rL25 c [⟨c.file,Fd.file⟩] else bif decide (k=4)then rL25 c [⟨c.file,Fd.data⟩] else rL7 c (bif decide (k=5)then true else decide (k=6))
def zR (c:Chg):List Rfn:=rL8 c c.kind (bif decide (c.kind=2)then true else decide (c.kind=3))
def refE (own:List Atm) (r:Rfn):Int:=
 bif (bif decide (r.id.n<0)then true else bif (bif y7 r.id then decide ((own.length:Int)<=r.id.n)else false)then true else decide (100000<=r.id.n))then 7 else
 bif (bif y7 r.id then !(fitFd r.fits (own.getD r.id.n.toNat az))else false)then 8 else 0
def Jy (t:Bool) (c:Chg):Int:=bif (bif t then true else bif decide (c.kind=5)then (bif zy c.after c.before then !(zy c.after c.file)else false)else false)then 1 else 0
def JY (t:Bool) (c:Chg):Int:=bif t then 20 else Jy (bif decide (c.kind=6)then zy c.after c.before else false) c
def lastP (c:Chg):Int:=JY (bif decide (c.kind=2)then zy c.parent c.file else false) c
def QE (c:Chg) (own:List Atm):Int:=bif !decide (errs ((zR c).map (refE own))=0)then errs ((zR c).map (refE own))else lastP c
def yI (n:Int):Idn:=⟨dz,n⟩
def lnA (c:Chg) (n:Int) (s:ByteArray):Atm:=⟨yI n,5,c.file,0,iz,⟨#[]⟩,0,⟨#[]⟩,s,iz,iz,[]⟩
def egA (c:Chg) (n:Int) (f t:Idn):Atm:=⟨yI n,6,c.file,0,iz,⟨#[]⟩,0,⟨#[]⟩,⟨#[]⟩,f,t,[]⟩
def lnI (c:Chg) (n:Int) (i:Nat):Atm:=lnA c (n+i) (c.lines.getD i ⟨#[]⟩)
def YL (c:Chg) (n:Int) (i:Nat):Idn:=bif decide (i<c.lines.length)then yI (n+i)else c.before
def frmI (c:Chg) (n:Int):Nat->Idn
 | 0=>c.after
 | i+1=>yI (n+i)
def egI (c:Chg) (n:Int) (i:Nat):Atm:=egA c (n+c.lines.length+i) (frmI c n i) (YL c n i)
def Qo (c:Chg) (n:Int):List Atm:=(List.range c.lines.length).map (lnI c n)
def egsL (c:Chg) (n:Int):List Atm:=(List.range (c.lines.length+1)).map (egI c n)
def madK (k:Nat) (c:Chg) (n:Int):List Atm:=match k with
 | 1=>[⟨yI n,1,yI n,c.typ,iz,⟨#[]⟩,0,⟨#[]⟩,⟨#[]⟩,iz,iz,[]⟩]
 | 2=>[⟨yI n,2,c.file,0,c.parent,c.name,0,⟨#[]⟩,⟨#[]⟩,iz,iz,c.over⟩]
 | 3=>[⟨yI n,3,c.file,0,iz,⟨#[]⟩,c.mode,⟨#[]⟩,⟨#[]⟩,iz,iz,c.over⟩]
 | 4=>[⟨yI n,4,c.file,0,iz,⟨#[]⟩,0,c.data,⟨#[]⟩,iz,iz,c.over⟩]
 | 5=>Qo c n++egsL c n
 | 6=>[⟨yI n,6,c.file,0,iz,⟨#[]⟩,0,⟨#[]⟩,⟨#[]⟩,c.after,c.before,c.over⟩]
 | 7=>[⟨yI n,7,iz,0,iz,⟨#[]⟩,0,⟨#[]⟩,⟨#[]⟩,iz,iz,c.over⟩]
 | _=>[]
def jZ (c:Chg) (n:Int):List Atm:=madK c.kind.toNat c n
theorem Za {c:Chg} {n:Int} (hk:jJ c):(jZ c n).length=if c.kind=5 then 2*c.lines.length+1 else 1:=by
 obtain ⟨kind,file,typ,parent,name,mode,data,after,before,lines,over⟩:=c
 have hk1:(1:Int)<=kind/\kind<=7:=hk
 have:kind=1∨kind=2∨kind=3∨kind=4∨kind=5∨kind=6∨kind=7:=by omega
 rcases this with rfl | rfl | rfl | rfl | rfl | rfl | rfl<;>try rfl
 show (Qo _ n++egsL _ n).length=_
 simp [Qo,egsL]
 omega
theorem madeL_le {c:Chg} {n:Int} (hk:jJ c):(jZ c n).length<=2*qf c:=by
 rw [Za hk]
 have:=vY zt 1 c.lines fun x _=>by unfold zt;omega
 unfold qf
 split<;>omega
def preM (c:Chg) (n:Int):Prop:=jJ c/\c.lines.length<=4194304/\0<=n/\n<=1099511627776
def pre84 (g:prodL [.pr .i64, .pr .chg, .sl .atm]):Prop:=preM g.2.1 g.1/\g.2.2.1.length<=16777216
def pre84b (g:prodL [.pr .i64, .pr .chg, .int .i64]):Prop:=preM g.2.1 g.1/\0<=g.2.2.1/\g.2.2.1<=1099511627776
def xO (f:Chg->Int) (r:Chg->List Atm->Int):List Chg->List Atm->List Atm×Int
 | [],own=>(own,0)
 | c::l,own=>bif !decide (f c=0)then ([],f c)else bif !decide (r c own=0)then ([],r c own)else xO f r l (own++jZ c own.length)
def yP (cs:List Chg):List Atm×Int:=xO jH QE cs []
def exP5 (l:List Atm) (s:ByteArray) (t:Bool):List Atm×ByteArray×Int:=bif t then ([],⟨#[]⟩,4)else (l,s,0)
def kM (r:List Atm×Int) (x:ByteArray×Int):List Atm×ByteArray×Int:=
 bif !decide (r.2=0)then ([],⟨#[]⟩,r.2)else exP5 r.1 x.1 (bif !decide (x.2=0)then true else decide (65536< (x.1.size:Int)))
def jQ (a m:ByteArray) (t:Int) (ds:List Dig) (cs:List Chg):List Atm×ByteArray×Int:=
 bif !decide (xG zD a m t ds cs=0)then ([],⟨#[]⟩,xG zD a m t ds cs)else kM (yP cs) (wL (jV a m t (jA ds) cs))
def xP (a m:ByteArray) (t:Int) (ds:List Dig) (cs:List Chg):Prop:=
 j6 t/\a.size<=4194304/\m.size<=4194304/\ds.length<=4194304/\(cs.map qf).sum<=4194304/\ ∀c∈cs,chW c
theorem zC {c:Chg} (h:jH c=0):jJ c:=by
 unfold jH fP10 at h
 by_cases h1:c.kind<1
 . rw [decide_eq_true h1,cond_true,cond_true] at h;cases h
 . rw [decide_eq_false h1,cond_false] at h
   by_cases h2:7<c.kind
   . rw [decide_eq_true h2,cond_true] at h;cases h
   . exact ⟨by omega,by omega⟩
theorem qZ.mapN {β γ:Type} {body:(γ->Prop)->γ->Prop} {g:γ} (N:Nat) (f:Nat->β) (S:Nat->List β->γ) (hg:g=S 0 [])
  (step: ∀(W:γ->Prop) (n:Nat),n<N-> ∀out:List β,out.length=n->W (S (n+1) (out++[f n]))->body W (S n out))
  (last: ∀W:γ->Prop,body W (S N ((List.range N).map f))):qZ body g:=by
 refine qZ.countTo N (fun n=>S n ((List.range n).map f)) (fun _=>True) hg (fun n hn _ W hW=> ?_) trivial
 by_cases hlt:n<N
 . refine step W n hlt _ (by simp) ?_
   have:=hW hlt trivial
   rwa [List.range_succ,List.map_append] at this
 . have:n=N:=by omega
   subst this
   exact last W
end Go.Proofs.YtbglndogddddoaaGreatDoor
namespace Go.Proofs.YtbglndogddddoaaGreatDoor
open Go.RowKit
attribute [local irreducible] qJ qd
set_option maxRecDepth 100000
def H95:List (Nat×Hint):=[]
def J95:List (Nat×Hint):=[]
abbrev S95:List Sh:=[.leaf]
abbrev L95:List Lf:=[.int .i64]
def F95 (g:prodL L95) (K:Kn):Prop:=
 K (.int .i64 (match va .ment (.int .i64 g.1) (wH .ment (.int .i64 6) ((⟨6,6⟩:Ment):Ment) (wH .ment (.int .i64 4) ((⟨4,4⟩:Ment):Ment) (wH .ment (.int .i64 3) ((⟨3,3⟩:Ment):Ment) (wH .ment (.int .i64 2) ((⟨2,2⟩:Ment):Ment) ([]:List Ment)))))with | some x=>x.val | none=>0)) []
theorem F95_eq (g:prodL L95) (K X:Kn):F95 g K=qJ D (qQ [] []) (qw []) H95 J95 7 [.tmp 2] (qz Tryz.f95) (argsT S95 L95 g) [] (settle0 K) X:=by kernel_rfl
theorem F95_ok (g:prodL L95) (K X:Kn) (h:F95 g K):FCalls Tryz.prog 95 (argsT S95 L95 g) [] K X:=
 FCalls.settle0 (qq qh (wQ wZ) qx rfl Tryz.func95 (c:=qz Tryz.f95) rfl Tryz.ntmps95 Tryz.results95 (by unfold qk;rw [Tryz.func95];kernel_rfl) (Nat.le_of_ble_eq_true (by kernel_rfl)) (c0:=0) (Eq.mp (F95_eq g K X) h))
def sp95:Sp:=⟨S95,L95,fun _=>True,fun g=> .int .i64 (overK g.1),fun _=>none⟩
theorem sp95_ok:sp95.Ok Tryz.prog 95 true:=
 ⟨fun g K X hp h=>F95_ok g K X h,fun _ _ _=>rfl,fun _=>rfl,by first | exact fun _ _=>⟨rfl,rfl⟩ | (intro h;cases h)⟩
def H89:List (Nat×Hint):=[]
def J89:List (Nat×Hint):=[]
abbrev S89:List Sh:=[.leaf]
abbrev L89:List Lf:=[.el .atm]
def F89 (g:prodL L89) (K:Kn):Prop:=
 K (.bool (decide (g.1.kind=1))) []
theorem F89_eq (g:prodL L89) (K X:Kn):F89 g K=qJ D (qQ [] []) (qw []) H89 J89 6 [.tmp 2] (qz Tryz.f89) (argsT S89 L89 g) [] (settle0 K) X:=by kernel_rfl
theorem F89_ok (g:prodL L89) (K X:Kn) (h:F89 g K):FCalls Tryz.prog 89 (argsT S89 L89 g) [] K X:=
 FCalls.settle0 (qq qh (wQ wZ) qx rfl Tryz.func89 (c:=qz Tryz.f89) rfl Tryz.ntmps89 Tryz.results89 (by unfold qk;rw [Tryz.func89];kernel_rfl) (Nat.le_of_ble_eq_true (by kernel_rfl)) (c0:=0) (Eq.mp (F89_eq g K X) h))
def sp89:Sp:=⟨S89,L89,fun _=>True,fun g=> .bool (decide (g.1.kind=1)),fun _=>none⟩
theorem sp89_ok:sp89.Ok Tryz.prog 89 false:=
 ⟨fun g K X hp h=>F89_ok g K X h,fun _ _ _=>rfl,fun _=>rfl,by first | exact fun _ _=>⟨rfl,rfl⟩ | (intro h;cases h)⟩
def H90:List (Nat×Hint):=[]
def J90:List (Nat×Hint):=[]
abbrev S90:List Sh:=[.leaf]
abbrev L90:List Lf:=[.el .atm]
def F90 (g:prodL L90) (K:Kn):Prop:=
 bif decide (g.1.kind=1)then (
  bif decide (g.1.typ=2)then (
   K (.bool true) [])
  else (
   K (.bool (decide (g.1.typ=3))) []))
 else (
  K (.bool false) [])
theorem F90_eq (g:prodL L90) (K X:Kn):F90 g K=qJ D (qQ [] []) (qw []) H90 J90 16 [.tmp 2] (qz Tryz.f90) (argsT S90 L90 g) [] (settle0 K) X:=by kernel_rfl
theorem F90_ok (g:prodL L90) (K X:Kn) (h:F90 g K):FCalls Tryz.prog 90 (argsT S90 L90 g) [] K X:=
 FCalls.settle0 (qq qh (wQ wZ) qx rfl Tryz.func90 (c:=qz Tryz.f90) rfl Tryz.ntmps90 Tryz.results90 (by unfold qk;rw [Tryz.func90];kernel_rfl) (Nat.le_of_ble_eq_true (by kernel_rfl)) (c0:=0) (Eq.mp (F90_eq g K X) h))
def sp90:Sp:=⟨S90,L90,fun _=>True,fun g=> .bool (qqV g.1),fun _=>none⟩
theorem sp90_ok:sp90.Ok Tryz.prog 90 true:=
 ⟨fun g K X hp h=>F90_ok g K X (by
  have h:K (.bool (qqV g.1)) []:=h
  revert h;unfold F90 qqV;show (fun v=>K (.bool v) []) _->_
  repeat' (first | exact id | refine ju (K:=fun v=>K (.bool v) []) ?_ ?_ | (intro h;refine ⟨trivial, ?_⟩;revert h))),fun _ _ _=>rfl,fun _=>rfl,by first | exact fun _ _=>⟨rfl,rfl⟩ | (intro h;cases h)⟩
def H91:List (Nat×Hint):=[]
def J91:List (Nat×Hint):=[]
abbrev S91:List Sh:=[.leaf]
abbrev L91:List Lf:=[.el .atm]
def F91 (g:prodL L91) (K:Kn):Prop:=
 bif decide (g.1.kind=1)then (
  K (.bool (decide (g.1.typ=1))) [])
 else (
  K (.bool false) [])
theorem F91_eq (g:prodL L91) (K X:Kn):F91 g K=qJ D (qQ [] []) (qw []) H91 J91 11 [.tmp 2] (qz Tryz.f91) (argsT S91 L91 g) [] (settle0 K) X:=by kernel_rfl
theorem F91_ok (g:prodL L91) (K X:Kn) (h:F91 g K):FCalls Tryz.prog 91 (argsT S91 L91 g) [] K X:=
 FCalls.settle0 (qq qh (wQ wZ) qx rfl Tryz.func91 (c:=qz Tryz.f91) rfl Tryz.ntmps91 Tryz.results91 (by unfold qk;rw [Tryz.func91];kernel_rfl) (Nat.le_of_ble_eq_true (by kernel_rfl)) (c0:=0) (Eq.mp (F91_eq g K X) h))
def sp91:Sp:=⟨S91,L91,fun _=>True,fun g=> .bool (fitTx g.1),fun _=>none⟩
theorem sp91_ok:sp91.Ok Tryz.prog 91 true:=
 ⟨fun g K X hp h=>F91_ok g K X (by
  have h:K (.bool (fitTx g.1)) []:=h
  revert h;unfold F91 fitTx;show (fun v=>K (.bool v) []) _->_
  repeat' (first | exact id | refine ju (K:=fun v=>K (.bool v) []) ?_ ?_ | (intro h;refine ⟨trivial, ?_⟩;revert h))),fun _ _ _=>rfl,fun _=>rfl,by first | exact fun _ _=>⟨rfl,rfl⟩ | (intro h;cases h)⟩
def H92:List (Nat×Hint):=[]
def J92:List (Nat×Hint):=[]
abbrev S92:List Sh:=[.leaf]
abbrev L92:List Lf:=[.el .atm]
def F92 (g:prodL L92) (K:Kn):Prop:=
 bif decide (g.1.kind=1)then (
  K (.bool (decide (g.1.typ=4))) [])
 else (
  K (.bool false) [])
theorem F92_eq (g:prodL L92) (K X:Kn):F92 g K=qJ D (qQ [] []) (qw []) H92 J92 11 [.tmp 2] (qz Tryz.f92) (argsT S92 L92 g) [] (settle0 K) X:=by kernel_rfl
theorem F92_ok (g:prodL L92) (K X:Kn) (h:F92 g K):FCalls Tryz.prog 92 (argsT S92 L92 g) [] K X:=
 FCalls.settle0 (qq qh (wQ wZ) qx rfl Tryz.func92 (c:=qz Tryz.f92) rfl Tryz.ntmps92 Tryz.results92 (by unfold qk;rw [Tryz.func92];kernel_rfl) (Nat.le_of_ble_eq_true (by kernel_rfl)) (c0:=0) (Eq.mp (F92_eq g K X) h))
def sp92:Sp:=⟨S92,L92,fun _=>True,fun g=> .bool (KH g.1),fun _=>none⟩
theorem sp92_ok:sp92.Ok Tryz.prog 92 true:=
 ⟨fun g K X hp h=>F92_ok g K X (by
  have h:K (.bool (KH g.1)) []:=h
  revert h;unfold F92 KH;show (fun v=>K (.bool v) []) _->_
  repeat' (first | exact id | refine ju (K:=fun v=>K (.bool v) []) ?_ ?_ | (intro h;refine ⟨trivial, ?_⟩;revert h))),fun _ _ _=>rfl,fun _=>rfl,by first | exact fun _ _=>⟨rfl,rfl⟩ | (intro h;cases h)⟩
def H93:List (Nat×Hint):=[]
def J93:List (Nat×Hint):=[]
abbrev S93:List Sh:=[.leaf, .leaf]
abbrev L93:List Lf:=[.el .atm, .pr .chg]
def F93 (g:prodL L93) (K:Kn):Prop:=
 bif zy g.1.id g.2.1.file then (
  K (.bool true) [])
 else (
  bif decide (g.1.kind=5)then (
   K (.bool (zy g.1.file g.2.1.file)) [])
  else (
   K (.bool false) []))
theorem F93_eq (g:prodL L93) (K X:Kn):F93 g K=qJ D (qQ [] []) (qw []) H93 J93 21 [.tmp 3] (qz Tryz.f93) (argsT S93 L93 g) [] (settle0 K) X:=by kernel_rfl
theorem F93_ok (g:prodL L93) (K X:Kn) (h:F93 g K):FCalls Tryz.prog 93 (argsT S93 L93 g) [] K X:=
 FCalls.settle0 (qq qh (wQ wZ) qx rfl Tryz.func93 (c:=qz Tryz.f93) rfl Tryz.ntmps93 Tryz.results93 (by unfold qk;rw [Tryz.func93];kernel_rfl) (Nat.le_of_ble_eq_true (by kernel_rfl)) (c0:=0) (Eq.mp (F93_eq g K X) h))
def sp93:Sp:=⟨S93,L93,fun _=>True,fun g=> .bool (KC g.1 g.2.1),fun _=>none⟩
theorem sp93_ok:sp93.Ok Tryz.prog 93 true:=
 ⟨fun g K X hp h=>F93_ok g K X (by
  have h:K (.bool (KC g.1 g.2.1)) []:=h
  revert h;unfold F93 KC;show (fun v=>K (.bool v) []) _->_
  repeat' (first | exact id | refine ju (K:=fun v=>K (.bool v) []) ?_ ?_ | (intro h;refine ⟨trivial, ?_⟩;revert h))),fun _ _ _=>rfl,fun _=>rfl,by first | exact fun _ _=>⟨rfl,rfl⟩ | (intro h;cases h)⟩
def H94:List (Nat×Hint):=[]
def J94:List (Nat×Hint):=[]
abbrev S94:List Sh:=[.leaf, .leaf]
abbrev L94:List Lf:=[.el .atm, .pr .chg]
def F94 (g:prodL L94) (K:Kn):Prop:=
 bif decide (g.2.1.kind=7)then (
  K (.bool true) [])
 else (
  True/\
  bif decide (g.1.kind=overK g.2.1.kind)then (
   K (.bool (zy g.1.file g.2.1.file)) [])
  else (
   K (.bool false) []))
theorem F94_eq (g:prodL L94) (K X:Kn):F94 g K=qJ D (qQ [] [(95,true,sp95)]) (qw []) H94 J94 22 [.tmp 3] (qz Tryz.f94) (argsT S94 L94 g) [] (settle0 K) X:=by kernel_rfl
theorem F94_ok (g:prodL L94) (K X:Kn) (h:F94 g K):FCalls Tryz.prog 94 (argsT S94 L94 g) [] K X:=
 FCalls.settle0 (qq (Γ:=qQ [] [(95,true,sp95)]) (mu:=qw []) (H:=H94) (J:=J94) qh (qX (rs:=[]) (l:=[(95,true,sp95)]) (fun p hp=>by cases hp) (by intro p hp;simp only [List.mem_cons,List.not_mem_nil,or_false] at hp;subst hp;exact sp95_ok)) qx rfl Tryz.func94 (c:=qz Tryz.f94) rfl Tryz.ntmps94 Tryz.results94 (by unfold qk;rw [Tryz.func94];kernel_rfl) (Nat.le_of_ble_eq_true (by kernel_rfl)) (c0:=0) (Eq.mp (F94_eq g K X) h))
def sp94:Sp:=⟨S94,L94,fun _=>True,fun g=> .bool (Y3 g.1 g.2.1),fun _=>none⟩
theorem sp94_ok:sp94.Ok Tryz.prog 94 true:=
 ⟨fun g K X hp h=>F94_ok g K X (by
  have h:K (.bool (Y3 g.1 g.2.1)) []:=h
  revert h;unfold F94 Y3;show (fun v=>K (.bool v) []) _->_
  repeat' (first | exact id | refine ju (K:=fun v=>K (.bool v) []) ?_ ?_ | (intro h;refine ⟨trivial, ?_⟩;revert h))),fun _ _ _=>rfl,fun _=>rfl,by first | exact fun _ _=>⟨rfl,rfl⟩ | (intro h;cases h)⟩
def H88:List (Nat×Hint):=[]
def J88:List (Nat×Hint):=[]
abbrev S88:List Sh:=[.leaf, .leaf, .pt 0 0]
abbrev L88:List Lf:=[.el .idk, .fd, .sl .ref]
abbrev O88:List ObSh:=[.cells [.oa .ref 1], .arr .ref]
def F88 (g:prodL L88) (K:Kn):Prop:=
 qG (g.2.2.1.length+[(⟨g.1,g.2.1⟩:Rfn)].length) 48 (
 K (.tu []) [some (.cells [.oa .ref 1 0]),some (.arr 0 .ref (g.2.2.1++[(⟨g.1,g.2.1⟩:Rfn)]))])
theorem F88_eq (g:prodL L88) (K X:Kn):F88 g K=qJ D (qQ [] []) (qw []) H88 J88 11 [] (qz Tryz.f88) (argsT S88 L88 g) (qa S88 O88 L88 g) (settleD (qa S88 O88 L88 g).length 0 K) X 0:=by kernel_rfl
theorem F88_ok (g:prodL L88) (K X:Kn) (h:F88 g K):FCalls Tryz.prog 88 (argsT S88 L88 g) (qa S88 O88 L88 g) K X 0:=
 FCalls.settleD (qq (Γ:=qQ [] []) (mu:=qw []) (H:=H88) (J:=J88) qh (wQ wZ) qx rfl Tryz.func88 (c:=qz Tryz.f88) rfl Tryz.ntmps88 (rs:=[]) Tryz.results88 (by unfold qk;rw [Tryz.func88];kernel_rfl) (Nat.le_of_ble_eq_true (by kernel_rfl)) (X:=X) (c0:=0) (Eq.mp (F88_eq g K X) h))
def rw88:Raw:=⟨S88,O88,L88,0,fun g K _=>F88 g K⟩
theorem rw88_ok:rw88.Ok Tryz.prog 88:=fun g K X h=>F88_ok g K X h
def H88n:List (Nat×Hint):=[]
def J88n:List (Nat×Hint):=[]
abbrev S88n:List Sh:=[.leaf, .leaf, .pt 0 0]
abbrev Wi:List Lf:=[.el .idk, .fd]
abbrev O88n:List ObSh:=[.cells [.nil]]
def F88n (g:prodL Wi) (K:Kn):Prop:=
 qG ([(⟨g.1,g.2.1⟩:Rfn)].length) 48 (
 K (.tu []) [some (.cells [.oa .ref 1 0]),some (.arr 0 .ref [(⟨g.1,g.2.1⟩:Rfn)])])
theorem F88n_eq (g:prodL Wi) (K X:Kn):F88n g K=qJ D (qQ [] []) (qw []) H88n J88n 11 [] (qz Tryz.f88) (argsT S88n Wi g) (qa S88n O88n Wi g) (settleD (qa S88n O88n Wi g).length 0 K) X 0:=by kernel_rfl
theorem F88n_ok (g:prodL Wi) (K X:Kn) (h:F88n g K):FCalls Tryz.prog 88 (argsT S88n Wi g) (qa S88n O88n Wi g) K X 0:=
 FCalls.settleD (qq (Γ:=qQ [] []) (mu:=qw []) (H:=H88n) (J:=J88n) qh (wQ wZ) qx rfl Tryz.func88 (c:=qz Tryz.f88) rfl Tryz.ntmps88 (rs:=[]) Tryz.results88 (by unfold qk;rw [Tryz.func88];kernel_rfl) (Nat.le_of_ble_eq_true (by kernel_rfl)) (X:=X) (c0:=0) (Eq.mp (F88n_eq g K X) h))
def Vc:Raw:=⟨S88n,O88n,Wi,0,fun g K _=>F88n g K⟩
theorem rw88n_ok:Vc.Ok Tryz.prog 88:=fun g K X h=>F88n_ok g K X h
def H43:List (Nat×Hint):=[]
def J43:List (Nat×Hint):=[]
abbrev S43:List Sh:=[.leaf, .leaf]
abbrev L43:List Lf:=[.el .chg, .int .i64]
def F43 (g:prodL L43) (K:Kn):Prop:=
 K (.fn 84 [] [.pr .i64 g.2.1 0, .pr .chg g.1 0]) []
theorem F43_eq (g:prodL L43) (K X:Kn):F43 g K=qJ D (qQ [] []) (qw []) H43 J43 6 [.tmp 4] (qz Tryz.f43) (argsT S43 L43 g) [] (settle0 K) X:=by kernel_rfl
theorem F43_ok (g:prodL L43) (K X:Kn) (h:F43 g K):FCalls Tryz.prog 43 (argsT S43 L43 g) [] K X:=
 FCalls.settle0 (qq qh (wQ wZ) qx rfl Tryz.func43 (c:=qz Tryz.f43) rfl Tryz.ntmps43 Tryz.results43 (by unfold qk;rw [Tryz.func43];kernel_rfl) (Nat.le_of_ble_eq_true (by kernel_rfl)) (c0:=0) (Eq.mp (F43_eq g K X) h))
def sp43:Sp:=⟨S43,L43,fun _=>True,fun g=> .fn 84 [] [.pr .i64 g.2.1 0, .pr .chg g.1 0],fun _=>none⟩
theorem sp43_ok:sp43.Ok Tryz.prog 43 false:=
 ⟨fun g K X hp h=>F43_ok g K X (by
  have h:K (.fn 84 [] [.pr .i64 g.2.1 0, .pr .chg g.1 0]) []:=h
  exact h),fun _ _ _=>rfl,fun _=>rfl,by first | exact fun _ _=>⟨rfl,rfl⟩ | (intro h;cases h)⟩
def H85:List (Nat×Hint):=[]
def J85:List (Nat×Hint):=[]
abbrev S85:List Sh:=[.leaf, .leaf]
abbrev L85:List Lf:=[.int .i64, .pr .i64]
def F85 (g:prodL L85) (K:Kn):Prop:=
 K (.ag (enc .idk (⟨dz,IntKind.i64.wrap (g.2.1+g.1)⟩:Idn))) []
theorem F85_eq (g:prodL L85) (K X:Kn):F85 g K=qJ D (qQ [] []) (qw []) H85 J85 8 [.cell 3 36] (qz Tryz.f85) (argsT S85 L85 g) [] (settle0 K) X:=by kernel_rfl
theorem F85_ok (g:prodL L85) (K X:Kn) (h:F85 g K):FCalls Tryz.prog 85 (argsT S85 L85 g) [] K X:=
 FCalls.settle0 (qq qh (wQ wZ) qx rfl Tryz.func85 (c:=qz Tryz.f85) rfl Tryz.ntmps85 Tryz.results85 (by unfold qk;rw [Tryz.func85];kernel_rfl) (Nat.le_of_ble_eq_true (by kernel_rfl)) (c0:=0) (Eq.mp (F85_eq g K X) h))
def sp85:Sp:=⟨S85,L85,fun _=>True,fun g=> .ag (enc .idk (⟨dz,IntKind.i64.wrap (g.2.1+g.1)⟩:Idn)),fun _=>none⟩
theorem sp85_ok:sp85.Ok Tryz.prog 85 false:=
 ⟨fun g K X hp h=>F85_ok g K X (by
  have h:K (.ag (enc .idk (⟨dz,IntKind.i64.wrap (g.2.1+g.1)⟩:Idn))) []:=h
  exact h),fun _ _ _=>rfl,fun _=>rfl,by first | exact fun _ _=>⟨rfl,rfl⟩ | (intro h;cases h)⟩
def qqh:List (Nat×Hint):=[]
def KD:List (Nat×Hint):=[]
abbrev vH:List Sh:=[.leaf, .pt 0 0]
abbrev jM:List Lf:=[.el .atm, .sl .atm]
abbrev QL:List ObSh:=[.cells [.oa .atm 1], .arr .atm]
def Jb (g:prodL jM) (K:Kn):Prop:=
 qG (g.2.1.length+[g.1].length) 296 (
 K (.bool true) [some (.cells [.oa .atm 1 0]),some (.arr 0 .atm (g.2.1++[g.1]))])
theorem F1036016_eq (g:prodL jM) (K:Kn):Jb g K=qd D (qQ [] []) (qw []) qqh KD (yH Tryz.prog 1036016) [6] (argsT vH jM g) (qa vH QL jM g) (settleD (qa vH QL jM g).length 0 K) 0:=by kernel_rfl
theorem qqB (g:prodL jM) (K X:Kn) (h:Jb g K):FCalls Tryz.prog 1036016 (argsT vH jM g) (qa vH QL jM g) K X 0:=
 FCalls.settleD (Q3 (Γ:=qQ [] []) (mu:=qw []) (H:=qqh) (J:=KD) qh (wQ wZ) qx rfl (yi:=⟨36,16,[6]⟩) rfl (by kernel_rfl) (by kernel_rfl) (by kernel_rfl) (by rw [F1036016_eq g K] at h;exact h))
def xo:Raw:=⟨vH,QL,jM,0,fun g K _=>Jb g K⟩
theorem YP:xo.Ok Tryz.prog 1036016:=fun g K X h=>qqB g K X h
def qqj:List (Nat×Hint):=[]
def qqr:List (Nat×Hint):=[]
abbrev vS:List Sh:=[.leaf, .pt 0 0]
abbrev jG:List Lf:=[.el .atm, .int .i64]
abbrev Qm:List ObSh:=[.cells [.leaf]]
def XE (g:prodL jG) (K:Kn):Prop:=
 K (.bool true) [some (.cells [.int .i64 (IntKind.i64.wrap (g.2.1+1))])]
theorem F1023008_eq (g:prodL jG) (K:Kn):XE g K=qd D (qQ [] []) (qw []) qqj qqr (yH Tryz.prog 1023008) [5] (argsT vS jG g) (qa vS Qm jG g) (settleD (qa vS Qm jG g).length 0 K) 0:=by kernel_rfl
theorem F1023008_ok (g:prodL jG) (K X:Kn) (h:XE g K):FCalls Tryz.prog 1023008 (argsT vS jG g) (qa vS Qm jG g) K X 0:=
 FCalls.settleD (Q3 (Γ:=qQ [] []) (mu:=qw []) (H:=qqj) (J:=qqr) qh (wQ wZ) qx rfl (yi:=⟨23,8,[5]⟩) rfl (by kernel_rfl) (by kernel_rfl) (by kernel_rfl) (by rw [F1023008_eq g K] at h;exact h))
def xA:Raw:=⟨vS,Qm,jG,0,fun g K _=>XE g K⟩
theorem WM:xA.Ok Tryz.prog 1023008:=fun g K X h=>F1023008_ok g K X h
set_option maxRecDepth 100000
def H46:List (Nat×Hint):=[(19,⟨[((3,[]),none),((3,[0]),none)],[(1, .leaf),(3, .pt 0 0),(4, .fn 88 [] [.pt 0 0]),(64, .leaf),(65, .leaf),(66, .leaf)],[.cells [.oa .ref 1], .arr .ref],[.pr .chg, .sl .idk, .int .i64, .int .i64, .sl .ref]⟩)]
def J46:List (Nat×Hint):=[(1,⟨[],[(1, .leaf)],[],[.pr .chg]⟩),(6,⟨[((3,[]),none)],[(1, .leaf),(3, .pt 0 0),(4, .fn 88 [] [.pt 0 0]),(10, .leaf),(11, .leaf)],[.cells [.nil]],[.pr .chg, .int .i64, .bool]⟩),(11,⟨[((3,[]),none)],[(1, .leaf),(3, .pt 0 0),(4, .fn 88 [] [.pt 0 0]),(24, .leaf)],[.cells [.nil]],[.pr .chg, .bool]⟩),(12,⟨[((3,[]),none),((3,[0]),some .ref)],[(1, .leaf),(3, .pt 0 0),(4, .fn 88 [] [.pt 0 0])],[.cells [.oa .ref 1], .arr .ref],[.pr .chg, .sl .ref]⟩),(13,⟨[((3,[]),none),((3,[0]),none)],[(1, .leaf),(3, .pt 0 0),(4, .fn 88 [] [.pt 0 0]),(39, .leaf)],[.cells [.oa .ref 1], .arr .ref],[.pr .chg, .bool, .sl .ref]⟩),(14,⟨[((3,[]),none),((3,[0]),none)],[(1, .leaf),(3, .pt 0 0),(4, .fn 88 [] [.pt 0 0])],[.cells [.oa .ref 1], .arr .ref],[.pr .chg, .sl .ref]⟩),(15,⟨[((3,[]),none),((3,[0]),none)],[(1, .leaf),(3, .pt 0 0),(4, .fn 88 [] [.pt 0 0]),(51, .leaf)],[.cells [.oa .ref 1], .arr .ref],[.pr .chg, .bool, .sl .ref]⟩),(18,⟨[((3,[]),none),((3,[0]),none)],[(1, .leaf),(3, .pt 0 0),(4, .fn 88 [] [.pt 0 0])],[.cells [.oa .ref 1], .arr .ref],[.pr .chg, .sl .ref]⟩)]
abbrev S46:List Sh:=[.leaf]
abbrev L46:List Lf:=[.el .chg]
def Qb (K:Kn) (W20:prodL [.pr .chg, .sl .idk, .int .i64, .int .i64, .sl .ref]->Prop) (c_19:Chg) (t_19:List Idn) (t2_19 t3_19:Int) (out_19:List Rfn):Prop:=
 bif decide (t3_19<t2_19)then (
  At t_19 t3_19 fun u21=>
 let g22:prodL [.el .idk, .fd, .sl .ref]:=(u21,Fd.sup c_19,out_19,());
 qG (g22.2.2.1.length+[(⟨g22.1,g22.2.1⟩:Rfn)].length) 48 (
 W20 (c_19,t_19,t2_19,IntKind.i64.wrap (t3_19+1),g22.2.2.1++[(⟨g22.1,g22.2.1⟩:Rfn)],())))
 else (
  K (.sl false .ref out_19) [])
def F46_L20 (K:Kn) (g:prodL [.pr .chg, .sl .idk, .int .i64, .int .i64, .sl .ref]):Prop:=
 qZ (γ:=prodL [.pr .chg, .sl .idk, .int .i64, .int .i64, .sl .ref]) (fun V y=>Qb K V y.1 y.2.1 y.2.2.1 y.2.2.2.1 y.2.2.2.2.1) g
def JZ (K:Kn) (c_18:Chg) (out_18:List Rfn):Prop:=
 F46_L20 K (c_18,c_18.over,(c_18.over.length:Int),0,out_18,())
def Qr (K:Kn) (c_14:Chg) (t_14:Bool) (out_14:List Rfn):Prop:=
 bif t_14 then (
  let g15:prodL [.el .idk, .fd, .sl .ref]:=(c_14.after,Fd.fin c_14,out_14,());
  qG (g15.2.2.1.length+[(⟨g15.1,g15.2.1⟩:Rfn)].length) 48 (
  let g16:prodL [.el .idk, .fd, .sl .ref]:=(c_14.before,Fd.fin c_14,g15.2.2.1++[(⟨g15.1,g15.2.1⟩:Rfn)],());
  qG (g16.2.2.1.length+[(⟨g16.1,g16.2.1⟩:Rfn)].length) 48 (
  JZ K c_14 (g16.2.2.1++[(⟨g16.1,g16.2.1⟩:Rfn)]))))
 else (
  JZ K c_14 out_14)
def Y0 (K:Kn) (c_13:Chg) (out_13:List Rfn):Prop:=
 bif decide (c_13.kind=5)then (
  Qr K c_13 true out_13)
 else (
  Qr K c_13 (decide (c_13.kind=6)) out_13)
def Z7 (K:Kn) (c_10:Chg) (t_10:Bool) (out_10:List Rfn):Prop:=
 bif t_10 then (
  let g11:prodL [.el .idk, .fd, .sl .ref]:=(c_10.parent,Fd.dir,out_10,());
  qG (g11.2.2.1.length+[(⟨g11.1,g11.2.1⟩:Rfn)].length) 48 (
  Y0 K c_10 (g11.2.2.1++[(⟨g11.1,g11.2.1⟩:Rfn)])))
 else (
  Y0 K c_10 out_10)
def yE (K:Kn) (c_9:Chg) (out_9:List Rfn):Prop:=
 bif decide (c_9.kind=2)then (
  True/\
  Z7 K c_9 (!(zy c_9.parent (⟨dz, -1⟩:Idn))) out_9)
 else (
  Z7 K c_9 false out_9)
def Jt (K:Kn) (c_5:Chg) (t_5:Bool):Prop:=
 bif t_5 then (
    let g6:prodL [.el .idk, .fd]:=(c_5.file,Fd.txt,());
    qG ([(⟨g6.1,g6.2.1⟩:Rfn)].length) 48 (
    yE K c_5 [(⟨g6.1,g6.2.1⟩:Rfn)]))
   else (
    yE K c_5 [])
def Js (K:Kn) (c_2:Chg) (t_2:Int) (t2_2:Bool):Prop:=
 bif t2_2 then (
  let g3:prodL [.el .idk, .fd]:=(c_2.file,Fd.file,());
  qG ([(⟨g3.1,g3.2.1⟩:Rfn)].length) 48 (
  yE K c_2 [(⟨g3.1,g3.2.1⟩:Rfn)]))
 else (
  bif decide (t_2=4)then (
   let g4:prodL [.el .idk, .fd]:=(c_2.file,Fd.data,());
   qG ([(⟨g4.1,g4.2.1⟩:Rfn)].length) 48 (
   yE K c_2 [(⟨g4.1,g4.2.1⟩:Rfn)]))
  else (
   bif decide (t_2=5)then (
    Jt K c_2 true)
   else (
    Jt K c_2 (decide (t_2=6)))))
def F46_J26 (K:Kn) (c_1:Chg):Prop:=
 bif decide (c_1.kind=2)then (
  Js K c_1 c_1.kind true)
 else (
  Js K c_1 c_1.kind (decide (c_1.kind=3)))
def F46 (g:prodL L46) (K:Kn):Prop:=
 F46_J26 K g.1
theorem F46_eq (g:prodL L46) (K X:Kn):F46 g K=qJ D (qQ [(88,rw88),(88,Vc)] [(28,false,sp28)]) (qw [(88,rw88),(88,Vc)]) H46 J46 76 [.tmp 2] (qz Tryz.f46) (argsT S46 L46 g) [] (settle0 K) X:=by kernel_rfl
theorem F46_ok (g:prodL L46) (K X:Kn) (h:F46 g K):FCalls Tryz.prog 46 (argsT S46 L46 g) [] K X:=
 FCalls.settle0 (qq (Γ:=qQ [(88,rw88),(88,Vc)] [(28,false,sp28)]) (mu:=qw [(88,rw88),(88,Vc)]) (H:=H46) (J:=J46) qh (qX (rs:=[(88,rw88),(88,Vc)]) (l:=[(28,false,sp28)]) (by intro p hp;simp only [List.mem_cons,List.not_mem_nil,or_false] at hp;rcases hp with rfl | rfl<;>first | exact rw88_ok | exact rw88n_ok) (by intro p hp;simp only [List.mem_cons,List.not_mem_nil,or_false] at hp;subst hp;exact sp28_ok)) qx rfl Tryz.func46 (c:=qz Tryz.f46) rfl Tryz.ntmps46 Tryz.results46 (by unfold qk;rw [Tryz.func46];kernel_rfl) (Nat.le_of_ble_eq_true (by kernel_rfl)) (c0:=0) (Eq.mp (F46_eq g K X) h))
def H84:List (Nat×Hint):=[(16,⟨[],[(0, .fn 1036016 [] [.pt 0 0]),(2, .leaf),(4, .fn 85 [] [.leaf]),(93, .leaf),(94, .leaf),(95, .leaf)],[.cells [.oa .atm 1], .arr .atm],[.pr .chg, .pr .i64, .sl .str, .int .i64, .int .i64, .sl .atm]⟩),(23,⟨[((8,[]),none)],[(0, .fn 1036016 [] [.pt 0 0]),(2, .leaf),(4, .fn 85 [] [.leaf]),(7, .leaf),(8, .pt 2 0),(117, .leaf),(118, .leaf)],[.cells [.oa .atm 1], .arr .atm, .el],[.pr .chg, .pr .i64, .int .i64, .int .i64, .int .i64, .sl .atm, .el .idk]⟩)]
def J84:List (Nat×Hint):=[(28,⟨[((8,[]),none),((10,[]),none)],[(0, .fn 1036016 [] [.pt 0 0]),(2, .leaf),(4, .fn 85 [] [.leaf]),(7, .leaf),(8, .pt 2 0),(9, .leaf),(10, .pt 3 0),(117, .leaf),(118, .leaf)],[.cells [.oa .atm 1], .arr .atm, .el, .el],[.pr .chg, .pr .i64, .int .i64, .int .i64, .int .i64, .int .i64, .sl .atm, .el .idk, .el .idk]⟩)]
abbrev S84:List Sh:=[.fn 1036016 [] [.pt 0 0], .leaf, .leaf]
abbrev L84:List Lf:=[.pr .i64, .pr .chg, .sl .atm]
abbrev O84:List ObSh:=[.cells [.oa .atm 1], .arr .atm]
def Z4 (K:Kn) (W12:prodL [.pr .chg, .pr .i64, .int .i64, .int .i64, .int .i64, .sl .atm, .el .idk]->Prop) (t_13:Chg) (id_13 k_13 i_13 t2_13 t3_13:Int) (o1_13:List Atm) (from_13 to_13:Idn):Prop:=
 True/\
        let g14:prodL [.el .atm, .sl .atm]:=((⟨(⟨dz,IntKind.i64.wrap (id_13+(IntKind.i64.wrap (k_13+i_13)))⟩:Idn),6,t_13.file,0,iz,(⟨#[]⟩:ByteArray),0,(⟨#[]⟩:ByteArray),(⟨#[]⟩:ByteArray),from_13,to_13,[]⟩:Atm),o1_13,());
        qG (g14.2.1.length+[g14.1].length) 296 (
        W12 (t_13,id_13,k_13,t2_13,IntKind.i64.wrap (t3_13+1),g14.2.1++[g14.1],to_13,()))
def Ql (K:Kn) (W12:prodL [.pr .chg, .pr .i64, .int .i64, .int .i64, .int .i64, .sl .atm, .el .idk]->Prop) (t_11:Chg) (id_11 k_11 t2_11 t3_11:Int) (o1_11:List Atm) (from_11:Idn):Prop:=
 bif decide (t3_11<t2_11)then (
         bif decide (t3_11<k_11)then (
         True/\
         Z4 K W12 t_11 id_11 k_11 t3_11 t2_11 t3_11 o1_11 from_11 (⟨dz,IntKind.i64.wrap (id_11+t3_11)⟩:Idn))
        else (
         Z4 K W12 t_11 id_11 k_11 t3_11 t2_11 t3_11 o1_11 from_11 t_11.before))
        else (
         K (.tu []) [some (.cells [.oa .atm 1 0]),some (.arr 0 .atm o1_11)])
def F84_L12 (K:Kn) (g:prodL [.pr .chg, .pr .i64, .int .i64, .int .i64, .int .i64, .sl .atm, .el .idk]):Prop:=
 qZ (γ:=prodL [.pr .chg, .pr .i64, .int .i64, .int .i64, .int .i64, .sl .atm, .el .idk]) (fun V y=>Ql K V y.1 y.2.1 y.2.2.1 y.2.2.2.1 y.2.2.2.2.1 y.2.2.2.2.2.1 y.2.2.2.2.2.2.1) g
def JB (K:Kn) (W8:prodL [.pr .chg, .pr .i64, .sl .str, .int .i64, .int .i64, .sl .atm]->Prop) (t_7:Chg) (id_7:Int) (t2_7:List ByteArray) (t3_7 t4_7:Int) (o1_7:List Atm):Prop:=
 bif decide (t4_7<t3_7)then (
         At t2_7 t4_7 fun u9=>
        True/\
        let g10:prodL [.el .atm, .sl .atm]:=((⟨(⟨dz,IntKind.i64.wrap (id_7+t4_7)⟩:Idn),5,t_7.file,0,iz,(⟨#[]⟩:ByteArray),0,(⟨#[]⟩:ByteArray),u9,iz,iz,[]⟩:Atm),o1_7,());
        qG (g10.2.1.length+[g10.1].length) 296 (
        W8 (t_7,id_7,t2_7,t3_7,IntKind.i64.wrap (t4_7+1),g10.2.1++[g10.1],())))
        else (
         F84_L12 K (t_7,id_7,(t_7.lines.length:Int),IntKind.i64.wrap ((t_7.lines.length:Int)+1),0,o1_7,t_7.after,()))
def F84_L8 (K:Kn) (g:prodL [.pr .chg, .pr .i64, .sl .str, .int .i64, .int .i64, .sl .atm]):Prop:=
 qZ (γ:=prodL [.pr .chg, .pr .i64, .sl .str, .int .i64, .int .i64, .sl .atm]) (fun V y=>JB K V y.1 y.2.1 y.2.2.1 y.2.2.2.1 y.2.2.2.2.1 y.2.2.2.2.2.1) g
def F84 (g:prodL L84) (K:Kn):Prop:=
 bif decide (g.2.1.kind=1)then (
  True/\
  True/\
  let g1:prodL [.el .atm, .sl .atm]:=((⟨(⟨dz,IntKind.i64.wrap (g.1+0)⟩:Idn),1,(⟨dz,IntKind.i64.wrap (g.1+0)⟩:Idn),g.2.1.typ,iz,(⟨#[]⟩:ByteArray),0,(⟨#[]⟩:ByteArray),(⟨#[]⟩:ByteArray),iz,iz,[]⟩:Atm),g.2.2.1,());
  qG (g1.2.1.length+[g1.1].length) 296 (
  K (.tu []) [some (.cells [.oa .atm 1 0]),some (.arr 0 .atm (g1.2.1++[g1.1]))]))
 else (
  bif decide (g.2.1.kind=2)then (
   True/\
   let g2:prodL [.el .atm, .sl .atm]:=((⟨(⟨dz,IntKind.i64.wrap (g.1+0)⟩:Idn),2,g.2.1.file,0,g.2.1.parent,g.2.1.name,0,(⟨#[]⟩:ByteArray),(⟨#[]⟩:ByteArray),iz,iz,g.2.1.over⟩:Atm),g.2.2.1,());
   qG (g2.2.1.length+[g2.1].length) 296 (
   K (.tu []) [some (.cells [.oa .atm 1 0]),some (.arr 0 .atm (g2.2.1++[g2.1]))]))
  else (
   bif decide (g.2.1.kind=3)then (
    True/\
    let g3:prodL [.el .atm, .sl .atm]:=((⟨(⟨dz,IntKind.i64.wrap (g.1+0)⟩:Idn),3,g.2.1.file,0,iz,(⟨#[]⟩:ByteArray),g.2.1.mode,(⟨#[]⟩:ByteArray),(⟨#[]⟩:ByteArray),iz,iz,g.2.1.over⟩:Atm),g.2.2.1,());
    qG (g3.2.1.length+[g3.1].length) 296 (
    K (.tu []) [some (.cells [.oa .atm 1 0]),some (.arr 0 .atm (g3.2.1++[g3.1]))]))
   else (
    bif decide (g.2.1.kind=4)then (
     True/\
     let g4:prodL [.el .atm, .sl .atm]:=((⟨(⟨dz,IntKind.i64.wrap (g.1+0)⟩:Idn),4,g.2.1.file,0,iz,(⟨#[]⟩:ByteArray),0,g.2.1.data,(⟨#[]⟩:ByteArray),iz,iz,g.2.1.over⟩:Atm),g.2.2.1,());
     qG (g4.2.1.length+[g4.1].length) 296 (
     K (.tu []) [some (.cells [.oa .atm 1 0]),some (.arr 0 .atm (g4.2.1++[g4.1]))]))
    else (
     bif decide (g.2.1.kind=6)then (
      True/\
      let g5:prodL [.el .atm, .sl .atm]:=((⟨(⟨dz,IntKind.i64.wrap (g.1+0)⟩:Idn),6,g.2.1.file,0,iz,(⟨#[]⟩:ByteArray),0,(⟨#[]⟩:ByteArray),(⟨#[]⟩:ByteArray),g.2.1.after,g.2.1.before,g.2.1.over⟩:Atm),g.2.2.1,());
      qG (g5.2.1.length+[g5.1].length) 296 (
      K (.tu []) [some (.cells [.oa .atm 1 0]),some (.arr 0 .atm (g5.2.1++[g5.1]))]))
     else (
      bif decide (g.2.1.kind=7)then (
       True/\
       let g6:prodL [.el .atm, .sl .atm]:=((⟨(⟨dz,IntKind.i64.wrap (g.1+0)⟩:Idn),7,iz,0,iz,(⟨#[]⟩:ByteArray),0,(⟨#[]⟩:ByteArray),(⟨#[]⟩:ByteArray),iz,iz,g.2.1.over⟩:Atm),g.2.2.1,());
       qG (g6.2.1.length+[g6.1].length) 296 (
       K (.tu []) [some (.cells [.oa .atm 1 0]),some (.arr 0 .atm (g6.2.1++[g6.1]))]))
      else (
       bif decide (g.2.1.kind=5)then (
        F84_L8 K (g.2.1,g.1,g.2.1.lines,(g.2.1.lines.length:Int),0,g.2.2.1,()))
       else (
        K (.tu []) [some (.cells [.oa .atm 1 0]),some (.arr 0 .atm g.2.2.1)])))))))
theorem F84_eq (g:prodL L84) (K X:Kn):F84 g K=qJ D (qQ [(1036016,xo)] [(85,false,sp85)]) (qw [(1036016,xo)]) H84 J84 144 [] (qz Tryz.f84) (argsT S84 L84 g) (qa S84 O84 L84 g) (settleD (qa S84 O84 L84 g).length 0 K) X 0:=by kernel_rfl
theorem F84_ok (g:prodL L84) (K X:Kn) (h:F84 g K):FCalls Tryz.prog 84 (argsT S84 L84 g) (qa S84 O84 L84 g) K X 0:=
 FCalls.settleD (qq (Γ:=qQ [(1036016,xo)] [(85,false,sp85)]) (mu:=qw [(1036016,xo)]) (H:=H84) (J:=J84) qh (qX (rs:=[(1036016,xo)]) (l:=[(85,false,sp85)]) (by intro p hp;simp only [List.mem_cons,List.not_mem_nil,or_false] at hp;subst hp;exact YP) (by intro p hp;simp only [List.mem_cons,List.not_mem_nil,or_false] at hp;subst hp;exact sp85_ok)) qx rfl Tryz.func84 (c:=qz Tryz.f84) rfl Tryz.ntmps84 (rs:=[]) Tryz.results84 (by unfold qk;rw [Tryz.func84];kernel_rfl) (Nat.le_of_ble_eq_true (by kernel_rfl)) (X:=X) (c0:=0) (Eq.mp (F84_eq g K X) h))
def H84b:List (Nat×Hint):=[(16,⟨[],[(0, .fn 1023008 [] [.pt 0 0]),(2, .leaf),(4, .fn 85 [] [.leaf]),(93, .leaf),(94, .leaf),(95, .leaf)],[.cells [.leaf]],[.pr .chg, .pr .i64, .sl .str, .int .i64, .int .i64, .int .i64]⟩),(23,⟨[((8,[]),none)],[(0, .fn 1023008 [] [.pt 0 0]),(2, .leaf),(4, .fn 85 [] [.leaf]),(7, .leaf),(8, .pt 1 0),(117, .leaf),(118, .leaf)],[.cells [.leaf], .el],[.pr .chg, .pr .i64, .int .i64, .int .i64, .int .i64, .int .i64, .el .idk]⟩)]
def J84b:List (Nat×Hint):=[(28,⟨[((8,[]),none),((10,[]),none)],[(0, .fn 1023008 [] [.pt 0 0]),(2, .leaf),(4, .fn 85 [] [.leaf]),(7, .leaf),(8, .pt 1 0),(9, .leaf),(10, .pt 2 0),(117, .leaf),(118, .leaf)],[.cells [.leaf], .el, .el],[.pr .chg, .pr .i64, .int .i64, .int .i64, .int .i64, .int .i64, .int .i64, .el .idk, .el .idk]⟩)]
abbrev S84b:List Sh:=[.fn 1023008 [] [.pt 0 0], .leaf, .leaf]
abbrev YJ:List Lf:=[.pr .i64, .pr .chg, .int .i64]
abbrev O84b:List ObSh:=[.cells [.leaf]]
def QA (K:Kn) (W12:prodL [.pr .chg, .pr .i64, .int .i64, .int .i64, .int .i64, .int .i64, .el .idk]->Prop) (t_13:Chg) (id_13 k_13 i_13 t2_13 t3_13 o0_13:Int) (from_13 to_13:Idn):Prop:=
 True/\
        let g14:prodL [.el .atm, .int .i64]:=((⟨(⟨dz,IntKind.i64.wrap (id_13+(IntKind.i64.wrap (k_13+i_13)))⟩:Idn),6,t_13.file,0,iz,(⟨#[]⟩:ByteArray),0,(⟨#[]⟩:ByteArray),(⟨#[]⟩:ByteArray),from_13,to_13,[]⟩:Atm),o0_13,());
        W12 (t_13,id_13,k_13,t2_13,IntKind.i64.wrap (t3_13+1),IntKind.i64.wrap (g14.2.1+1),to_13,())
def J7 (K:Kn) (W12:prodL [.pr .chg, .pr .i64, .int .i64, .int .i64, .int .i64, .int .i64, .el .idk]->Prop) (t_11:Chg) (id_11 k_11 t2_11 t3_11 o0_11:Int) (from_11:Idn):Prop:=
 bif decide (t3_11<t2_11)then (
         bif decide (t3_11<k_11)then (
         True/\
         QA K W12 t_11 id_11 k_11 t3_11 t2_11 t3_11 o0_11 from_11 (⟨dz,IntKind.i64.wrap (id_11+t3_11)⟩:Idn))
        else (
         QA K W12 t_11 id_11 k_11 t3_11 t2_11 t3_11 o0_11 from_11 t_11.before))
        else (
         K (.tu []) [some (.cells [.int .i64 o0_11])])
def KT (K:Kn) (g:prodL [.pr .chg, .pr .i64, .int .i64, .int .i64, .int .i64, .int .i64, .el .idk]):Prop:=
 qZ (γ:=prodL [.pr .chg, .pr .i64, .int .i64, .int .i64, .int .i64, .int .i64, .el .idk]) (fun V y=>J7 K V y.1 y.2.1 y.2.2.1 y.2.2.2.1 y.2.2.2.2.1 y.2.2.2.2.2.1 y.2.2.2.2.2.2.1) g
def Yc (K:Kn) (W8:prodL [.pr .chg, .pr .i64, .sl .str, .int .i64, .int .i64, .int .i64]->Prop) (t_7:Chg) (id_7:Int) (t2_7:List ByteArray) (t3_7 t4_7 o0_7:Int):Prop:=
 bif decide (t4_7<t3_7)then (
         At t2_7 t4_7 fun u9=>
        True/\
        let g10:prodL [.el .atm, .int .i64]:=((⟨(⟨dz,IntKind.i64.wrap (id_7+t4_7)⟩:Idn),5,t_7.file,0,iz,(⟨#[]⟩:ByteArray),0,(⟨#[]⟩:ByteArray),u9,iz,iz,[]⟩:Atm),o0_7,());
        W8 (t_7,id_7,t2_7,t3_7,IntKind.i64.wrap (t4_7+1),IntKind.i64.wrap (g10.2.1+1),()))
        else (
         KT K (t_7,id_7,(t_7.lines.length:Int),IntKind.i64.wrap ((t_7.lines.length:Int)+1),0,o0_7,t_7.after,()))
def Yy (K:Kn) (g:prodL [.pr .chg, .pr .i64, .sl .str, .int .i64, .int .i64, .int .i64]):Prop:=
 qZ (γ:=prodL [.pr .chg, .pr .i64, .sl .str, .int .i64, .int .i64, .int .i64]) (fun V y=>Yc K V y.1 y.2.1 y.2.2.1 y.2.2.2.1 y.2.2.2.2.1 y.2.2.2.2.2.1) g
def F84b (g:prodL YJ) (K:Kn):Prop:=
 bif decide (g.2.1.kind=1)then (
  True/\
  True/\
  let g1:prodL [.el .atm, .int .i64]:=((⟨(⟨dz,IntKind.i64.wrap (g.1+0)⟩:Idn),1,(⟨dz,IntKind.i64.wrap (g.1+0)⟩:Idn),g.2.1.typ,iz,(⟨#[]⟩:ByteArray),0,(⟨#[]⟩:ByteArray),(⟨#[]⟩:ByteArray),iz,iz,[]⟩:Atm),g.2.2.1,());
  K (.tu []) [some (.cells [.int .i64 (IntKind.i64.wrap (g1.2.1+1))])])
 else (
  bif decide (g.2.1.kind=2)then (
   True/\
   let g2:prodL [.el .atm, .int .i64]:=((⟨(⟨dz,IntKind.i64.wrap (g.1+0)⟩:Idn),2,g.2.1.file,0,g.2.1.parent,g.2.1.name,0,(⟨#[]⟩:ByteArray),(⟨#[]⟩:ByteArray),iz,iz,g.2.1.over⟩:Atm),g.2.2.1,());
   K (.tu []) [some (.cells [.int .i64 (IntKind.i64.wrap (g2.2.1+1))])])
  else (
   bif decide (g.2.1.kind=3)then (
    True/\
    let g3:prodL [.el .atm, .int .i64]:=((⟨(⟨dz,IntKind.i64.wrap (g.1+0)⟩:Idn),3,g.2.1.file,0,iz,(⟨#[]⟩:ByteArray),g.2.1.mode,(⟨#[]⟩:ByteArray),(⟨#[]⟩:ByteArray),iz,iz,g.2.1.over⟩:Atm),g.2.2.1,());
    K (.tu []) [some (.cells [.int .i64 (IntKind.i64.wrap (g3.2.1+1))])])
   else (
    bif decide (g.2.1.kind=4)then (
     True/\
     let g4:prodL [.el .atm, .int .i64]:=((⟨(⟨dz,IntKind.i64.wrap (g.1+0)⟩:Idn),4,g.2.1.file,0,iz,(⟨#[]⟩:ByteArray),0,g.2.1.data,(⟨#[]⟩:ByteArray),iz,iz,g.2.1.over⟩:Atm),g.2.2.1,());
     K (.tu []) [some (.cells [.int .i64 (IntKind.i64.wrap (g4.2.1+1))])])
    else (
     bif decide (g.2.1.kind=6)then (
      True/\
      let g5:prodL [.el .atm, .int .i64]:=((⟨(⟨dz,IntKind.i64.wrap (g.1+0)⟩:Idn),6,g.2.1.file,0,iz,(⟨#[]⟩:ByteArray),0,(⟨#[]⟩:ByteArray),(⟨#[]⟩:ByteArray),g.2.1.after,g.2.1.before,g.2.1.over⟩:Atm),g.2.2.1,());
      K (.tu []) [some (.cells [.int .i64 (IntKind.i64.wrap (g5.2.1+1))])])
     else (
      bif decide (g.2.1.kind=7)then (
       True/\
       let g6:prodL [.el .atm, .int .i64]:=((⟨(⟨dz,IntKind.i64.wrap (g.1+0)⟩:Idn),7,iz,0,iz,(⟨#[]⟩:ByteArray),0,(⟨#[]⟩:ByteArray),(⟨#[]⟩:ByteArray),iz,iz,g.2.1.over⟩:Atm),g.2.2.1,());
       K (.tu []) [some (.cells [.int .i64 (IntKind.i64.wrap (g6.2.1+1))])])
      else (
       bif decide (g.2.1.kind=5)then (
        Yy K (g.2.1,g.1,g.2.1.lines,(g.2.1.lines.length:Int),0,g.2.2.1,()))
       else (
        K (.tu []) [some (.cells [.int .i64 g.2.2.1])])))))))
theorem F84b_eq (g:prodL YJ) (K X:Kn):F84b g K=qJ D (qQ [(1023008,xA)] [(85,false,sp85)]) (qw [(1023008,xA)]) H84b J84b 144 [] (qz Tryz.f84) (argsT S84b YJ g) (qa S84b O84b YJ g) (settleD (qa S84b O84b YJ g).length 0 K) X 0:=by kernel_rfl
theorem F84b_ok (g:prodL YJ) (K X:Kn) (h:F84b g K):FCalls Tryz.prog 84 (argsT S84b YJ g) (qa S84b O84b YJ g) K X 0:=
 FCalls.settleD (qq (Γ:=qQ [(1023008,xA)] [(85,false,sp85)]) (mu:=qw [(1023008,xA)]) (H:=H84b) (J:=J84b) qh (qX (rs:=[(1023008,xA)]) (l:=[(85,false,sp85)]) (by intro p hp;simp only [List.mem_cons,List.not_mem_nil,or_false] at hp;subst hp;exact WM) (by intro p hp;simp only [List.mem_cons,List.not_mem_nil,or_false] at hp;subst hp;exact sp85_ok)) qx rfl Tryz.func84 (c:=qz Tryz.f84) rfl Tryz.ntmps84 (rs:=[]) Tryz.results84 (by unfold qk;rw [Tryz.func84];kernel_rfl) (Nat.le_of_ble_eq_true (by kernel_rfl)) (X:=X) (c0:=0) (Eq.mp (F84b_eq g K X) h))
end Go.Proofs.YtbglndogddddoaaGreatDoor
namespace Go.Proofs.YtbglndogddddoaaGreatDoor
open Go.RowKit
set_option maxRecDepth 100000
theorem w40 {n:Int} (h:0<=n/\n<=4398046511104):IntKind.i64.wrap n=n:=QP (by omega) (by omega)
abbrev KR (K:Kn):List Rfn->Prop:=fun l=>K (.sl false .ref l) []
theorem Xb {c:Chg} {out:List Rfn} {K:Kn} (hl:c.over.length<=4194304) (ho:out.length<=16) (h:KR K (out++supL c)):JZ K c out:=by
 unfold JZ F46_L20
 refine qZ.map c.over (fun x=>(⟨x,Fd.sup c⟩:Rfn)) (fun n o=>(c,c.over,(c.over.length:Int),n,out++o,())) (by omega) (by rw [List.append_nil]) (fun W n hn o hlen hW=> ?_) fun W=> ?_
 . show Qb K W c c.over c.over.length n (out++o)
   unfold Qb
   rw [qH hn,cond_true]
   refine qM hn ?_
   rw [<- List.append_assoc] at hW
   exact ⟨by simp only [List.length_singleton,List.length_append,hlen];omega,hW⟩
 . show Qb K W c c.over c.over.length c.over.length (out++c.over.map fun x=>(⟨x,Fd.sup c⟩:Rfn))
   unfold Qb
   rw [qt,cond_false];exact h
theorem F46_J17_is {c:Chg} {t:Bool} {out:List Rfn} {K:Kn} (hl:c.over.length<=4194304) (ho:out.length<=8) (h:KR K (rL17 c t out)):Qr K c t out:=by
 unfold Qr
 unfold rL17 at h
 cases t
 . exact Xb hl (by omega) h
 . refine ⟨by simp only [List.length_singleton];omega,by simp only [List.length_singleton,List.length_append];omega,Xb hl (by simp only [List.length_singleton,List.length_append];omega) h⟩
theorem Xx {c:Chg} {out:List Rfn} {K:Kn} (hl:c.over.length<=4194304) (ho:out.length<=8) (h:KR K (rL24 c out)):Y0 K c out:=
 ZW (J:=fun b=>Qr K c b out) (f:=fun b=>rL17 c b out) (K:=KR K) (fun _ h=>F46_J17_is hl ho h) h
theorem Xg {c:Chg} {t:Bool} {out:List Rfn} {K:Kn} (hl:c.over.length<=4194304) (ho:out.length<=4) (h:KR K (rL12 c t out)):Z7 K c t out:=by
 unfold Z7
 unfold rL12 at h
 cases t
 . exact Xx hl (by omega) h
 . exact ⟨by simp only [List.length_singleton];omega,Xx hl (by simp only [List.length_singleton,List.length_append];omega) h⟩
theorem wC {c:Chg} {out:List Rfn} {K:Kn} (hl:c.over.length<=4194304) (ho:out.length<=4) (h:KR K (rL25 c out)):yE K c out:=by
 unfold yE
 unfold rL25 at h
 cases e:decide (c.kind=2)
 . rw [e] at h;exact Xg hl ho h
 . rw [e] at h;exact ⟨trivial,Xg hl ho h⟩
theorem F46_J7_is {c:Chg} {t:Bool} {K:Kn} (hl:c.over.length<=4194304) (h:KR K (rL7 c t)):Jt K c t:=by
 unfold Jt
 unfold rL7 at h
 cases t
 . exact wC hl (Nat.le_of_ble_eq_true rfl) h
 . exact ⟨Nat.le_of_ble_eq_true rfl,wC hl (Nat.le_of_ble_eq_true rfl) h⟩
theorem F46_J8_is {c:Chg} {k:Int} {t:Bool} {K:Kn} (hl:c.over.length<=4194304) (h:KR K (rL8 c k t)):Js K c k t:=by
 unfold Js
 unfold rL8 at h
 cases t
 . rw [cond_false] at h ⊢
   cases e:decide (k=4)
   . rw [e] at h
     exact ZW (J:=fun b=>Jt K c b) (f:=fun b=>rL7 c b) (K:=KR K) (fun _ h=>F46_J7_is hl h) h
   . rw [e] at h
     exact ⟨Nat.le_of_ble_eq_true rfl,wC hl (Nat.le_of_ble_eq_true rfl) h⟩
 . exact ⟨Nat.le_of_ble_eq_true rfl,wC hl (Nat.le_of_ble_eq_true rfl) h⟩
theorem F46_is {c:Chg} {K:Kn} (hl:c.over.length<=4194304) (h:KR K (zR c)):F46 (c,()) K:=
 ZW (J:=fun b=>Js K c c.kind b) (f:=fun b=>rL8 c c.kind b) (K:=KR K) (fun _ h=>F46_J8_is hl h) h
def sp46:Sp:=⟨S46,L46,fun g=>g.1.over.length<=4194304,fun g=> .sl false .ref (zR g.1),fun _=>none⟩
theorem sp46_ok:sp46.Ok Tryz.prog 46 false:=
 ⟨fun g K X hp h=>F46_ok g K X (F46_is hp h),fun _ _ _=>rfl,fun _=>rfl,fun h=>(by cases h)⟩
abbrev KA (K:Kn):List Atm->Prop:=fun l=>K (.tu []) [some (.cells [.oa .atm 1 0]),some (.arr 0 .atm l)]
def frS (c:Chg) (n:Int):Nat->Idn
 | 0=>c.after
 | i+1=>YL c n i
theorem frS_frm {c:Chg} {n:Int} {i:Nat} (h:i<=c.lines.length):frS c n i=frmI c n i:=by
 cases i with
 | zero=>rfl
 | succ i=>
  show YL c n i=yI (n+i)
  unfold YL
  rw [decide_eq_true (by omega),cond_true]
theorem lnI_at {c:Chg} {n:Int} {i:Nat} (h:i<c.lines.length):lnI c n i=lnA c (n+i) c.lines[i]:=by
 unfold lnI
 rw [List.getD_eq_getElem?_getD,jI h];rfl
theorem leI {n m:Nat}:decide ((n:Int) < (m:Int))=decide (n<m):=by rw [decide_eq_decide];omega
theorem F84_L8_is {c:Chg} {n:Int} {own:List Atm} {K:Kn} (hp:preM c n) (hl:own.length<=16777216) (h:KA K (own++(Qo c n++egsL c n))):F84_L8 K (c,n,c.lines,(c.lines.length:Int),0,own,()):=by
 obtain ⟨hk,h1,h2,h3⟩:=hp
 unfold F84_L8
 refine qZ.mapN c.lines.length (lnI c n) (fun i out=>(c,n,c.lines,(c.lines.length:Int),(i:Int),own++out,())) (by rw [List.append_nil];rfl) (fun W i hi out ho hW=> ?_) fun W=> ?_
 . show JB K W c n c.lines c.lines.length i (own++out)
   unfold JB
   rw [qH hi,cond_true]
   refine qM hi ⟨trivial,by simp only [List.length_singleton,List.length_append,ho];omega, ?_⟩
   rw [<- List.append_assoc,lnI_at hi] at hW
   rw [zU hi (by omega),w40 (by omega)]
   exact hW
 . show JB K W c n c.lines c.lines.length c.lines.length (own++Qo c n)
   unfold JB
   rw [qt,cond_false]
   unfold F84_L12
   have hlen:(own++Qo c n).length<=33554432:=by simp only [List.length_append,Qo,List.length_map,List.length_range];omega
   rw [<- List.append_assoc] at h
   generalize own++Qo c n=l at hlen h
   refine qZ.mapN (c.lines.length+1) (egI c n) (fun i out=>(c,n,(c.lines.length:Int),((c.lines.length+1:Nat):Int),(i:Int),l++out,frS c n i,())) (by rw [List.append_nil,w64 (by omega)];rfl) (fun W i hi out ho hW=> ?_) fun W=> ?_
   . show Ql K W c n c.lines.length ((c.lines.length+1:Nat):Int) i (l++out) (frS c n i)
     unfold Ql
     rw [qH hi,cond_true,leI]
     have hJ:Z4 K W c n c.lines.length i ((c.lines.length+1:Nat):Int) i (l++out) (frS c n i) (YL c n i):=by
      unfold Z4
      refine ⟨trivial,by simp only [List.length_singleton,List.length_append,ho];omega, ?_⟩
      rw [<- List.append_assoc] at hW
      rw [zU hi (by omega),w40 (n:=(c.lines.length:Int)+(i:Int)) (by omega),w40 (by omega)]
      have e:egI c n i=⟨⟨dz,n+((c.lines.length:Int)+(i:Int))⟩,6,c.file,0,iz,⟨#[]⟩,0,⟨#[]⟩,⟨#[]⟩,frS c n i,YL c n i,[]⟩:=by
       rw [frS_frm (by omega), <- Int.add_assoc];rfl
      rw [e] at hW
      exact hW
     unfold YL at hJ
     by_cases hlt:i<c.lines.length
     . rw [decide_eq_true hlt] at hJ ⊢
       rw [cond_true,w40 (n:=n+(i:Int)) (by omega)]
       exact ⟨trivial,hJ⟩
     . rw [decide_eq_false hlt] at hJ ⊢
       exact hJ
   . show Ql K W c n c.lines.length ((c.lines.length+1:Nat):Int) ((c.lines.length+1:Nat):Int) (l++egsL c n) (frS c n (c.lines.length+1))
     unfold Ql
     rw [qt,cond_false]
     exact h
theorem F84_is {c:Chg} {n:Int} {own:List Atm} {K:Kn} (hp:preM c n) (hl:own.length<=16777216) (h:KA K (own++jZ c n)):F84 (n,c,own,()) K:=by
 have hp':=hp
 obtain ⟨hk,h1,h2,h3⟩:=hp'
 have hz:IntKind.i64.wrap (n+0)=n:=by rw [Int.add_zero,w40 (by omega)]
 have hr:(own.length+1)*296<=140737488355328:=by omega
 unfold F84
 dsimp only
 simp only [hz]
 obtain ⟨kind,file,typ,parent,name,mode,data,after,before,lines,over⟩:=c
 have hk1:(1:Int)<=kind/\kind<=7:=hk
 have:kind=1∨kind=2∨kind=3∨kind=4∨kind=5∨kind=6∨kind=7:=by omega
 rcases this with rfl | rfl | rfl | rfl | rfl | rfl | rfl
 . exact ⟨trivial,trivial,hr,h⟩
 . show True/\qG _ _ _
   exact ⟨trivial,hr,h⟩
 . show True/\qG _ _ _
   exact ⟨trivial,hr,h⟩
 . show True/\qG _ _ _
   exact ⟨trivial,hr,h⟩
 . exact F84_L8_is hp hl h
 . show True/\qG _ _ _
   exact ⟨trivial,hr,h⟩
 . show True/\qG _ _ _
   exact ⟨trivial,hr,h⟩
def rw84:Raw:=⟨S84,O84,L84,0,fun g K _=>pre84 g/\K (.tu []) [some (.cells [.oa .atm 1 0]),some (.arr 0 .atm (g.2.2.1++jZ g.2.1 g.1))]⟩
theorem rw84_ok:rw84.Ok Tryz.prog 84:=fun g K X h=>F84_ok g K X (F84_is h.1.1 h.1.2 h.2)
abbrev KN (K:Kn):Int->Prop:=fun n=>K (.tu []) [some (.cells [.int .i64 n])]
theorem F84b_L8_is {c:Chg} {n m:Int} {K:Kn} (hp:preM c n) (hm:0<=m/\m<=1099511627776) (h:KN K (m+(2*(c.lines.length:Int)+1))):Yy K (c,n,c.lines,(c.lines.length:Int),0,m,()):=by
 obtain ⟨hk,h1,h2,h3⟩:=hp
 unfold Yy
 refine qZ.countTo c.lines.length (fun i=>(c,n,c.lines,(c.lines.length:Int),(i:Int),m+(i:Int),())) (fun _=>True) (by rw [show m+((0:Nat):Int)=m by omega];rfl) (fun i hi _ W hW=> ?_) trivial
 show Yc K W c n c.lines c.lines.length i (m+i)
 unfold Yc
 by_cases hlt:i<c.lines.length
 . rw [qH hlt,cond_true]
   refine qM hlt ⟨trivial, ?_⟩
   have:=hW hlt trivial
   dsimp only
   rw [zU hlt (by omega),w40 (by omega),show m+(i:Int)+1=m+((i+1:Nat):Int)by omega]
   exact this
 . have:i=c.lines.length:=by omega
   subst this
   rw [qt,cond_false]
   unfold KT
   refine qZ.countTo (c.lines.length+1) (fun i=>(c,n,(c.lines.length:Int),((c.lines.length+1:Nat):Int),(i:Int),m+(c.lines.length:Int)+(i:Int),frS c n i,())) (fun _=>True) (by rw [show m+(c.lines.length:Int)+((0:Nat):Int)=m+(c.lines.length:Int)by omega,w64 (by omega)];rfl) (fun i hi _ W hW=> ?_) trivial
   show J7 K W c n c.lines.length ((c.lines.length+1:Nat):Int) i (m+c.lines.length+i) (frS c n i)
   unfold J7
   by_cases hlt:i<c.lines.length+1
   . rw [qH hlt,cond_true,leI]
     have hW:=hW hlt trivial
     have hJ:QA K W c n c.lines.length i ((c.lines.length+1:Nat):Int) i (m+c.lines.length+i) (frS c n i) (YL c n i):=by
      unfold QA
      refine ⟨trivial, ?_⟩
      dsimp only
      rw [zU hlt (by omega),w40 (n:=m+(c.lines.length:Int)+(i:Int)+1) (by omega),show m+(c.lines.length:Int)+(i:Int)+1=m+(c.lines.length:Int)+((i+1:Nat):Int)by omega]
      exact hW
     unfold YL at hJ
     by_cases hlt:i<c.lines.length
     . rw [decide_eq_true hlt] at hJ ⊢
       rw [cond_true,w40 (n:=n+(i:Int)) (by omega)]
       exact ⟨trivial,hJ⟩
     . rw [decide_eq_false hlt] at hJ ⊢
       exact hJ
   . have:i=c.lines.length+1:=by omega
     subst this
     rw [qt,cond_false,show m+(c.lines.length:Int)+((c.lines.length+1:Nat):Int)=m+(2*(c.lines.length:Int)+1)by omega]
     exact h
theorem F84b_is {c:Chg} {n m:Int} {K:Kn} (hp:preM c n) (hm:0<=m/\m<=1099511627776) (h:KN K (m+XS c)):F84b (n,c,m,()) K:=by
 have hp':=hp
 obtain ⟨hk,h1,h2,h3⟩:=hp'
 have hz:IntKind.i64.wrap (n+0)=n:=by rw [Int.add_zero,w40 (by omega)]
 have hw:IntKind.i64.wrap (m+1)=m+1:=w40 (by omega)
 unfold F84b
 dsimp only
 simp only [hz,hw]
 obtain ⟨kind,file,typ,parent,name,mode,data,after,before,lines,over⟩:=c
 have hk1:(1:Int)<=kind/\kind<=7:=hk
 have:kind=1∨kind=2∨kind=3∨kind=4∨kind=5∨kind=6∨kind=7:=by omega
 rcases this with rfl | rfl | rfl | rfl | rfl | rfl | rfl
 . exact ⟨trivial,trivial,h⟩
 . show True/\_
   exact ⟨trivial,h⟩
 . show True/\_
   exact ⟨trivial,h⟩
 . show True/\_
   exact ⟨trivial,h⟩
 . have h1:lines.length<=4194304:=h1
   have e:XS ⟨5,file,typ,parent,name,mode,data,after,before,lines,over⟩=2*(lines.length:Int)+1:=by
    unfold XS
    show IntKind.i64.wrap (IntKind.i64.wrap (2*(lines.length:Int))+1)=_
    rw [w64 (n:=2*(lines.length:Int)) (by omega),w64 (by omega)]
   rw [e] at h
   exact F84b_L8_is hp hm h
 . show True/\_
   exact ⟨trivial,h⟩
 . show True/\_
   exact ⟨trivial,h⟩
def V3:Raw:=⟨S84b,O84b,YJ,0,fun g K _=>pre84b g/\K (.tu []) [some (.cells [.int .i64 (g.2.2.1+XS g.2.1)])]⟩
theorem rw84b_ok:V3.Ok Tryz.prog 84:=fun g K X h=>F84b_ok g K X (F84b_is h.1.1 h.1.2 h.2)
end Go.Proofs.YtbglndogddddoaaGreatDoor
namespace Go.Proofs.YtbglndogddddoaaGreatDoor
open Go.RowKit
attribute [local irreducible] qJ qd
set_option maxRecDepth 100000
def H69:List (Nat×Hint):=[(2,⟨[((2,[]),none)],[(1, .leaf),(2, .pt 0 0),(8, .leaf),(9, .leaf),(10, .leaf)],[.el],[.sl .atm, .sl .ref, .int .i64, .int .i64, .el .chg]⟩)]
def J69:List (Nat×Hint):=[(6,⟨[((2,[]),none),((6,[]),none)],[(1, .leaf),(2, .pt 0 0),(6, .pt 1 0),(8, .leaf),(9, .leaf),(10, .leaf),(14, .leaf)],[.el, .el],[.sl .atm, .sl .ref, .int .i64, .int .i64, .bool, .el .chg, .el .ref]⟩),(7,⟨[((2,[]),none),((6,[]),none)],[(1, .leaf),(2, .pt 0 0),(6, .pt 1 0),(8, .leaf),(9, .leaf),(10, .leaf),(14, .leaf)],[.el, .el],[.sl .atm, .sl .ref, .int .i64, .int .i64, .bool, .el .chg, .el .ref]⟩),(9,⟨[((2,[]),none)],[(1, .leaf),(2, .pt 0 0),(8, .leaf),(9, .leaf),(10, .leaf),(34, .leaf)],[.el],[.sl .atm, .sl .ref, .int .i64, .int .i64, .bool, .el .chg]⟩),(12,⟨[((2,[]),none)],[(2, .pt 0 0),(51, .leaf)],[.el],[.bool, .el .chg]⟩),(14,⟨[((2,[]),none)],[(2, .pt 0 0),(62, .leaf)],[.el],[.bool, .el .chg]⟩),(15,⟨[],[(62, .leaf)],[],[.bool]⟩)]
abbrev S69:List Sh:=[.leaf, .leaf]
abbrev L69:List Lf:=[.el .chg, .sl .atm]
def xd (K:Kn) (W2:prodL [.sl .atm, .sl .ref, .int .i64, .int .i64, .el .chg]->Prop) (atoms_10:List Atm) (t_10:List Rfn) (t2_10 t3_10:Int) (t4_10:Bool) (c_10:Chg):Prop:=
 bif t4_10 then (
   K (.int .i64 8) [])
  else (
   W2 (atoms_10,t_10,t2_10,IntKind.i64.wrap (t3_10+1),c_10,()))
def QZ (K:Kn) (W2:prodL [.sl .atm, .sl .ref, .int .i64, .int .i64, .el .chg]->Prop) (atoms_6:List Atm) (t_6:List Rfn) (t2_6 t3_6:Int) (t4_6:Bool) (c_6:Chg) (r_6:Rfn):Prop:=
 bif t4_6 then (
  K (.int .i64 7) [])
 else (
  True/\
  bif y7 r_6.id then (
   At atoms_6 r_6.id.n fun u7=>
   fdGo r_6.fits (
    True/\
    xd K W2 atoms_6 t_6 t2_6 t3_6 (!(decide (u7.kind=1))) c_6)
   (
    True/\
    xd K W2 atoms_6 t_6 t2_6 t3_6 (!(qqV u7)) c_6)
   (
    True/\
    xd K W2 atoms_6 t_6 t2_6 t3_6 (!(fitTx u7)) c_6)
   (
    True/\
    xd K W2 atoms_6 t_6 t2_6 t3_6 (!(KH u7)) c_6)
   (fun c8=>
    True/\
    xd K W2 atoms_6 t_6 t2_6 t3_6 (!(KC u7 c8)) c_6)
   (fun c9=>
    True/\
    xd K W2 atoms_6 t_6 t2_6 t3_6 (!(Y3 u7 c9)) c_6))
  else (
   xd K W2 atoms_6 t_6 t2_6 t3_6 false c_6))
def Yo (K:Kn) (W2:prodL [.sl .atm, .sl .ref, .int .i64, .int .i64, .el .chg]->Prop) (atoms_4:List Atm) (t_4:List Rfn) (t2_4 t3_4:Int) (t4_4:Bool) (c_4:Chg) (r_4:Rfn):Prop:=
 bif t4_4 then (
   QZ K W2 atoms_4 t_4 t2_4 t3_4 true c_4 r_4)
  else (
   QZ K W2 atoms_4 t_4 t2_4 t3_4 (decide (100000<=r_4.id.n)) c_4 r_4)
def wW (K:Kn) (t_16:Bool):Prop:=
 bif t_16 then (
   K (.int .i64 1) [])
  else (
   K (.int .i64 0) [])
def kO (K:Kn) (t_14:Bool) (c_14:Chg):Prop:=
 bif t_14 then (
   wW K true)
  else (
   bif decide (c_14.kind=5)then (
    bif zy c_14.after c_14.before then (
     wW K (!(zy c_14.after c_14.file)))
    else (
     wW K false))
   else (
    wW K false))
def wt (K:Kn) (t_13:Bool) (c_13:Chg):Prop:=
 bif t_13 then (
  K (.int .i64 20) [])
 else (
  bif decide (c_13.kind=6)then (
   kO K (zy c_13.after c_13.before) c_13)
  else (
   kO K false c_13))
def JC (K:Kn) (W2:prodL [.sl .atm, .sl .ref, .int .i64, .int .i64, .el .chg]->Prop) (atoms_1:List Atm) (t_1:List Rfn) (t2_1 t3_1:Int) (c_1:Chg):Prop:=
 bif decide (t3_1<t2_1)then (
  At t_1 t3_1 fun u3=>
 bif decide (u3.id.n<0)then (
  QZ K W2 atoms_1 t_1 t2_1 t3_1 true c_1 u3)
 else (
  True/\
  bif y7 u3.id then (
   Yo K W2 atoms_1 t_1 t2_1 t3_1 (decide ((atoms_1.length:Int)<=u3.id.n)) c_1 u3)
  else (
   Yo K W2 atoms_1 t_1 t2_1 t3_1 false c_1 u3)))
 else (
  bif decide (c_1.kind=2)then (
  wt K (zy c_1.parent c_1.file) c_1)
 else (
  wt K false c_1))
def F69_L2 (K:Kn) (g:prodL [.sl .atm, .sl .ref, .int .i64, .int .i64, .el .chg]):Prop:=
 qZ (γ:=prodL [.sl .atm, .sl .ref, .int .i64, .int .i64, .el .chg]) (fun V y=>JC K V y.1 y.2.1 y.2.2.1 y.2.2.2.1 y.2.2.2.2.1) g
def F69 (g:prodL L69) (K:Kn):Prop:=
 sp46.pre (g.1,())/\
 F69_L2 K (g.2.1,zR g.1,(((zR g.1).length:Nat):Int),0,g.1,())
theorem F69_eq (g:prodL L69) (K X:Kn):F69 g K=qJ D (qQ [] [(46,false,sp46),(47,true,KV),(89,false,sp89),(90,true,sp90),(91,true,sp91),(92,true,sp92),(93,true,sp93),(94,true,sp94)]) (qw []) H69 J69 90 [.tmp 4] (qz Tryz.f69) (argsT S69 L69 g) [] (settle0 K) X:=by kernel_rfl
theorem F69_ok (g:prodL L69) (K X:Kn) (h:F69 g K):FCalls Tryz.prog 69 (argsT S69 L69 g) [] K X:=
 FCalls.settle0 (qq qh (wQ (vf sp46_ok (vf WE (vf sp89_ok (vf sp90_ok (vf sp91_ok (vf sp92_ok (vf sp93_ok (vf sp94_ok wZ))))))))) qx rfl Tryz.func69 (c:=qz Tryz.f69) rfl Tryz.ntmps69 Tryz.results69 (by unfold qk;rw [Tryz.func69];kernel_rfl) (Nat.le_of_ble_eq_true (by kernel_rfl)) (c0:=0) (Eq.mp (F69_eq g K X) h))
end Go.Proofs.YtbglndogddddoaaGreatDoor
namespace Go.Proofs.YtbglndogddddoaaGreatDoor
open Go.RowKit
set_option maxRecDepth 100000
def w8 (own:List Atm) (b:Bool) (r:Rfn):Int:=bif b then 7 else bif (bif y7 r.id then !(fitFd r.fits (own.getD r.id.n.toNat az))else false)then 8 else 0
theorem kA {K:Kn} {W:prodL [.sl .atm, .sl .ref, .int .i64, .int .i64, .el .chg]->Prop} {own:List Atm} {l:List Rfn} {m n:Int} {b:Bool} {c:Chg} {r:Rfn}
  (hb:b=false->y7 r.id=true->0<=r.id.n/\r.id.n< (own.length:Int)) (h0:w8 own b r=0->W (own,l,m,IntKind.i64.wrap (n+1),c,())) (h1:w8 own b r≠0->KI K (w8 own b r)):QZ K W own l m n b c r:=by
 unfold QZ
 cases b
 rotate_left
 . exact h1 (show (7:Int)≠0 by decide)
 refine ⟨trivial, ?_⟩
 have hJ: ∀t:Bool,((bif t then (8:Int)else 0)=0->W (own,l,m,IntKind.i64.wrap (n+1),c,()))->((bif t then (8:Int)else 0)≠0->KI K (bif t then 8 else 0))->xd K W own l m n t c:=by
  intro t h0 h1
  unfold xd
  cases t
  . exact h0 rfl
  . exact h1 (show (8:Int)≠0 by decide)
 unfold w8 at h0 h1
 rw [cond_false] at h0 h1
 cases e:y7 r.id
 . rw [e] at h0 h1
   exact hJ false h0 h1
 . rw [e] at h0 h1
   rw [cond_true] at h0 h1 ⊢
   obtain ⟨n0,n1⟩:=hb rfl e
   have hn:r.id.n.toNat<own.length:=by omega
   rw [List.getD_eq_getElem?_getD,jI hn] at h0 h1
   refine ⟨n0,own[r.id.n.toNat],jI hn, ?_⟩
   obtain ⟨id,fits⟩:=r
   cases fits with
   | file=>exact ⟨trivial,hJ _ h0 h1⟩
   | data=>exact ⟨trivial,hJ _ h0 h1⟩
   | txt=>exact ⟨trivial,hJ _ h0 h1⟩
   | dir=>exact ⟨trivial,hJ _ h0 h1⟩
   | fin c=>exact ⟨trivial,hJ _ h0 h1⟩
   | sup c=>exact ⟨trivial,hJ _ h0 h1⟩
theorem F69_J18_is {c:Chg} {K:Kn} (h:KI K (lastP c)):(bif decide (c.kind=2)then wt K (zy c.parent c.file) c else wt K false c):=by
 have h17: ∀b:Bool,KI K (bif b then 1 else 0)->wW K b:=fun b=>by unfold wW;exact ju (K:=KI K) id id
 have h15: ∀b,KI K (Jy b c)->kO K b c:=by
  intro b h
  unfold kO
  unfold Jy at h
  cases b
  rotate_left
  . exact h17 true h
  rw [cond_false] at h ⊢
  cases e1:decide (c.kind=5)
  . rw [e1] at h;exact h17 false h
  . rw [e1] at h
    exact ZW (J:=wW K) (f:=fun b:Bool=>bif b then (1:Int)else 0) (K:=KI K) h17 h
 have h18: ∀b,KI K (JY b c)->wt K b c:=by
  intro b h
  unfold wt
  unfold JY at h
  cases b
  rotate_left
  . exact h
  exact ZW (J:=fun b=>kO K b c) (f:=fun b=>Jy b c) (K:=KI K) h15 h
 exact ZW (J:=fun b=>wt K b c) (f:=fun b=>JY b c) (K:=KI K) h18 h
theorem refsC_len {c:Chg} (hl:c.over.length<=4194304):(zR c).length<=4194400:=by
 have hs:(supL c).length=c.over.length:=by simp [supL]
 have h17: ∀t out,(rL17 c t out).length<=out.length+2+c.over.length:=fun t out=>by
  unfold rL17;cases t<;>simp only [cond_true,cond_false,List.length_append,hs,List.length_singleton]<;>omega
 have h12: ∀t out,(rL12 c t out).length<=out.length+3+c.over.length:=fun t out=>by
  unfold rL12;cases t
  . have:=h17 (bif decide (c.kind=5)then true else decide (c.kind=6)) out;simp only [cond_false,rL24];omega
  . have:=h17 (bif decide (c.kind=5)then true else decide (c.kind=6)) (out++[⟨c.parent,Fd.dir⟩]);simp only [cond_true,rL24,List.length_append,List.length_singleton] at this ⊢;omega
 have h25: ∀out,(rL25 c out).length<=out.length+3+c.over.length:=fun out=>h12 _ _
 have h7: ∀t,(rL7 c t).length<=4+c.over.length:=fun t=>by
  unfold rL7;cases t
  . have:=h25 [];simp only [cond_false,List.length_nil] at this ⊢;omega
  . have:=h25 [⟨c.file,Fd.txt⟩];simp only [cond_true,List.length_singleton] at this ⊢;omega
 have h8: ∀k t,(rL8 c k t).length<=4+c.over.length:=fun k t=>by
  unfold rL8;cases t
  . rw [cond_false]
    cases decide (k=4)
    . exact h7 _
    . have:=h25 [⟨c.file,Fd.data⟩];simp only [cond_true,List.length_singleton] at this ⊢;omega
  . have:=h25 [⟨c.file,Fd.file⟩];simp only [cond_true,List.length_singleton] at this ⊢;omega
 have:=h8 c.kind (bif decide (c.kind=2)then true else decide (c.kind=3))
 unfold zR
 omega
theorem F69_is {c:Chg} {own:List Atm} {K:Kn} (hl:c.over.length<=4194304) (h:KI K (QE c own)):F69 (c,own,()) K:=by
 unfold F69
 refine ⟨hl, ?_⟩
 have hN:=refsC_len hl
 unfold F69_L2
 unfold QE at h
 have hlen:((zR c).map (refE own)).length=(zR c).length:=by simp
 refine qZ.errs ((zR c).map (refE own)) (fun n=>(own,zR c,(((zR c).length:Nat):Int),(n:Int),c,())) (fun e=>KI K (bif !decide (e=0)then e else lastP c)) h rfl (fun W n hn h0 h1=> ?_) fun h W=> ?_
 . rw [hlen] at hn
   show JC K W own (zR c) (zR c).length n c
   unfold JC
   rw [qH hn,cond_true]
   refine qM hn ?_
   simp only [List.getElem_map] at h0 h1
   generalize (zR c)[n]=r at h0 h1 ⊢
   rw [<- zU hn (by omega)] at h0
   have h1:refE own r≠0->KI K (refE own r):=fun z=>by
    have:=h1 z
    rw [decide_eq_false z] at this;exact this
   unfold refE at h0 h1
   cases e1:decide (r.id.n<0)
   . rw [e1] at h0 h1
     rw [cond_false] at h0 h1 ⊢
     have hn0:0<=r.id.n:=by have:=of_decide_eq_false e1;omega
     refine ⟨trivial, ?_⟩
     have h5: ∀b,(b=false->y7 r.id=true->r.id.n< (own.length:Int))->(w8 own (bif b then true else decide (100000<=r.id.n)) r=0->W (own,zR c,(((zR c).length:Nat):Int),IntKind.i64.wrap ((n:Int)+1),c,()))->(w8 own (bif b then true else decide (100000<=r.id.n)) r≠0->KI K (w8 own (bif b then true else decide (100000<=r.id.n)) r))->Yo K W own (zR c) (((zR c).length:Nat):Int) n b c r:=by
      intro b hb h0 h1
      unfold Yo
      cases b
      . exact kA (fun _ e=>⟨hn0,hb rfl e⟩) h0 h1
      . exact kA (fun e=>by cases e) h0 h1
     cases e2:y7 r.id
     . rw [e2] at h0 h1
       refine h5 false (fun _ e=>by rw [e2] at e;cases e) ?_ ?_
       . unfold w8;rw [e2];exact h0
       . unfold w8;rw [e2];exact h1
     . rw [e2] at h0 h1
       refine h5 _ (fun e _=>by have:=of_decide_eq_false e;omega) ?_ ?_
       . unfold w8;rw [e2];exact h0
       . unfold w8;rw [e2];exact h1
   . rw [e1] at h0 h1
     exact kA (fun e=>by cases e) h0 h1
 . rw [hlen]
   show JC K W own (zR c) (zR c).length (zR c).length c
   unfold JC
   rw [qt,cond_false]
   exact F69_J18_is h
def sp69:Sp:=⟨S69,L69,fun g=>g.1.over.length<=4194304,fun g=> .int .i64 (QE g.1 g.2.1),fun _=>none⟩
theorem sp69_ok:sp69.Ok Tryz.prog 69 true:=
 ⟨fun g K X hp h=>F69_ok g K X (F69_is hp h),fun _ _ _=>rfl,fun _=>rfl,fun _ _=>⟨rfl,rfl⟩⟩
end Go.Proofs.YtbglndogddddoaaGreatDoor
namespace Go.Proofs.YtbglndogddddoaaGreatDoor
open Go.RowKit
attribute [local irreducible] qJ qd
set_option maxRecDepth 100000
def H36:List (Nat×Hint):=[(6,⟨[((1,[]),none),((6,[]),none),((6,[0]),some .atm)],[(1, .pt 0 0),(6, .pt 1 0),(20, .leaf),(21, .leaf),(22, .leaf)],[.cells [.leaf, .leaf, .leaf, .leaf, .leaf], .cells [.oa .atm 2], .arr .atm],[.sl .chg, .int .i64, .int .i64, .str, .str, .int .i64, .sl .dig, .sl .chg, .sl .atm]⟩)]
def J36:List (Nat×Hint):=[(20,⟨[((6,[]),none),((6,[0]),none)],[(6, .pt 0 0),(12, .leaf),(58, .leaf)],[.cells [.oa .atm 1], .arr .atm],[.str, .bool, .sl .atm]⟩)]
abbrev S36:List Sh:=[.ag [.leaf, .leaf, .leaf, .leaf, .leaf]]
abbrev L36:List Lf:=[.str, .str, .int .i64, .sl .dig, .sl .chg]
abbrev O36:List ObSh:=[]
def Xi (K:Kn) (s_4:ByteArray) (t_4:Bool) (atoms_4:List Atm):Prop:=
 bif t_4 then (
  K (.tu [.nil, .str (⟨#[]⟩:ByteArray), .int .i64 4]) [])
 else (
  K (.tu [.oa .atm 0 0, .str s_4, .int .i64 0]) [some (.arr 0 .atm atoms_4)])
def XB (K:Kn) (W2:prodL [.sl .chg, .int .i64, .int .i64, .str, .str, .int .i64, .sl .dig, .sl .chg, .sl .atm]->Prop) (t_1:List Chg) (t2_1 t3_1:Int) (p1_1 p2_1:ByteArray) (p3_1:Int) (p4_1:List Dig) (p5_1:List Chg) (atoms_1:List Atm):Prop:=
 bif decide (t3_1<t2_1)then (
  At t_1 t3_1 fun u3=>
 sp68.pre (u3,())/\
 bif !decide (jH u3=0)then (
  K (.tu [.nil, .str (⟨#[]⟩:ByteArray), .int .i64 (jH u3)]) [])
 else (
  sp69.pre (u3,atoms_1,())/\
 bif !decide (QE u3 atoms_1=0)then (
  K (.tu [.nil, .str (⟨#[]⟩:ByteArray), .int .i64 (QE u3 atoms_1)]) [])
 else (
  True/\
 pre84 ((atoms_1.length:Int),u3,atoms_1,())/\
 W2 (t_1,t2_1,IntKind.i64.wrap (t3_1+1),p1_1,p2_1,p3_1,p4_1,p5_1,atoms_1++jZ u3 (atoms_1.length:Int),()))))
 else (
  sp70.pre (p1_1,p2_1,p3_1,p4_1,p5_1,())/\
 bif !decide ((wL (jV p1_1 p2_1 p3_1 (jA p4_1) p5_1)).2=0)then (
  Xi K ((wL (jV p1_1 p2_1 p3_1 (jA p4_1) p5_1)).1) true atoms_1)
 else (
  Xi K ((wL (jV p1_1 p2_1 p3_1 (jA p4_1) p5_1)).1) (decide (65536< (((wL (jV p1_1 p2_1 p3_1 (jA p4_1) p5_1)).1).size:Int))) atoms_1))
def F36_L2 (K:Kn) (g:prodL [.sl .chg, .int .i64, .int .i64, .str, .str, .int .i64, .sl .dig, .sl .chg, .sl .atm]):Prop:=
 qZ (γ:=prodL [.sl .chg, .int .i64, .int .i64, .str, .str, .int .i64, .sl .dig, .sl .chg, .sl .atm]) (fun V y=>XB K V y.1 y.2.1 y.2.2.1 y.2.2.2.1 y.2.2.2.2.1 y.2.2.2.2.2.1 y.2.2.2.2.2.2.1 y.2.2.2.2.2.2.2.1 y.2.2.2.2.2.2.2.2.1) g
def F36 (g:prodL L36) (K:Kn):Prop:=
 sp67.pre (g.1,g.2.1,g.2.2.1,g.2.2.2.1,g.2.2.2.2.1,())/\
 bif !decide (xG zD g.1 g.2.1 g.2.2.1 g.2.2.2.1 g.2.2.2.2.1=0)then (
  K (.tu [.nil, .str (⟨#[]⟩:ByteArray), .int .i64 (xG zD g.1 g.2.1 g.2.2.1 g.2.2.2.1 g.2.2.2.2.1)]) [])
 else (
  F36_L2 K (g.2.2.2.2.1,(g.2.2.2.2.1.length:Int),0,g.1,g.2.1,g.2.2.1,g.2.2.2.1,g.2.2.2.2.1,[],()))
theorem F36_eq (g:prodL L36) (K X:Kn):F36 g K=qJ D (qQ [(84,rw84)] [(43,false,sp43),(67,true,sp67),(68,true,sp68),(69,true,sp69),(70,true,sp70)]) (qw [(84,rw84)]) H36 J36 61 [.tmp 2, .tmp 3, .tmp 4] (qz Tryz.f36) (argsT S36 L36 g) (qa S36 O36 L36 g) (settleD (qa S36 O36 L36 g).length 0 K) X 0 1036000:=by kernel_rfl
theorem F36_ok (g:prodL L36) (K X:Kn) (h:F36 g K):FCalls Tryz.prog 36 (argsT S36 L36 g) (qa S36 O36 L36 g) K X 0:=
 FCalls.settleD (qq (Γ:=qQ [(84,rw84)] [(43,false,sp43),(67,true,sp67),(68,true,sp68),(69,true,sp69),(70,true,sp70)]) (mu:=qw [(84,rw84)]) (H:=H36) (J:=J36) qh (qX (rs:=[(84,rw84)]) (l:=[(43,false,sp43),(67,true,sp67),(68,true,sp68),(69,true,sp69),(70,true,sp70)]) (by intro p hp;simp only [List.mem_cons,List.not_mem_nil,or_false] at hp;subst hp;exact rw84_ok) (by intro p hp;simp only [List.mem_cons,List.not_mem_nil,or_false] at hp;rcases hp with rfl | rfl | rfl | rfl | rfl<;>first | exact sp43_ok | exact sp67_ok | exact sp68_ok | exact sp69_ok | exact sp70_ok)) qx rfl Tryz.func36 (c:=qz Tryz.f36) rfl Tryz.ntmps36 (rs:=[.tmp 2, .tmp 3, .tmp 4]) Tryz.results36 (by unfold qk;rw [Tryz.func36];kernel_rfl) (Nat.le_of_ble_eq_true (by kernel_rfl)) (X:=X) (c0:=0) (Eq.mp (F36_eq g K X) h) (wT [16] (by kernel_rfl) (by kernel_rfl)))
end Go.Proofs.YtbglndogddddoaaGreatDoor
namespace Go.Proofs.YtbglndogddddoaaGreatDoor
open Go.RowKit
set_option maxRecDepth 100000
def virtU (e0:El) (K:Kn):Kn:=fun r s=>match r with
 | .tu (.nil::us)=>K (.tu (.oa e0 s.length 0::us)) (jq s e0)
 | r=>K r s
theorem FCalls.virtU {P:Program} {f:FuncId} {vs:List T} {K X:Kn} {e0:El} (h:FCalls P f vs [] (virtU e0 K) X):FCalls P f vs [] K X:=by
 refine fun g w hg=>(h g w hg).mono fun e w' ⟨g',st',h1,h2,h3⟩=> ?_
 cases e with
 | returned x=>
  obtain ⟨r,r1,r2⟩:=h3
  unfold Go.Proofs.YtbglndogddddoaaGreatDoor.virtU at r1
  split at r1
  . rename_i us
    obtain ⟨g2,k1,k2,k3,k4⟩:=Zw h1 e0
    refine ⟨g2,_,k1,h2.trans (k3 _),_,r1, ?_⟩
    cases r2 with
    | tu _ xs a1 a2=>
     refine .tu _ xs (by simpa using a1) fun i c x hc hx=> ?_
     cases i with
     | zero=>
      simp only [List.getElem?_cons_zero,Option.some.injEq] at hc
      subst hc
      exact k4 _ (a2 0 .nil x rfl hx)
     | succ i=>exact (a2 (i+1) c x hc hx).mono k2
  . exact ⟨g',st',h1,h2,_,r1,r2⟩
 | panicked ch=>exact ⟨g',st',h1,h2,h3⟩
 | outgrown=>exact h3.elim
theorem Kh {K:Kn} {e:El} {v:T} {s:St} (h:K (.tu [.sl false e [],v]) s):kB K (.tu [.nil,v]) s:=
 ⟨_,zM.tu (qO.cons (zM.nil e) (qO.cons (zM.refl _) qO.nil)),h⟩
def zW (cs:List Chg) (n:Nat):List Atm:=(cs.take n).foldl (fun own c=>own++jZ c own.length) []
theorem xR {cs:List Chg} {n:Nat} (h:n<cs.length):zW cs (n+1)=zW cs n++jZ cs[n] (zW cs n).length:=by
 unfold zW
 rw [zg h,List.foldl_append];rfl
theorem qZ.chgs {γ:Type} {body:(γ->Prop)->γ->Prop} {g:γ} (f:Chg->Int) (r:Chg->List Atm->Int) (cs:List Chg) (S:Nat->List Atm->γ) (Q:List Atm×Int->Prop) (hQ:Q (xO f r cs [])) (hg:g=S 0 [])
  (hk: ∀c,f c=0->jJ c) (hb:(cs.map qf).sum<=4194304)
  (step: ∀(W:γ->Prop) (n:Nat) (h:n<cs.length) (own:List Atm),own.length<=8388608->(f cs[n]≠0->Q ([],f cs[n]))->(f cs[n]=0->r cs[n] own≠0->Q ([],r cs[n] own))->(f cs[n]=0->r cs[n] own=0->W (S (n+1) (own++jZ cs[n] own.length)))->body W (S n own))
  (last: ∀(W:γ->Prop) (own:List Atm),(∀c∈cs,jJ c)->Q (own,0)->body W (S cs.length own)):qZ body g:=by
 have sums: ∀n,((cs.take n).map qf).sum<=(cs.map qf).sum:=fun n=>by
  have e:(cs.map qf).sum=((cs.take n).map qf).sum+((cs.drop n).map qf).sum:=by
   rw [<- List.sum_append, <- List.map_append,List.take_append_drop]
  omega
 refine qZ.countTo cs.length (fun n=>S n (zW cs n)) (fun n=>(zW cs n).length<=2*((cs.take n).map qf).sum/\(∀c∈cs.take n,jJ c)/\Q (xO f r (cs.drop n) (zW cs n))) hg (fun n hn hp W hW=> ?_) ⟨by simp [zW],fun c hc=>by simp at hc,by simpa [zW] using hQ⟩
 obtain ⟨p1,p2,p3⟩:=hp
 have hs:=sums n
 by_cases hlt:n<cs.length
 . rw [List.drop_eq_getElem_cons hlt,xO] at p3
   refine step W n hlt _ (by omega) (fun z=> ?_) (fun z y=> ?_) fun z y=> ?_
   . rw [decide_eq_false z] at p3;exact p3
   . rw [decide_eq_true z,decide_eq_false y] at p3;exact p3
   . rw [decide_eq_true z,decide_eq_true y] at p3
     rw [<- xR hlt]
     refine hW hlt ⟨?_,fun c hc=> ?_, ?_⟩
     . rw [xR hlt,zg hlt,List.map_append,List.sum_append,List.length_append]
       have:=madeL_le (n:=((zW cs n).length:Int)) (hk _ z)
       simp only [List.map_cons,List.map_nil,List.sum_cons,List.sum_nil]
       omega
     . rw [zg hlt] at hc
       rcases List.mem_append.1 hc with hc | hc
       . exact p2 c hc
       . rw [List.mem_singleton.1 hc];exact hk _ z
     . rw [xR hlt];exact p3
 . have:n=cs.length:=by omega
   subst this
   rw [List.drop_length] at p3
   rw [List.take_length] at p2
   exact last W _ p2 p3
abbrev K3 (K:Kn):List Atm×ByteArray×Int->Prop:=fun x=>K (.tu [.oa .atm 0 0, .str x.2.1, .int .i64 x.2.2]) [some (.arr 0 .atm x.1)]
theorem F36_is {a m:ByteArray} {t:Int} {ds:List Dig} {cs:List Chg} {K:Kn} (hp:xP a m t ds cs) (h:K3 K (jQ a m t ds cs)):F36 (a,m,t,ds,cs,()) (virtU .atm K):=by
 obtain ⟨h1,h2,h3,h4,h5,h6⟩:=hp
 have hl:=Q8 h5
 unfold F36
 unfold jQ at h
 refine ⟨Nat.le_trans h2 (by omega), ?_⟩
 show bif !decide (xG zD a m t ds cs=0)then _ else _
 by_cases z:xG zD a m t ds cs=0
 rotate_left
 . rw [decide_eq_false z] at h ⊢;exact h
 rw [decide_eq_true z] at h ⊢
 rw [Bool.not_true,cond_false] at h ⊢
 unfold F36_L2
 refine qZ.chgs jH QE cs (fun n own=>(cs,(cs.length:Int),(n:Int),a,m,t,ds,cs,own,())) (fun r=>K3 K (kM r (wL (jV a m t (jA ds) cs)))) h rfl (fun c=>zC) h5 (fun W n hn own ho e1 e2 e3=> ?_) fun W own hk h=> ?_
 . show XB (virtU .atm K) W cs cs.length n a m t ds cs own
   unfold XB
   rw [qH hn,cond_true]
   have hc:=ZJ h5 (List.getElem_mem hn)
   have hpp:=zF hc
   refine qM hn ⟨hc, ?_⟩
   by_cases y:jH cs[n]=0
   rotate_left
   . have e1:=e1 y
     unfold kM at e1
     rw [decide_eq_false y] at e1 ⊢;exact e1
   rw [decide_eq_true y,Bool.not_true,cond_false]
   refine ⟨hpp.2.2.2.2, ?_⟩
   by_cases x:QE cs[n] own=0
   rotate_left
   . have e2:=e2 y x
     unfold kM at e2
     rw [decide_eq_false x] at e2 ⊢;exact e2
   rw [decide_eq_true x,Bool.not_true,cond_false]
   refine ⟨trivial,⟨⟨zC y,hpp.2.2.1,by omega,by show (own.length:Int)<=_;omega⟩,by show own.length<=_;omega⟩, ?_⟩
   rw [zU hn (by omega)]
   exact e3 y x
 . show XB (virtU .atm K) W cs cs.length cs.length a m t ds cs own
   unfold XB
   rw [qt,cond_false]
   refine ⟨⟨h1,h2,h3,h4,h5,fun c hc=>⟨h6 c hc,hk c hc⟩⟩, ?_⟩
   have hJ: ∀b,K3 K (exP5 own (wL (jV a m t (jA ds) cs)).1 b)->Xi (virtU .atm K) (wL (jV a m t (jA ds) cs)).1 b own:=by
    intro b h
    unfold Xi
    cases b
    . exact h
    . exact h
   exact ZW (J:=fun b=>Xi (virtU .atm K) (wL (jV a m t (jA ds) cs)).1 b own) (f:=fun b=>exP5 own (wL (jV a m t (jA ds) cs)).1 b) (K:=K3 K) hJ h
def v8:Sp:=⟨S36,L36,fun g=>xP g.1 g.2.1 g.2.2.1 g.2.2.2.1 g.2.2.2.2.1,fun g=> .tu [.oa .atm 0 0, .str (jQ g.1 g.2.1 g.2.2.1 g.2.2.2.1 g.2.2.2.2.1).2.1, .int .i64 (jQ g.1 g.2.1 g.2.2.1 g.2.2.2.1 g.2.2.2.2.1).2.2],fun g=>some (.arr 0 .atm (jQ g.1 g.2.1 g.2.2.1 g.2.2.2.1 g.2.2.2.2.1).1)⟩
theorem Z2:v8.Ok Tryz.prog 36 false:=
 ⟨fun g K X hp h=>FCalls.virtU (e0:= .atm) (F36_ok g (virtU .atm K) X (F36_is hp h)),fun _ _ _=>rfl,fun _=>rfl,fun h=>(by cases h)⟩
abbrev K2 (K:Kn):List Atm×Int->Prop:=fun x=>K (.tu [.sl false .atm x.1, .int .i64 x.2]) []
end Go.Proofs.YtbglndogddddoaaGreatDoor
