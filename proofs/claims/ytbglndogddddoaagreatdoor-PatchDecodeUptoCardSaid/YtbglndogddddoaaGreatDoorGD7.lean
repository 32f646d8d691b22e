import Derived.Shelf.SlSortCmp.NoneTotal
import Derived.Test.YtbglndogddddoaaGreatDoorCards
import Derived.LaidLaws
import Derived.LaidHandle
import Derived.MakeChecks
import Derived.LaidMore
import Derived.OpenShut
import Derived.ProofKit
import Derived.Stop.Joined
import Derived.JoinedCond
import Derived.Test.YtbglndogddddoaaGreatDoorGD6
set_option linter.unusedVariables false
set_option linter.unusedSimpArgs false
set_option linter.unusedSectionVars false
namespace Go.Proofs.YtbglndogddddoaaGreatDoor
section
open Go.RowKit Go.Lib Go.Shelf Go.Sort
set_option maxRecDepth 100000
def qqB:Go.Shelf.Ren:=⟨fun | 6=>87 | 15=>97 | 14=>138 | 28=>147 | 29=>148 | 20=>186 | 21=>187 | 22=>188 | 23=>189 | 24=>190 | 25=>191 | 26=>192 | 27=>193 | 46=>217 | 47=>195 | 48=>196 | 49=>218 | 50=>219 | 57=>231 | n=>n,fun | 22=>48 | 24=>36 | 25=>37 | 3=>3 | 39=>118 | 0=>0 | 53=>100 | 55=>137 | 4=>4 | 46=>161 | 45=>160 | 50=>165 | 5=>5 | 9=>9 | 66=>205 | 70=>209 | 76=>226 | 77=>227 | n=>n,fun | n=>n⟩
theorem qzv:Go.Proofs.SlLaysF0.n6 Tryz.prog qqB:={
 mixed:=by kernel_rfl
 f6:=⟨Tryz.f87.name,by decide,Tryz.func87.trans (congrArg some (by kernel_rfl))⟩
 f14:=⟨Tryz.f138.name,by decide,Tryz.func138.trans (congrArg some (by kernel_rfl))⟩
 f15:=Tryz.func97.trans (congrArg some (by kernel_rfl))
 f20:=⟨Tryz.f186.name,by decide,Tryz.func186.trans (congrArg some (by kernel_rfl))⟩
 f21:=⟨Tryz.f187.name,by decide,Tryz.func187.trans (congrArg some (by kernel_rfl))⟩
 f22:=⟨Tryz.f188.name,by decide,Tryz.func188.trans (congrArg some (by kernel_rfl))⟩
 f23:=⟨Tryz.f189.name,by decide,Tryz.func189.trans (congrArg some (by kernel_rfl))⟩
 f24:=⟨Tryz.f190.name,by decide,Tryz.func190.trans (congrArg some (by kernel_rfl))⟩
 f25:=⟨Tryz.f191.name,by decide,Tryz.func191.trans (congrArg some (by kernel_rfl))⟩
 f26:=⟨Tryz.f192.name,by decide,Tryz.func192.trans (congrArg some (by kernel_rfl))⟩
 f27:=⟨Tryz.f193.name,by decide,Tryz.func193.trans (congrArg some (by kernel_rfl))⟩
 f28:=Tryz.func147.trans (congrArg some (by kernel_rfl))
 f29:=Tryz.func148.trans (congrArg some (by kernel_rfl))
 f46:=⟨Tryz.f217.name,by decide,Tryz.func217.trans (congrArg some (by kernel_rfl))⟩
 f47:=Tryz.func195.trans (congrArg some (by kernel_rfl))
 f48:=Tryz.func196.trans (congrArg some (by kernel_rfl))
 f49:=⟨Tryz.f218.name,by decide,Tryz.func218.trans (congrArg some (by kernel_rfl))⟩
 f50:=⟨Tryz.f219.name,by decide,Tryz.func219.trans (congrArg some (by kernel_rfl))⟩
 f57:=⟨Tryz.f231.name,by decide,Tryz.func231.trans (congrArg some (by kernel_rfl))⟩
 t0:=Tryz.underlying0
 a0:=Tryz.isAgg0
 z0:=Tryz.sizeOf0
 v0:=Tryz.zeroValue0
 t3:=Tryz.underlying3
 a3:=Tryz.isAgg3
 z3:=Tryz.sizeOf3
 v3:=Tryz.zeroValue3
 t4:=Tryz.underlying4
 a4:=Tryz.isAgg4
 z4:=Tryz.sizeOf4
 v4:=Tryz.zeroValue4
 t5:=Tryz.underlying5
 a5:=Tryz.isAgg5
 z5:=Tryz.sizeOf5
 v5:=Tryz.zeroValue5
 t9:=Tryz.underlying9
 a9:=Tryz.isAgg9
 z9:=Tryz.sizeOf9
 v9:=Tryz.zeroValue9
 t22:=Tryz.underlying48
 a22:=Tryz.isAgg48
 z22:=Tryz.sizeOf48
 v22:=Tryz.zeroValue48
 t25:=Tryz.underlying37
 a25:=Tryz.isAgg37
 z25:=Tryz.sizeOf37
 v25:=Tryz.zeroValue37
 t39:=Tryz.underlying118
 a39:=Tryz.isAgg118
 z39:=Tryz.sizeOf118
 v39:=Tryz.zeroValue118
 t45:=Tryz.underlying160
 a45:=Tryz.isAgg160
 z45:=Tryz.sizeOf160
 v45:=Tryz.zeroValue160
 t46:=Tryz.underlying161
 a46:=Tryz.isAgg161
 z46:=Tryz.sizeOf161
 v46:=Tryz.zeroValue161
 t50:=Tryz.underlying165
 a50:=Tryz.isAgg165
 z50:=Tryz.sizeOf165
 v50:=Tryz.zeroValue165
 t53:=Tryz.underlying100
 a53:=Tryz.isAgg100
 z53:=Tryz.sizeOf100
 v53:=Tryz.zeroValue100
 t55:=Tryz.underlying137
 a55:=Tryz.isAgg137
 z55:=Tryz.sizeOf137
 v55:=Tryz.zeroValue137
 t66:=Tryz.underlying205
 a66:=Tryz.isAgg205
 z66:=Tryz.sizeOf205
 v66:=Tryz.zeroValue205
 t70:=Tryz.underlying209
 a70:=Tryz.isAgg209
 z70:=Tryz.sizeOf209
 v70:=Tryz.zeroValue209
 t76:=Tryz.underlying226
 a76:=Tryz.isAgg226
 z76:=Tryz.sizeOf226
 v76:=Tryz.zeroValue226
 t77:=Tryz.underlying227
 a77:=Tryz.isAgg227
 z77:=Tryz.sizeOf227
 v77:=Tryz.zeroValue227}
def wS (e:El) (x:ty e):List Value:=(enc e x).map tv
theorem qZQ {e:El} [Inhabited (ty e)] (l:List (ty e)) (j:Nat) (hj:j<l.length*sz e): ∃u,(encs e l)[j]? =some u/\(flatK (wS e) (sz e) l.toArray)[j]! =tv u:=by
 have hk:0<sz e:=by
  rcases Nat.eq_zero_or_pos (sz e)with h | h
  . rw [h] at hj;simp at hj
  . exact h
 have hi:j / sz e<l.length:=by rw [Nat.div_lt_iff_lt_mul hk];exact hj
 have hr:j%sz e<sz e:=Nat.mod_lt _ hk;have he:(encs e l)[j]? =(enc e l[j / sz e])[j%sz e]? :=by
  have:=vl (l:=l) (i:=j / sz e) (jU hi) hr;rwa [Nat.mul_comm,Nat.div_add_mod] at this
 have hlen:j%sz e< (enc e l[j / sz e]).length:=by rw [zF];exact hr
 refine ⟨(enc e l[j / sz e])[j%sz e],by rw [he,jU hlen], ?_⟩
 rw [get_flatK _ _ _ _ (by simpa using hj)]
 have h1:l.toArray[j / sz e]! =l[j / sz e]:=by rw [getElem!_pos l.toArray _ (by simpa using hi)];simp
 rw [h1];unfold wS;rw [List.getElem!_eq_getElem?_getD,Jax,jU hlen];rfl
theorem qgi {e:El} [Inhabited (ty e)] (hI: ∀x:ty e, ∀u∈enc e x, ∃k n,u=T.int k n) {f c:FuncId} {srt:List (ty e)->List (ty e)} (he:vT Tryz.prog f=true) (hc:ytab c=none)
  (h0: ∀(p:Option Addr) (cap:Nat) (fv:Value) (w:World),Calls Tryz.prog f #[.slice p 0 cap,fv] w fun e w'=>e= .returned (.tuple #[])/\w'=w)
  (h1: ∀(b cap:Nat) (l:List (ty e)) (w:World),HoldsK (wS e) (sz e) w b 0 l.toArray->b<w.heap.size->l.length<=16777216->Calls Tryz.prog f #[.slice (some ⟨b,0,none⟩) l.length cap,.func (.func c) #[] #[]] w fun r w'=>r= .returned (.tuple #[])/\ ∃n os,w'=sortWorldK (wS e) (sz e) w b 0 n (srt l).toArray os)
  (hs: ∀l,(srt l).length=l.length) {l:List (ty e)} (hl:l.length<=16777216) {K X:Kn} (hK:K (.tu []) [some (.arr 0 e (srt l))]):FCalls Tryz.prog f [.oa e 0 0,.fn c [] []] [some (.arr 0 e l)] K X 1:=by
 intro g w hg;refine Qw.of he fun args hr=> ?_
 obtain ⟨x,y,rfl,hx,hy⟩:=qy4 hr;have hy':y= .func (.func c) #[] #[]:=by
  cases hy with
  | fn _ _ _ xs ys _ a1 a2 _ _=>
   have e1:xs= #[]:=Jbn a1.symm;have e2:ys= #[]:=Jbn a2.symm;rw [e1,e2]
  | yl _ _ yi _ _ a1=>rw [hc] at a1;cases a1
 subst hy';obtain ⟨oi,o1,fits,row⟩:=hg.obj 0 (.arr 0 e l) rfl;have o1:g.ob 0 0=some oi:=o1;obtain ⟨f1,f2,f3⟩:=fits;cases hx with
 | oa _ _ _ oi' A b1 b2 b3 b4=>
  rw [o1] at b1;obtain rfl:=Jb0 b1;by_cases hz:oi.cap=0
  . have hl0:l=[]:=List.length_eq_zero_iff.1 (by omega)
    subst hl0;have hs0:srt []=[]:=List.length_eq_zero_iff.1 (by rw [hs];rfl)
    rw [show oi.len=0 by simpa using f1]
    refine (h0 _ _ _ w).mono ?_;rintro r w' ⟨rfl,rfl⟩;exact ⟨g,_,hg,Step.refl,.tu [],by rw [hs0] at hK;exact hK,.tu [] #[] rfl fun i c x hc=>by simp at hc⟩
  . obtain rfl:=b2 hz;rcases row with ⟨_,r0⟩ | ⟨r1,blk,E,fr,r2,r3,r4,r5⟩
    . exact absurd r0 hz
    have r2:w.heap[oi.b]? =some (.cells blk E fr):=r2;have hb:oi.b<w.heap.size:=yw (m:=false) r2;have hle:l.length*sz e<=blk.size:=by have:=r4.le;rwa [show qZ (.arr 0 e l)=encs e l from rfl,qg] at this
    have hH:HoldsK (wS e) (sz e) w oi.b 0 l.toArray:=by
     intro j hj;have hj:j<l.length*sz e:=by simpa using hj
     obtain ⟨u,u1,u2⟩:=qZQ l j hj;obtain ⟨x,x1,x2,x3⟩:=r4.at_ j u u1;have hu: ∃k n,u=T.int k n:=by
      have:=Ja3 u1;simp only [encs,List.mem_flatten,Jch] at this;obtain ⟨_,⟨z,_,rfl⟩,hz⟩:=this;exact hI z u hz
     obtain ⟨k,n,rfl⟩:=hu;cases x3;refine ⟨?_, ?_⟩
     . rw [u2,Jbj];simp only [World.cell?,r2];have x1':blk[j]? =some (tv (.int k n)):=x1;simpa using x1'
     . rw [Jbj];have:=r3 j (by omega)
       simp only [World.frozen?,r2];simp;omega
    rw [f1];refine (h1 oi.b oi.cap l w hH hb hl).mono ?_;rintro r w' ⟨rfl,n,os,rfl⟩;have hF:(flatK (wS e) (sz e) (srt l).toArray).size=l.length*sz e:=by rw [size_flatK];simp [hs]
    have hheap:(sortWorldK (wS e) (sz e) w oi.b 0 n (srt l).toArray os).heap=w.heap.modify oi.b (onCells (putCells id 0 (flatK (wS e) (sz e) (srt l).toArray)))++os:=rfl;have hat:(sortWorldK (wS e) (sz e) w oi.b 0 n (srt l).toArray os).heap[oi.b]? =some (.cells (putCells id 0 (flatK (wS e) (sz e) (srt l).toArray) blk) E fr):=by
     rw [hheap,Jbi (by simpa using hb),Jcb,if_pos rfl,r2];rfl
    have hps:(putCells id 0 (flatK (wS e) (sz e) (srt l).toArray) blk).size=blk.size:=by simp [putCells]
    obtain ⟨k1,k2,k3⟩:=zv (st':=[some (.arr 0 e (srt l))]) (k:=0) (v:=0) (o':= .arr 0 e (srt l)) (oi:=oi) (w':=sortWorldK (wS e) (sz e) w oi.b 0 n (srt l).toArray os) hg
     (fun i=>by cases i<;>simp) (Jbt _) (Jam _) rfl (.inr o1) (fun u oi' hu=>(hg.old 0 u oi' hu).2 _ rfl) ⟨by rw [hs];exact f1,f2,f3⟩
     (fun _=> .inr ⟨_,rfl,by unfold obBlk;rw [show g.ob 0 (obVer (.arr 0 e l))=some oi from o1];simp [hz]⟩) rfl rfl rfl (by rw [hheap];simp)
     (fun b hbs hbn=>by
      have hne:oi.b≠b:=fun h=>hbn _ rfl (by unfold obBlk;rw [show g.ob 0 (obVer (.arr 0 e l))=some oi from o1];simp [hz,h])
      rw [hheap,Jbi (by simpa using hbs),Jcb,if_neg hne])
     (fun _=>⟨_,E,fr,hat,by rw [hps];exact r3,⟨by rw [hps];show (encs e (srt l)).length<=_;rw [qg,hs];exact hle,fun j u hj=>by
      have hj':j<l.length*sz e:=by
       have:=(Jai.1 hj).1;rwa [show qZ (.arr 0 e (srt l))=encs e (srt l) from rfl,qg,hs] at this
      obtain ⟨u',u1,u2⟩:=qZQ (srt l) j (by rw [hs];exact hj')
      have:u'=u:=by
       have hj:(encs e (srt l))[j]? =some u:=hj;rw [u1] at hj;exact Jb0 hj
      subst this;have hu: ∃k n,u'=T.int k n:=by
       have:=Ja3 u1;simp only [encs,List.mem_flatten,Jch] at this;obtain ⟨_,⟨z,_,rfl⟩,hz⟩:=this;exact hI z u' hz
      obtain ⟨k,n,rfl⟩:=hu;refine ⟨.int k n, ?_,rfl,.int k n⟩;unfold putCells;have hjb:j<blk.size:=by omega
      rw [Array.getElem?_mapIdx,Jaw hjb];simp only [Ja8,Jbt,true_and,Jbj,Nat.sub_zero];rw [if_pos (by rw [hF];exact hj'),u2];rfl⟩,by rw [hps];exact r5⟩)
     (fun o ho=>by
      have:o= .arr 0 e l:=by simpa using ho.symm
      subst this;exact ⟨0,srt l,rfl⟩)
    exact ⟨_,_,k1,k2 _,.tu [],hK,.tu [] #[] rfl fun i c x hc=>by simp at hc⟩
theorem qQN (x:Idn): ∀u∈enc .idk x, ∃k n,u=T.int k n:=by
 intro u hu;have:((enc .idk x).all fun u=>match u with | .int _ _=>true | _=>false)=true:=by kernel_rfl
 have:=Jbu.1 this u hu;cases u<;>first | exact ⟨_,_,rfl⟩ | cases this
theorem qeI {α:Type} [Inhabited α] {lt:α->α->Bool} (hO:SWO lt) (d:Array α):(pdq lt d 0 d.size (Lib.bitLen d.size) true true).size=d.size:=
 (pdq_sorts lt hO d 0 d.size (Lib.bitLen d.size) true true (Jbt _) (Jam _) (Or.inl rfl)).1.1
theorem qXG (l:List Idn):(YF l).length=l.length:=by
 have:=qeI qYH l.toArray;unfold YF;simpa using this
theorem qtY: ∀w,(isAgg 36).run Tryz.prog w= .ok true w:=fun w=>by
 unfold isAgg underlying;simp only [Sem.run_bind,show Tryz.prog.underlying 36=_ from Tryz.underlying36]
 rfl
end
section
open Go.RowKit
attribute [local irreducible] zb qa
set_option maxRecDepth 100000
abbrev S15:List Sh:=[.ag [.leaf,.leaf,.leaf,.leaf,.leaf]]
abbrev L15:List Lf:=[.str,.str,.int .i64,.sl .dig,.sl .chg]
def F15 (g:prodL L15) (K:Kn):Prop:=
 qdi.pre (g.1,g.2.1,g.2.2.1,g.2.2.2.1,g.2.2.2.2.1,())/\
 bif !decide ((j7 g.1 g.2.1 g.2.2.1 g.2.2.2.1 g.2.2.2.2.1).2.2=0)then (
  K (.tu [.ag (enc .dig dz),.int .i64 ((j7 g.1 g.2.1 g.2.2.1 g.2.2.2.1 g.2.2.2.2.1).2.2)]) [])
 else (
  qr4.pre ((j7 g.1 g.2.1 g.2.2.1 g.2.2.2.1 g.2.2.2.2.1).2.1,())/\
 K (.tu [.ag (enc .dig (qqF ((j7 g.1 g.2.1 g.2.2.1 g.2.2.2.1 g.2.2.2.2.1).2.1))),.int .i64 0]) [])
theorem qmO (g:prodL L15) (K X:Kn) (h:F15 g K):FCalls Tryz.prog 15 (argsT S15 L15 g) [] K X:=
 FCalls.settle0 (qw Tryz.func15 Tryz.ntmps15 Tryz.results15 qj (qx qjk (qx qgK qz)) [] [] (by kernel_rfl) (by kernel_rfl) h)
def J86:List (Nat×Hint):=[(2,⟨[((2,[]),none),((3,[]),none)],[(1,.leaf),(2,.pt 0 0),(3,.pt 1 0),(10,.leaf)],[.el,.el],[.pr .dig,.bool,.el .idk,.el .idk]⟩),(3,⟨[((2,[]),none),((3,[]),none)],[(2,.pt 0 0),(3,.pt 1 0)],[.el,.el],[.el .idk,.el .idk]⟩)]
abbrev S86:List Sh:=[.leaf,.leaf]
abbrev L86:List Lf:=[.el .idk,.pr .dig]
def qY2 (K:Kn) (a b:Idn):Prop:=
 K (.ag (enc .idk a)) []
def qxq (K:Kn) (c:Dig) (d:Bool) (a b:Idn):Prop:=
 bif d then (
  qY2 K (⟨c,a.n⟩:Idn) b)
 else (
  qY2 K a b)
def F86 (g:prodL L86) (K:Kn):Prop:=
 True/\
 bif ZJ g.1 then (
  qxq K g.2.1 (decide (0<=g.1.n)) g.1 iz)
 else (
  qxq K g.2.1 false g.1 iz)
theorem qm5 (g:prodL L86) (K X:Kn) (h:F86 g K):FCalls Tryz.prog 86 (argsT S86 L86 g) [] K X:=
 FCalls.settle0 (qw Tryz.func86 Tryz.ntmps86 Tryz.results86 qj (qx qjo qz) [] J86 (by kernel_rfl) (by kernel_rfl) h)
def qAo:Sp:=⟨S86,L86,fun _=>True,fun g=> .ag (enc .idk (xw g.2.1 g.1)),fun _=>none⟩
theorem qfV:qAo.Ok Tryz.prog 86 false:=
 .mk (fun g K X hp h=>qm5 g K X (by
  have h:K (.ag (enc .idk (xw g.2.1 g.1))) []:=h;refine ⟨trivial, ?_⟩;unfold xw at h;exact vz (J:=fun b=>qxq K g.2.1 b g.1 iz) (f:=fun b=>bif b then (⟨g.2.1,g.1.n⟩:Idn)else g.1) (K:=fun x=>K (.ag (enc .idk x)) []) (fun b h=>by unfold qxq;cases b<;>exact h) h))
end
section
open Go.RowKit Go.Lib Go.Shelf Go.Sort
set_option maxRecDepth 100000
theorem qo5: ∀w,(Go.sizeOf 36).run Tryz.prog w= .ok 33 w:=fun w=>zw (by rw [jL,show Tryz.prog.info? 36=some Tryz.t36 from Tryz.type36];rfl) w
theorem qJl {e:El} (x:ty e) (hI: ∀u∈enc e x, ∃k n,u=T.int k n): ∀v∈wS e x,v.oneCell'=true:=fun v hv=>by
 obtain ⟨u,hu,rfl⟩:=Jch.1 hv;obtain ⟨k,n,rfl⟩:=hI u hu;rfl
theorem qmg {l:List Idn} {K X:Kn} (hl:l.length<=4194304) (h:K (.tu []) [some (.arr 0 .idk (YF l))]):FCalls Tryz.prog 87 [.oa .idk 0 0,.fn 17 [] []] [some (.arr 0 .idk l)] K X 1:=
 qgi (e:= .idk) qQN (srt:=YF) (by kernel_rfl) (by rfl)
  (fun p cap fv w=>AnyF.slices_SortFunc_none qzv p cap fv w)
  (fun b cap l w hH hb hs=>by
   have eg: ∀args w,(callFunc 17 args).run Tryz.prog w= .ok (.enter 17 args) w:=enters_of Tryz.func17 (by kernel_rfl) rfl
   have:=AnyQ.slices_SortFunc_eq qzv 33 qtY qo5 (wS .idk) (fun x=>rfl) (fun x=>qJl x (qQN x)) idC qYH 17 #[] b 0 cap l.toArray w eg (fun m os dk hk x y=>qtG x y _) hH hb (by show l.length<_;omega)
   exact this.mono fun r w' ⟨e1,n,os,e2⟩=>⟨e1,n,os,by rw [e2];rfl⟩)
  qXG (by omega) h
abbrev S87:List Sh:=[.oa .idk 0,.fn 17 [] []]
abbrev O87:List ObSh:=[.arr .idk]
abbrev L87:List Lf:=[.sl .idk]
def qAe:Raw:=⟨S87,O87,L87,1,fun g K _=>qi4 g/\K (.tu []) [some (.arr 0 .idk (YF g.1))]⟩
theorem qhx:qAe.Ok Tryz.prog 87:=fun g K X h=>qmg h.1 h.2
theorem qVT {a m:ByteArray} {t:Int} {ds:List Dig} {cs:List Chg}:(j7 a m t ds cs).2.1.size<=65536:=by
 by_cases z:(j7 a m t ds cs).2.2=0
 . have h:=qxf z;rw [qWu z];show (vQ (zN a m t (za ds) cs)).1.size<=65536
   omega
 . have e0:(⟨#[]⟩:ByteArray).size=0:=rfl;have:(j7 a m t ds cs).2.1=⟨#[]⟩:=by
    unfold j7 at z ⊢;cases h1:decide (jW jc a m t ds cs=0)
    . rfl
    . rw [h1] at z;simp only [Jap,Jaf] at z ⊢;unfold Jg at z ⊢;cases h2:decide ((ZX cs).2=0)
      . rfl
      . rw [h2] at z;simp only [Jap,Jaf] at z ⊢;unfold qxU at z ⊢;revert z;generalize (bif !decide ((vQ (zN a m t (za ds) cs)).2=0)then true else decide (65536< ((vQ (zN a m t (za ds) cs)).1.size:Int)))=b
        intro z;cases b
        . exact absurd rfl z
        . rfl
   rw [this,e0];omega
theorem qnB {a m:ByteArray} {t:Int} {ds:List Dig} {cs:List Chg} {K:Kn} (hp:xP a m t ds cs) (h:K (.tu [.ag (enc .dig (idP a m t ds cs).1),.int .i64 (idP a m t ds cs).2]) []):F15 (a,m,t,ds,cs,()) K:=by
 unfold F15;refine ⟨hp, ?_⟩;unfold idP at h;show bif !decide ((j7 a m t ds cs).2.2=0)then _ else _
 by_cases z:(j7 a m t ds cs).2.2=0
 . rw [Jaa z] at h ⊢;exact ⟨Jau qVT (by omega),h⟩
 . rw [Jab z] at h ⊢;exact h
def qsk:Sp:=⟨S15,L15,fun g=>xP g.1 g.2.1 g.2.2.1 g.2.2.2.1 g.2.2.2.2.1,fun g=> .tu [.ag (enc .dig (idP g.1 g.2.1 g.2.2.1 g.2.2.2.1 g.2.2.2.2.1).1),.int .i64 (idP g.1 g.2.1 g.2.2.1 g.2.2.2.1 g.2.2.2.2.1).2],fun _=>none⟩
theorem qeF:qsk.Ok Tryz.prog 15 true:=
 .mk (fun g K X hp h=>qmO g K X (qnB hp h))
end
section
open Go.RowKit
attribute [local irreducible] zb qa
set_option maxRecDepth 100000
def H44:List (Nat×Hint):=[(9,⟨[((4,[]),none)],[(4,.oa .atm 0),(8,.fn 86 [] [.leaf]),(32,.oa .atm 0),(33,.leaf),(34,.leaf)],[.arr .atm],[.pr .dig,.int .i64,.int .i64,.sl .atm]⟩),(20,⟨[((4,[]),none),((10,[]),none),((11,[]),some .idk)],[(4,.oa .atm 0),(8,.fn 86 [] [.leaf]),(9,.leaf),(10,.pt 1 0),(11,.oa .idk 2),(32,.oa .atm 0),(33,.leaf),(34,.leaf),(74,.leaf),(75,.leaf),(76,.leaf)],[.arr .atm,.el,.arr .idk],[.pr .dig,.int .i64,.int .i64,.int .i64,.sl .idk,.int .i64,.int .i64,.sl .atm,.el .atm,.sl .idk]⟩)]
def J44:List (Nat×Hint):=[(7,⟨[((4,[]),none)],[(4,.oa .atm 0),(7,.leaf)],[.arr .atm],[.pr .dig,.sl .atm]⟩),(14,⟨[((4,[]),none),((10,[]),none)],[(4,.oa .atm 0),(8,.fn 86 [] [.leaf]),(9,.leaf),(10,.pt 1 0),(32,.oa .atm 0),(33,.leaf),(34,.leaf)],[.arr .atm,.el],[.pr .dig,.int .i64,.int .i64,.int .i64,.sl .atm,.el .atm]⟩),(16,⟨[((4,[]),none),((10,[]),none)],[(4,.oa .atm 0),(8,.fn 86 [] [.leaf]),(9,.leaf),(10,.pt 1 0),(32,.oa .atm 0),(33,.leaf),(34,.leaf)],[.arr .atm,.el],[.pr .dig,.int .i64,.int .i64,.int .i64,.sl .atm,.el .atm]⟩),(18,⟨[((4,[]),none),((10,[]),none)],[(4,.oa .atm 0),(8,.fn 86 [] [.leaf]),(9,.leaf),(10,.pt 1 0),(32,.oa .atm 0),(33,.leaf),(34,.leaf)],[.arr .atm,.el],[.pr .dig,.int .i64,.int .i64,.int .i64,.sl .atm,.el .atm]⟩),(25,⟨[((4,[]),none),((10,[]),none)],[(4,.oa .atm 0),(8,.fn 86 [] [.leaf]),(9,.leaf),(10,.pt 1 0),(11,.leaf),(32,.oa .atm 0),(33,.leaf),(34,.leaf)],[.arr .atm,.el],[.pr .dig,.int .i64,.sl .idk,.int .i64,.int .i64,.sl .atm,.el .atm]⟩)]
abbrev S44:List Sh:=[.ag [.leaf,.leaf,.leaf,.leaf,.leaf]]
abbrev L44:List Lf:=[.str,.str,.int .i64,.sl .dig,.sl .chg]
def qQA (K:Kn) (d:prodL [.pr .dig,.int .i64,.int .i64,.sl .atm]->Prop) (e:Dig) (b:Int) (f:List Idn) (g h:Int) (c:List Atm) (a:Atm):Prop:=
 0<=b/\b.toNat<c.length/\
 atI c b.toNat fun i=>
 d (e,g,IntKind.i64.wrap (h+1),c.set b.toNat (⟨a.id,a.kind,a.file,a.typ,a.parent,a.name,a.mode,a.data,a.text,a.frm,a.til,f⟩:Atm),())
def XC (K:Kn) (m:prodL [.pr .dig,.int .i64,.int .i64,.sl .atm]->Prop) (n:prodL [.pr .dig,.int .i64,.int .i64,.int .i64,.sl .idk,.int .i64,.int .i64,.sl .atm,.el .atm,.sl .idk]->Prop) (a:Dig) (d e f:Int) (g:List Idn) (h c:Int) (i:List Atm) (j:Atm) (b:List Idn):Prop:=
 bif decide (c<h)then (
  At g c fun l=>
 True/\
 ql (b.length+[(xw a l)].length) 40 (
 n (a,d,e,f,g,h,IntKind.i64.wrap (c+1),i,j,b++[(xw a l)],())))
 else (
  qi4 (b,())/\
 qQA K m a d (YF b) e f i j)
def qQm (K:Kn) (a:prodL [.pr .dig,.int .i64,.int .i64,.sl .atm]->Prop) (g:prodL [.pr .dig,.int .i64,.int .i64,.int .i64,.sl .idk,.int .i64,.int .i64,.sl .atm,.el .atm,.sl .idk]):Prop:=
 qy (γ:=prodL [.pr .dig,.int .i64,.int .i64,.int .i64,.sl .idk,.int .i64,.int .i64,.sl .atm,.el .atm,.sl .idk]) (fun V y=>XC K a V y.1 y.2.1 y.2.2.1 y.2.2.2.1 y.2.2.2.2.1 y.2.2.2.2.2.1 y.2.2.2.2.2.2.1 y.2.2.2.2.2.2.2.1 y.2.2.2.2.2.2.2.2.1 y.2.2.2.2.2.2.2.2.2.1) g
def WH (K:Kn) (b:prodL [.pr .dig,.int .i64,.int .i64,.sl .atm]->Prop) (c:Dig) (d e f:Int) (g:List Atm) (a:Atm):Prop:=
 qQm K b (c,d,e,f,a.over,(a.over.length:Int),0,g,a,[],())
def V9 (K:Kn) (c:prodL [.pr .dig,.int .i64,.int .i64,.sl .atm]->Prop) (b:Dig) (d e f:Int) (g:List Atm) (a:Atm):Prop:=
 bif decide (a.kind=6)then (
  True/\
  True/\
  WH K c b d e f g (⟨a.id,a.kind,a.file,a.typ,a.parent,a.name,a.mode,a.data,a.text,xw b a.frm,xw b a.til,a.over⟩:Atm))
 else (
  WH K c b d e f g a)
def WZ (K:Kn) (c:prodL [.pr .dig,.int .i64,.int .i64,.sl .atm]->Prop) (b:Dig) (d e f:Int) (g:List Atm) (a:Atm):Prop:=
 bif decide (a.kind=2)then (
  True/\
  V9 K c b d e f g (⟨a.id,a.kind,a.file,a.typ,xw b a.parent,a.name,a.mode,a.data,a.text,a.frm,a.til,a.over⟩:Atm))
 else (
  V9 K c b d e f g a)
def qkR (K:Kn) (f:prodL [.pr .dig,.int .i64,.int .i64,.sl .atm]->Prop) (c:Dig) (e b:Int) (d:List Atm):Prop:=
 bif decide (b<e)then (
  0<=b/\b.toNat<d.length/\
 atI d b.toNat fun a=>
 True/\
 bif !decide (a.kind=7)then (
  True/\
  WZ K f c b e b d (⟨xw c a.id,a.kind,xw c a.file,a.typ,a.parent,a.name,a.mode,a.data,a.text,a.frm,a.til,a.over⟩:Atm))
 else (
  WZ K f c b e b d (⟨xw c a.id,a.kind,a.file,a.typ,a.parent,a.name,a.mode,a.data,a.text,a.frm,a.til,a.over⟩:Atm)))
 else (
  K (.tu [.sl false .atm d,.int .i64 0]) [])
def qkd (K:Kn) (g:prodL [.pr .dig,.int .i64,.int .i64,.sl .atm]):Prop:=
 qy (γ:=prodL [.pr .dig,.int .i64,.int .i64,.sl .atm]) (fun V y=>qkR K V y.1 y.2.1 y.2.2.1 y.2.2.2.1) g
def qbu (K:Kn) (b:Dig) (a:List Atm):Prop:=
 qkd K (b,(a.length:Int),0,a,())
def F44 (g:prodL L44) (K:Kn):Prop:=
 qcy.pre (g.1,g.2.1,g.2.2.1,g.2.2.2.1,g.2.2.2.2.1,())/\
 bif !decide ((j7 g.1 g.2.1 g.2.2.1 g.2.2.2.1 g.2.2.2.2.1).2.2=0)then (
  K (.tu [.nil,.int .i64 ((j7 g.1 g.2.1 g.2.2.1 g.2.2.2.1 g.2.2.2.2.1).2.2)]) [])
 else (
  qsk.pre (g.1,g.2.1,g.2.2.1,g.2.2.2.1,g.2.2.2.2.1,())/\
 bif !decide ((idP g.1 g.2.1 g.2.2.1 g.2.2.2.1 g.2.2.2.2.1).2=0)then (
  K (.tu [.nil,.int .i64 ((idP g.1 g.2.1 g.2.2.1 g.2.2.2.1 g.2.2.2.2.1).2)]) [])
 else (
  qbu K ((idP g.1 g.2.1 g.2.2.1 g.2.2.2.1 g.2.2.2.2.1).1) ((j7 g.1 g.2.1 g.2.2.1 g.2.2.2.1 g.2.2.2.2.1).1)))
theorem qm1 (g:prodL L44) (K X:Kn) (h:F44 g K):FCalls Tryz.prog 44 (argsT S44 L44 g) [] K X:=
 FCalls.settle0 (qw Tryz.func44 Tryz.ntmps44 Tryz.results44 (qd qhx qj) (qx qeF (qx qQM (qx qfV qz))) H44 J44 (by kernel_rfl) (by kernel_rfl) h)
end
section
open Go.RowKit
set_option maxRecDepth 100000
def lAt (d:Dig) (l:List Atm) (n:Nat):List Atm:=(l.take n).map (qyM d)++l.drop n
theorem qQP (d:Dig) (l:List Atm) (n:Nat):(lAt d l n).length=l.length:=by
 unfold lAt;rw [Jak,Jbs,Jb5,Jb9];omega
theorem qgc (d:Dig) {l:List Atm} {n:Nat} (h:n<l.length):(lAt d l n)[n]'(by rw [qQP];exact h)=l[n]:=by
 unfold lAt;rw [List.getElem_append_right (by simp;omega)]
 simp [Jb5,Nat.min_eq_left (Nat.le_of_lt h)]
theorem qhz (d:Dig) {l:List Atm} {n:Nat} (h:n<l.length):(lAt d l n).set n (qyM d l[n])=lAt d l (n+1):=by
 unfold lAt;rw [List.set_append_right _ _ (by simp;omega)]
 simp only [Jbs,Jb5,Nat.min_eq_left (Nat.le_of_lt h),Nat.sub_self];rw [Jb1 h,List.set_cons_zero,vW h,Jcj];simp
theorem Yw {K:Kn} {W:prodL [.pr .dig,.int .i64,.int .i64,.sl .atm]->Prop} {d:Dig} {i t t2:Int} {l:List Atm} {x:Atm} (hx:x.over.length<=4194304) (hi:0<=i/\i.toNat<l.length)
  (h:W (d,t,IntKind.i64.wrap (t2+1),l.set i.toNat (qoe d x),())):WH K W d i t t2 l x:=by
 unfold WH qQm;refine qy.map x.over (xw d) (fun n out=>(d,i,t,t2,x.over,(x.over.length:Int),n,l,x,out,())) (by omega) rfl (fun V n hn out ho hV=> ?_) fun V=> ?_
 . show XC K W V d i t t2 x.over x.over.length n l x out
   unfold XC;rw [qu hn,Jae];exact qD hn ⟨trivial,by simp only [Jal,ho];omega,hV⟩
 . show XC K W V d i t t2 x.over x.over.length x.over.length l x (x.over.map (xw d))
   unfold XC;rw [qm,Jaf];refine ⟨by show (x.over.map (xw d)).length<=_;rw [Jbs];exact hx, ?_⟩
   unfold qQA;exact ⟨hi.1,hi.2,l[i.toNat],jU hi.2,h⟩
theorem qqf {K:Kn} {W:prodL [.pr .dig,.int .i64,.int .i64,.sl .atm]->Prop} {d:Dig} {i t t2:Int} {l:List Atm} {x:Atm} (hx:x.over.length<=4194304) (hi:0<=i/\i.toNat<l.length)
  (h:W (d,t,IntKind.i64.wrap (t2+1),l.set i.toNat (qgH d x),())):V9 K W d i t t2 l x:=by
 unfold V9;unfold qgH at h;cases e:decide (x.kind=6)
 . rw [e] at h;exact Yw hx hi h
 . rw [e] at h;exact ⟨trivial,trivial,Yw (by exact hx) hi h⟩
theorem Ye {K:Kn} {W:prodL [.pr .dig,.int .i64,.int .i64,.sl .atm]->Prop} {d:Dig} {i t t2:Int} {l:List Atm} {x:Atm} (hx:x.over.length<=4194304) (hi:0<=i/\i.toNat<l.length)
  (h:W (d,t,IntKind.i64.wrap (t2+1),l.set i.toNat (qe4 d x),())):WZ K W d i t t2 l x:=by
 unfold WZ;unfold qe4 at h;cases e:decide (x.kind=2)
 . rw [e] at h;exact qqf hx hi h
 . rw [e] at h;exact ⟨trivial,qqf (by exact hx) hi h⟩
theorem qJX {K:Kn} {d:Dig} {l:List Atm} (hl:l.length<=16777216) (hx: ∀x∈l,x.over.length<=4194304) (h:K2 K (l.map (qyM d),0)):qkd K (d,(l.length:Int),0,l,()):=by
 unfold qkd;refine qy.countTo l.length (fun n=>(d,(l.length:Int),(n:Int),lAt d l n,())) (fun _=>True) (by simp [lAt]) (fun n hn _ W hW=> ?_) trivial
 show qkR K W d l.length n (lAt d l n)
 unfold qkR;have hlen:=qQP d l n;by_cases hlt:n<l.length
 . rw [qu hlt,Jae];have hn':((n:Nat):Int).toNat< (lAt d l n).length:=by omega
   refine ⟨by omega,hn', ?_⟩
   have hW:=hW hlt trivial;rw [<- qhz d hlt, <- zd hlt (by omega)] at hW
   refine ⟨l[n],by rw [toN,jU (show n< (lAt d l n).length by omega),qgc d hlt],trivial, ?_⟩
   have hxo:=hx l[n] (Jba _);generalize l[n]=x at hW hxo;show bif !decide (x.kind=7)then _ else _
   unfold qyM at hW;cases e:decide (x.kind=7)
   . rw [e] at hW;exact ⟨trivial,Ye (by exact hxo) ⟨by omega,hn'⟩ (by rw [toN];exact hW)⟩
   . rw [e] at hW;exact Ye (by exact hxo) ⟨by omega,hn'⟩ (by rw [toN];exact hW)
 . have:n=l.length:=by omega
   subst this;rw [qm,Jaf];have:lAt d l l.length=l.map (qyM d):=by unfold lAt;simp
   rw [this];exact h
theorem qkL {c:Chg} {n:Int} {x:Atm} (hx:x∈xp c n):x.over=c.over∨x.over=[]:=by
 unfold xp quw at hx;split at hx;case h_5=>
  rcases Jbr.1 hx with hx | hx
  . obtain ⟨i,_,rfl⟩:=Jch.1 hx;exact .inr rfl
  . obtain ⟨i,_,rfl⟩:=Jch.1 hx;exact .inr rfl
 case h_8=>cases hx
 all_goals (rw [List.mem_singleton.1 hx];first | exact .inl rfl | exact .inr rfl)
theorem YA {f:Chg->Int} {r:Chg->List Atm->Int} {Q:List Idn->Prop} (h0:Q []): ∀{cs:List Chg} {own:List Atm},(∀c∈cs,Q c.over)->(∀x∈own,Q x.over)-> ∀x∈(xC f r cs own).1,Q x.over
 | [],own,_,h,x,hx=>h x hx
 | c::l,own,hc,h,x,hx=>by
  rw [xC] at hx;cases e1:decide (f c=0)
  . rw [e1] at hx;cases hx
  rw [e1] at hx;cases e2:decide (r c own=0)
  . rw [e2] at hx;cases hx
  rw [e2] at hx;refine YA h0 (fun d hd=>hc d (Jbe _ hd)) (fun y hy=> ?_) x hx
  rcases Jbr.1 hy with hy | hy
  . exact h y hy
  . rcases qkL hy with e | e
    . rw [e];exact hc c (Jbc ..)
    . rw [e];exact h0
theorem qzB {f:Chg->Int} {r:Chg->List Atm->Int} (hk: ∀c,f c=0->zR c): ∀{cs:List Chg} {own:List Atm},(xC f r cs own).1.length<=own.length+2*(cs.map zQ).sum
 | [],own=>by simp [xC]
 | c::l,own=>by
  rw [xC];cases e1:decide (f c=0)
  . simp
  cases e2:decide (r c own=0)
  . simp
  simp only [Jap,Jaf];have h1:=qzB (r:=r) hk (cs:=l) (own:=own++xp c own.length);have h2:=K6 (n:=(own.length:Int)) (hk c (Jac e1));rw [Jak] at h1;simp only [List.map_cons,Jcc];omega
theorem qJm {a m:ByteArray} {t:Int} {ds:List Dig} {cs:List Chg}:(j7 a m t ds cs).1=(ZX cs).1∨(j7 a m t ds cs).1=[]:=by
 unfold j7;cases decide (jW jc a m t ds cs=0)
 . exact .inr rfl
 . simp only [Jap,Jaf];unfold Jg;cases decide ((ZX cs).2=0)
   . exact .inr rfl
   . simp only [Jap,Jaf];unfold qxU;generalize (bif !decide ((vQ (zN a m t (za ds) cs)).2=0)then true else decide (65536< ((vQ (zN a m t (za ds) cs)).1.size:Int)))=b
     cases b
     . exact .inl rfl
     . exact .inr rfl
theorem qYU {a m:ByteArray} {t:Int} {ds:List Dig} {cs:List Chg} (hp:xP a m t ds cs):(j7 a m t ds cs).1.length<=16777216/\ ∀x∈(j7 a m t ds cs).1,x.over.length<=4194304:=by
 have h5:=hp.2.2.2.2.1;rcases qJm (a:=a) (m:=m) (t:=t) (ds:=ds) (cs:=cs)with e | e
 . rw [e];refine ⟨?_, ?_⟩
   . have:=qzB (f:=zD) (r:=yR) (fun c=>jx) (cs:=cs) (own:=[])
     unfold ZX;simp only [Ja1] at this;omega
   . exact YA (Q:=fun l=>l.length<=4194304) (by simp) (fun c hc=>(zA (Jv h5 hc)).2.2.2.2) (fun x hx=>by cases hx)
 . rw [e];exact ⟨by simp,fun x hx=>by cases hx⟩
theorem qmK {a m:ByteArray} {t:Int} {ds:List Dig} {cs:List Chg} {K:Kn} (hp:xP a m t ds cs) (h:K2 K (kG a m t ds cs)):F44 (a,m,t,ds,cs,()) (zI K):=by
 have hl:=qYU hp;unfold F44;unfold kG at h;refine ⟨hp, ?_⟩;show bif !decide ((j7 a m t ds cs).2.2=0)then _ else _
 cases e1:decide ((j7 a m t ds cs).2.2=0)
 . rw [e1] at h;exact xV h
 rw [e1] at h;rw [Jap,Jaf] at h ⊢;refine ⟨hp, ?_⟩;show bif !decide ((idP a m t ds cs).2=0)then _ else _
 cases e2:decide ((idP a m t ds cs).2=0)
 . rw [e2] at h;exact xV h
 rw [e2] at h;exact qJX hl.1 hl.2 (zI.same h)
def qll:Sp:=⟨S44,L44,fun g=>xP g.1 g.2.1 g.2.2.1 g.2.2.2.1 g.2.2.2.2.1,fun g=> .tu [.sl false .atm (kG g.1 g.2.1 g.2.2.1 g.2.2.2.1 g.2.2.2.2.1).1,.int .i64 (kG g.1 g.2.1 g.2.2.1 g.2.2.2.1 g.2.2.2.2.1).2],fun _=>none⟩
theorem qeB:qll.Ok Tryz.prog 44 false:=
 .mk (fun g K X hp h=>FCalls.weak (qm1 g (zI K) X (qmK hp h)))
set_option maxRecDepth 100000
def jq:List Chg:=[⟨1,iz,1,iz,⟨#[]⟩,0,⟨#[]⟩,iz,iz,[],[]⟩,⟨2,iz,0,⟨dz, -1⟩,⟨#[102]⟩,0,⟨#[]⟩,iz,iz,[],[]⟩,⟨5,iz,0,iz,⟨#[]⟩,0,⟨#[]⟩,iz,iz,[⟨#[120]⟩],[]⟩]
def qqt:ByteArray:=⟨#[97,110,110]⟩
end
section
open Go.RowKit
attribute [local irreducible] zb qa
set_option maxRecDepth 100000
abbrev S25:List Sh:=[.ag [.leaf,.leaf,.leaf,.leaf,.leaf]]
abbrev L25:List Lf:=[.str,.str,.int .i64,.sl .dig,.sl .chg]
def F25 (g:prodL L25) (K:Kn):Prop:=
 qll.pre (g.1,g.2.1,g.2.2.1,g.2.2.2.1,g.2.2.2.2.1,())/\
 K (.tu [.sl false .atm ((kG g.1 g.2.1 g.2.2.1 g.2.2.2.1 g.2.2.2.2.1).1),.int .i64 ((kG g.1 g.2.1 g.2.2.1 g.2.2.2.1 g.2.2.2.2.1).2)]) []
theorem qoy (g:prodL L25) (K X:Kn) (h:F25 g K):FCalls Tryz.prog 25 (argsT S25 L25 g) [] K X:=
 FCalls.settle0 (qw Tryz.func25 Tryz.ntmps25 Tryz.results25 qj (qx qeB qz) [] [] (by kernel_rfl) (by kernel_rfl) h)
def qt9:Sp:=⟨S25,L25,fun g=>qll.pre g,fun g=> .tu [.sl false .atm ((kG g.1 g.2.1 g.2.2.1 g.2.2.2.1 g.2.2.2.2.1).1),.int .i64 ((kG g.1 g.2.1 g.2.2.1 g.2.2.2.1 g.2.2.2.2.1).2)],fun _=>none⟩
theorem qb7:qt9.Ok Tryz.prog 25 false:=
 .mk (fun g K X hp h=>qoy g K X (by
  have h:K (.tu [.sl false .atm ((kG g.1 g.2.1 g.2.2.1 g.2.2.2.1 g.2.2.2.2.1).1),.int .i64 ((kG g.1 g.2.1 g.2.2.1 g.2.2.2.1 g.2.2.2.2.1).2)]) []:=h;exact ⟨hp,h⟩))
abbrev S35:List Sh:=[]
abbrev L35:List Lf:=[]
def F35 (g:prodL L35) (K:Kn):Prop:=
 True/\
 K (.ag [.str (⟨#[97,110,110]⟩:ByteArray),.str (⟨#[]⟩:ByteArray),.int .i64 5,.nil,.sl true .chg [(⟨1,iz,1,iz,(⟨#[]⟩:ByteArray),0,(⟨#[]⟩:ByteArray),iz,iz,[],[]⟩:Chg),(⟨2,iz,0,⟨dz, -1⟩,(⟨#[102]⟩:ByteArray),0,(⟨#[]⟩:ByteArray),iz,iz,[],[]⟩:Chg),(⟨5,iz,0,iz,(⟨#[]⟩:ByteArray),0,(⟨#[]⟩:ByteArray),iz,iz,[(⟨#[120]⟩:ByteArray)],[]⟩:Chg)]]) []
theorem qnA (g:prodL L35) (K X:Kn) (h:F35 g K):FCalls Tryz.prog 35 (argsT S35 L35 g) [] K X:=
 FCalls.settle0 (qw Tryz.func35 Tryz.ntmps35 Tryz.results35 qj (qx qjH qz) [] [] (by kernel_rfl) (by kernel_rfl) h)
end
section
open Go.RowKit
set_option maxRecDepth 100000
def qBL:Sp:=⟨S35,L35,fun _=>True,fun _=> .ag [.str ⟨#[97,110,110]⟩,.str ⟨#[]⟩,.int .i64 5,.sl false .dig [],.sl false .chg jq],fun _=>none⟩
theorem qc5:qBL.Ok Tryz.prog 35 false:=
 .mk (fun g K X _ h=>FCalls.weak (qnA g (zI K) X ⟨trivial,_,zl.ag (qA.cons (zl.refl _) (qA.cons (zl.refl _) (qA.cons (zl.refl _) (qA.cons (zl.nil .dig) (qA.cons (zl.sl true .chg _) qA.nil))))),h⟩))
theorem qsu:ZX jq=([⟨Z5 0,1,Z5 0,1,iz,⟨#[]⟩,0,⟨#[]⟩,⟨#[]⟩,iz,iz,[]⟩,⟨Z5 1,2,iz,0,⟨dz, -1⟩,⟨#[102]⟩,0,⟨#[]⟩,⟨#[]⟩,iz,iz,[]⟩,
 ⟨Z5 2,5,iz,0,iz,⟨#[]⟩,0,⟨#[]⟩,⟨#[120]⟩,iz,iz,[]⟩,⟨Z5 3,6,iz,0,iz,⟨#[]⟩,0,⟨#[]⟩,⟨#[]⟩,iz,Z5 2,[]⟩,⟨Z5 4,6,iz,0,iz,⟨#[]⟩,0,⟨#[]⟩,⟨#[]⟩,Z5 2,iz,[]⟩],0):=by kernel_rfl
theorem qr8:jW jc qqt ⟨#[]⟩ 5 [] jq=0:=by kernel_rfl
theorem qcs {n:Nat} (h:n<10):qX (n:Int)=qY ⟨#[UInt8.ofNat (48+n)]⟩:=by
 unfold qX vE;rw [if_neg (by omega),qwK h];rfl
theorem qCr:qX (-1)=qY ⟨#[45,49]⟩:=by
 unfold qX vE;rw [if_neg (by omega)]
 show (⟨false,jd (-1),[]⟩:Sx)=_
 have:jd (-1)=⟨#[45,49]⟩:=by
  unfold jd Lib.itoa;rw [if_pos (by omega),show (-1:Int).natAbs=1 from rfl,Lib.decDigits_one (by omega)];rfl
 rw [this];rfl
def qjD:Sx:=qf [qY Zt,qY qqt,qY ⟨#[]⟩,qY ⟨#[53]⟩,qf [],qf [
 qf [qY ⟨#[49]⟩,qY ⟨#[49]⟩],
 qf [qY ⟨#[50]⟩,qf [qY ⟨#[]⟩,qY ⟨#[48]⟩],qf [qY ⟨#[]⟩,qY ⟨#[45,49]⟩],qY ⟨#[102]⟩,qf []],
 qf [qY ⟨#[53]⟩,qf [qY ⟨#[]⟩,qY ⟨#[48]⟩],qf [qY ⟨#[]⟩,qY ⟨#[48]⟩],qf [qY ⟨#[]⟩,qY ⟨#[48]⟩],qf [qY ⟨#[120]⟩]]]]
theorem qBk:zN qqt ⟨#[]⟩ 5 (za []) jq=qjD:=by
 have n0:=qcs (n:=0) (by omega)
 have n1:=qcs (n:=1) (by omega)
 have n2:=qcs (n:=2) (by omega)
 have n5:=qcs (n:=5) (by omega)
 have hz:jh dz=qY ⟨#[]⟩:=by kernel_rfl
 have i0:qK iz=qf [qY ⟨#[]⟩,qY ⟨#[48]⟩]:=by
  show qf [jh dz,qX ((0:Nat):Int)]=_
  rw [hz,n0];rfl
 have iM:qK ⟨dz, -1⟩=qf [qY ⟨#[]⟩,qY ⟨#[45,49]⟩]:=by
  show qf [jh dz,qX (-1)]=_
  rw [hz,qCr]
 have e:zN qqt ⟨#[]⟩ 5 (za []) jq=qf [qY Zt,qY qqt,qY ⟨#[]⟩,qX ((5:Nat):Int),qf [],qf [
  qf [qX ((1:Nat):Int),qX ((1:Nat):Int)],
  qf [qX ((2:Nat):Int),qK iz,qK ⟨dz, -1⟩,qY ⟨#[102]⟩,qf []],
  qf [qX ((5:Nat):Int),qK iz,qK iz,qK iz,qf [qY ⟨#[120]⟩]]]]:=rfl
 rw [e,n1,n2,n5,i0,iM];rfl
theorem xy {s:ByteArray} (n:Nat) (hs:s.size=n) (hn:n<10):vZ (qY s)=⟨#[UInt8.ofNat (48+n)]⟩++⟨#[58]⟩++s:=by
 unfold qY;rw [vZ,if_pos rfl,hs,qwK hn]
theorem qYL (l:List Sx):vZ (qf l)=Vt l ⟨#[40]⟩++⟨#[41]⟩:=by
 unfold qf;rw [vZ,if_neg (by simp)]
def wE:ByteArray:=⟨#[40,54,58,113,117,105,108,116,49,51,58,97,110,110,48,58,49,58,53,40,41,40,40,49,58,49,49,58,49,41,40,49,58,50,40,48,58,49,58,48,41,40,48,58,50,58,45,49,41,49,58,102,40,41,41,40,49,58,53,40,48,58,49,58,48,41,40,48,58,49,58,48,41,40,48,58,49,58,48,41,40,49,58,120,41,41,41,41]⟩
theorem qA9:vZ qjD=wE:=by
 unfold qjD;simp only [qYL,Vt,xy (s:=Zt) 6 rfl (by omega),xy (s:=qqt) 3 rfl (by omega),xy (s:=⟨#[]⟩) 0 rfl (by omega),xy (s:=⟨#[48]⟩) 1 rfl (by omega),xy (s:=⟨#[49]⟩) 1 rfl (by omega),xy (s:=⟨#[50]⟩) 1 rfl (by omega),xy (s:=⟨#[53]⟩) 1 rfl (by omega),xy (s:=⟨#[102]⟩) 1 rfl (by omega),xy (s:=⟨#[120]⟩) 1 rfl (by omega),xy (s:=⟨#[45,49]⟩) 2 rfl (by omega)]
 rfl
theorem qCb:vQ (zN qqt ⟨#[]⟩ 5 (za []) jq)=(wE,0):=by
 rw [qBk];have h:J8 qjD=0:=by kernel_rfl
 unfold vQ;rw [if_pos h,qA9]
end
section
open Go.RowKit
attribute [local irreducible] zb qa
set_option maxRecDepth 100000
def H12:List (Nat×Hint):=[(6,⟨[],[(3,.leaf),(32,.leaf),(33,.leaf),(34,.leaf)],[],[.sl .atm,.sl .i64,.int .i64,.int .i64]⟩)]
def J12:List (Nat×Hint):=[(4,⟨[],[(3,.leaf),(31,.leaf)],[],[.sl .atm,.bool]⟩),(9,⟨[],[(3,.leaf),(32,.leaf),(33,.leaf),(34,.leaf),(55,.leaf)],[],[.sl .atm,.sl .i64,.int .i64,.int .i64,.bool]⟩)]
abbrev S12:List Sh:=[]
abbrev L12:List Lf:=[]
def qyE (K:Kn) (a:prodL [.sl .atm,.sl .i64,.int .i64,.int .i64]->Prop) (b:List Atm) (c:List Int) (d e:Int) (f:Bool):Prop:=
 bif f then (
  K (.bool false) [])
 else (
  a (b,c,d,IntKind.i64.wrap (e+1),()))
def qkr (K:Kn) (e:prodL [.sl .atm,.sl .i64,.int .i64,.int .i64]->Prop) (a:List Atm) (c:List Int) (d b:Int):Prop:=
 bif decide (b<d)then (
  At c b fun f=>
 At a b fun g=>
 bif !decide (g.kind=f)then (
  qyE K e a c d b true)
 else (
  At a b fun h=>
  qyE K e a c d b (!decide (h.id.n=b))))
 else (
  At a 3 fun i=>
 At a 0 fun j=>
 bif qr i.frm j.id then (
  At a 3 fun l=>
  At a 2 fun m=>
  bif qr l.til m.id then (
   At a 4 fun o=>
   At a 2 fun p=>
   bif qr o.frm p.id then (
    At a 4 fun q=>
    At a 0 fun r=>
    K (.bool (qr q.til r.id)) [])
   else (
    K (.bool false) []))
  else (
   K (.bool false) []))
 else (
  K (.bool false) []))
def qyo (K:Kn) (g:prodL [.sl .atm,.sl .i64,.int .i64,.int .i64]):Prop:=
 qy (γ:=prodL [.sl .atm,.sl .i64,.int .i64,.int .i64]) (fun V y=>qkr K V y.1 y.2.1 y.2.2.1 y.2.2.2.1) g
def Y4 (K:Kn) (a:List Atm) (b:Bool):Prop:=
 bif b then (
  K (.bool false) [])
 else (
  qyo K (a,[1,2,5,6,6],(([1,2,5,6,6].length:Nat):Int),0,()))
def F12 (g:prodL L12) (K:Kn):Prop:=
 True/\
 qdi.pre ((⟨#[97,110,110]⟩:ByteArray),(⟨#[]⟩:ByteArray),5,[],jq,())/\
 True/\
 qt9.pre ((⟨#[97,110,110]⟩:ByteArray),(⟨#[]⟩:ByteArray),5,[],jq,())/\
 bif !decide ((j7 (⟨#[97,110,110]⟩:ByteArray) (⟨#[]⟩:ByteArray) 5 [] jq).2.2=0)then (
  Y4 K ((kG (⟨#[97,110,110]⟩:ByteArray) (⟨#[]⟩:ByteArray) 5 [] jq).1) true)
 else (
  bif !decide ((kG (⟨#[97,110,110]⟩:ByteArray) (⟨#[]⟩:ByteArray) 5 [] jq).2=0)then (
   Y4 K ((kG (⟨#[97,110,110]⟩:ByteArray) (⟨#[]⟩:ByteArray) 5 [] jq).1) true)
  else (
   bif !decide ((j7 (⟨#[97,110,110]⟩:ByteArray) (⟨#[]⟩:ByteArray) 5 [] jq).2.1=(⟨#[40,54,58,113,117,105,108,116,49,51,58,97,110,110,48,58,49,58,53,40,41,40,40,49,58,49,49,58,49,41,40,49,58,50,40,48,58,49,58,48,41,40,48,58,50,58,45,49,41,49,58,102,40,41,41,40,49,58,53,40,48,58,49,58,48,41,40,48,58,49,58,48,41,40,48,58,49,58,48,41,40,49,58,120,41,41,41,41]⟩:ByteArray))then (
    Y4 K ((kG (⟨#[97,110,110]⟩:ByteArray) (⟨#[]⟩:ByteArray) 5 [] jq).1) true)
   else (
    Y4 K ((kG (⟨#[97,110,110]⟩:ByteArray) (⟨#[]⟩:ByteArray) 5 [] jq).1) (!decide (((((kG (⟨#[97,110,110]⟩:ByteArray) (⟨#[]⟩:ByteArray) 5 [] jq).1).length:Nat):Int)=5)))))
theorem ql5 (g:prodL L12) (K X:Kn) (h:F12 g K):FCalls Tryz.prog 12 (argsT S12 L12 g) [] K X:=
 FCalls.settle0 (qw Tryz.func12 Tryz.ntmps12 Tryz.results12 qj (qx qjk (qx qb7 (qx qc5 qz))) H12 J12 (by kernel_rfl) (by kernel_rfl) h)
end
section
open Go.RowKit
set_option maxRecDepth 100000
def atS:List Atm:=[⟨Z5 0,1,Z5 0,1,iz,⟨#[]⟩,0,⟨#[]⟩,⟨#[]⟩,iz,iz,[]⟩,⟨Z5 1,2,iz,0,⟨dz, -1⟩,⟨#[102]⟩,0,⟨#[]⟩,⟨#[]⟩,iz,iz,[]⟩,
 ⟨Z5 2,5,iz,0,iz,⟨#[]⟩,0,⟨#[]⟩,⟨#[120]⟩,iz,iz,[]⟩,⟨Z5 3,6,iz,0,iz,⟨#[]⟩,0,⟨#[]⟩,⟨#[]⟩,iz,Z5 2,[]⟩,⟨Z5 4,6,iz,0,iz,⟨#[]⟩,0,⟨#[]⟩,⟨#[]⟩,Z5 2,iz,[]⟩]
def lS (d:Dig):List Atm:=atS.map (qyM d)
theorem exS:j7 qqt ⟨#[]⟩ 5 [] jq=(atS,wE,0):=by
 unfold j7;rw [qr8,qsu,qCb];rfl
theorem qBF:kG qqt ⟨#[]⟩ 5 [] jq=(lS (qqF wE),0):=by
 unfold kG idP;rw [exS];rfl
theorem xS:xP qqt ⟨#[]⟩ 5 [] jq:=by
 have i: ∀n:Int, -10<=n/\n<=100->jg n:=fun n h=>⟨by omega,by omega⟩
 refine ⟨i 5 (by omega),Jag rfl,Jag rfl,Jag rfl,Jag rfl,fun c hc=> ?_⟩
 simp only [jq,Jbf,Jb4,or_false] at hc;rcases hc with rfl | rfl | rfl<;>exact ⟨i _ (by decide),i _ (by decide),i _ (by decide),i _ (by decide),i _ (by decide),i _ (by decide),fun x hx=>by cases hx⟩
theorem kS (d:Dig):(lS d).map Atm.kind=[1,2,5,6,6]:=by kernel_rfl
theorem nS (d:Dig):(lS d).map (fun x=>x.id.n)=[0,1,2,3,4]:=by kernel_rfl
theorem qWv (d:Dig):(lS d).length=5:=rfl
theorem qBT (d:Dig):((lS d).getD 3 az).frm=((lS d).getD 0 az).id/\((lS d).getD 3 az).til=((lS d).getD 2 az).id/\((lS d).getD 4 az).frm=((lS d).getD 2 az).id/\((lS d).getD 4 az).til=((lS d).getD 0 az).id:=⟨by kernel_rfl,by kernel_rfl,by kernel_rfl,by kernel_rfl⟩
theorem qXM {d:Dig} {K:Kn} (h:KBo K true):qyo K (lS d,[1,2,5,6,6],(([1,2,5,6,6].length:Nat):Int),0,()):=by
 have hk:=kS d;have hn:=nS d;have hl:=qWv d;obtain ⟨r1,r2,r3,r4⟩:=qBT d;generalize lS d=l at hk hn hl r1 r2 r3 r4;unfold qyo;refine qy.countTo 5 (fun n=>(l,[1,2,5,6,6],((5:Nat):Int),(n:Int),())) (fun _=>True) rfl (fun n hn5 _ W hW=> ?_) trivial
 show qkr K W l [1,2,5,6,6] ((5:Nat):Int) n
 unfold qkr;by_cases hlt:n<5
 . rw [qu hlt,Jae];have h5:n< ([1,2,5,6,6]:List Int).length:=hlt;have hln:n<l.length:=by omega
   have e1:l[n].kind=([1,2,5,6,6]:List Int)[n]:=by
    have:(l.map Atm.kind)[n]? =([1,2,5,6,6]:List Int)[n]? :=by rw [hk]
    rw [Jax,jU hln,jU h5] at this;exact Jb0 this
   have e2:l[n].id.n=(n:Int):=by
    have:(l.map (fun x=>x.id.n))[n]? =([0,1,2,3,4]:List Int)[n]? :=by rw [hn]
    rw [Jax,jU hln] at this;have h3:n=0∨n=1∨n=2∨n=3∨n=4:=by omega
    have:=Jb0 (this.trans (show ([0,1,2,3,4]:List Int)[n]? =some (n:Int)by rcases h3 with rfl | rfl | rfl | rfl | rfl<;>rfl))
    exact this
   refine qD h5 (qD hln ?_);rw [Jaa e1,Jap,Jaf];refine qD hln ?_;rw [Jaa e2,Jap];unfold qyE;rw [Jaf,zd hlt (by omega)]
   exact hW hlt trivial
 . have:n=5:=by omega
   subst this;rw [qm,Jaf];have at3: ∀{Q:Atm->Prop},Q (l.getD 3 az)->At l 3 Q:=fun hQ=>qD (n:=3) (by omega) (by rwa [Jbq,jU (show 3<l.length by omega)] at hQ)
   have at0: ∀{Q:Atm->Prop},Q (l.getD 0 az)->At l 0 Q:=fun hQ=>qD (n:=0) (by omega) (by rwa [Jbq,jU (show 0<l.length by omega)] at hQ)
   have at2: ∀{Q:Atm->Prop},Q (l.getD 2 az)->At l 2 Q:=fun hQ=>qD (n:=2) (by omega) (by rwa [Jbq,jU (show 2<l.length by omega)] at hQ)
   have at4: ∀{Q:Atm->Prop},Q (l.getD 4 az)->At l 4 Q:=fun hQ=>qD (n:=4) (by omega) (by rwa [Jbq,jU (show 4<l.length by omega)] at hQ)
   refine at3 (at0 ?_);rw [v8,Jaa r1,Jae];refine at3 (at2 ?_);rw [v8,Jaa r2,Jae];refine at4 (at2 ?_);rw [v8,Jaa r3,Jae];refine at4 (at0 ?_);rw [v8,Jaa r4];exact h
def qlT:Sp:=⟨S12,L12,fun _=>True,fun _=> .bool true,fun _=>none⟩
theorem qfi:qlT.Ok Tryz.prog 12 true:=
 .mk (fun g K X _ h=>ql5 g K X (by
  unfold F12;refine ⟨trivial,xS,trivial,xS, ?_⟩;have e1:j7 ⟨#[97,110,110]⟩ ⟨#[]⟩ 5 [] jq=(atS,wE,0):=exS;have e2:kG ⟨#[97,110,110]⟩ ⟨#[]⟩ 5 [] jq=(lS (qqF wE),0):=qBF;rw [e1,e2];have hl:=qWv (qqF wE);have hL:=qXM (d:=qqF wE) (K:=K) h;generalize lS (qqF wE)=l at hl hL;show bif !decide (wE=wE)then _ else Y4 K l (!decide (((l.length:Nat):Int)=5))
  rw [Jaa rfl,hl];exact hL))
end
section
open Go.RowKit
attribute [local irreducible] zb qa
set_option maxRecDepth 100000
end
section
open Go.RowKit
set_option maxRecDepth 100000
theorem qje {d:Dig} (h:wf_dig d): ∀x∈xB d,0<=x/\x<=255:=by
 have: ∀x∈xB d,IntKind.u8.min<=x/\x<=IntKind.u8.max:=by
  unfold wf_dig at h;unfold xB;simp only [List.forall_mem_cons,Jb4,false_implies,implies_true,and_true];exact h
 exact fun x hx=>qpR (this x hx)
theorem Yc {x:Idn} (h:wf_idk x):wf_dig x.patch:=by
 unfold wf_idk at h;unfold wf_dig;simp only [h,and_self]
theorem qaA {a b:Dig} (h:xB a=xB b):a=b:=by
 have:=QG a b;obtain ⟨a0,a1,a2,a3,a4,a5,a6,a7,a8,a9,a10,a11,a12,a13,a14,a15,a16,a17,a18,a19,a20,a21,a22,a23,a24,a25,a26,a27,a28,a29,a30,a31⟩:=a;obtain ⟨b0,b1,b2,b3,b4,b5,b6,b7,b8,b9,b10,b11,b12,b13,b14,b15,b16,b17,b18,b19,b20,b21,b22,b23,b24,b25,b26,b27,b28,b29,b30,b31⟩:=b;simp only [xB,Jbx,and_true] at h;simpa only [Dig.mk.injEq] using h
set_option maxRecDepth 100000
theorem qVj {a b:Int} (ha:0<=a/\a<=255) (hb:0<=b/\b<=255):(UInt8.ofNat a.toNat<UInt8.ofNat b.toNat)↔a<b:=by
 rw [UInt8.lt_iff_toNat_lt,UInt8.toNat_ofNat',UInt8.toNat_ofNat'];have h1:a.toNat%2^8=a.toNat:=Nat.mod_eq_of_lt (by omega)
 have h2:b.toNat%2^8=b.toNat:=Nat.mod_eq_of_lt (by omega)
 rw [h1,h2];omega
theorem qKP: ∀l m:List Int,l.length=m.length->(∀x∈l,0<=x/\x<=255)->(∀x∈m,0<=x/\x<=255)->Lib.compareBytes (bs l) (bs m)=qVo l m
 | [],[],_,_,_=>rfl
 | [],_::_,h,_,_=>by cases h
 | _::_,[],h,_,_=>by cases h
 | a::l,b::m,h,ha,hb=>by
  have ih:=qKP l m (by simpa using h) (fun x hx=>ha x (Jbe _ hx)) (fun x hx=>hb x (Jbe _ hx))
  have ha:=ha a (Jbc ..);have hb:=hb b (Jbc ..);show (if UInt8.ofNat a.toNat<UInt8.ofNat b.toNat then (-1:Int)else if UInt8.ofNat b.toNat<UInt8.ofNat a.toNat then 1 else Lib.compareBytes (bs l) (bs m))=bif decide (a<b)then -1 else bif decide (b<a)then 1 else qVo l m
  rw [ih,Bool.cond_decide,Bool.cond_decide];simp only [qVj ha hb,qVj hb ha]
theorem qzl {a b:Dig} (ha:wf_dig a) (hb:wf_dig b):jc a b=xQ a b:=qKP _ _ rfl (qje ha) (qje hb)
theorem qcK {a b:Idn} (ha:wf_idk a) (hb:wf_idk b):idC a b=idI a b:=by
 unfold idC idI;rw [qzl (Yc ha) (Yc hb)]
theorem qa6 {a m:ByteArray} {t:Int} {ds:List Dig} {cs:List Chg} (h: ∀d∈ds,wf_dig d):jW jc a m t ds cs=jW xQ a m t ds cs:=by
 have e:qVL jc ds=qVL xQ ds:=by
  refine Vn fun n hn=> ?_
  rw [Xp hn,Xp hn,qzl (h _ (Jba _)) (h _ (Jba _))]
 unfold jW jB;rw [e]
theorem qzT {k:Int}: ∀{l:List Int},(∀e∈l,e=0∨e=k)->errs l=0∨errs l=k
 | [],_=> .inl rfl
 | e::l,h=>by
  have ih:=qzT fun x hx=>h x (Jbe e hx)
  have h0:=h e (Jbc ..);unfold errs;cases decide (e=0)
  . exact h0
  . exact ih
theorem qvR (cmp:Idn->Idn->Int) (l:List Idn):wA cmp l=0∨wA cmp l=9:=by
 refine qzT fun e he=> ?_
 obtain ⟨n,_,rfl⟩:=Jch.1 he;unfold KH;split
 . rename_i a b _ _;cases decide (0<=cmp a b)
   . exact .inl rfl
   . exact .inr rfl
 . exact .inl rfl
theorem qJG {l:List Idn} (h: ∀x∈l,wf_idk x):wA idC l=wA idI l:=by
 refine Vn fun n _=> ?_
 unfold KH;split
 . rename_i a b ha hb;rw [qcK (h _ (Ja3 ha)) (h _ (Ja3 hb))]
 . rfl
theorem qe1 {l:List Idn} (h: ∀x∈l,wf_idk x):wA idC l=bif !(qkv l)then 9 else 0:=by
 rw [qJG h];unfold qkv;rcases qvR idI l with e | e<;>rw [e]<;>rfl
theorem qxm {c:Chg} (h:vS c=true):c.typ=0/\c.mode=0/\c.lines=[]/\c.over=[]:=by
 unfold vS at h;simp only [Bool.cond_false_right,Jaq,Jbk] at h;obtain ⟨-,h1, -, -,h2, -, -, -,h3,h4⟩:=h;exact ⟨h1,h2,Jan (by omega),Jan (by omega)⟩
theorem Zw (c:Chg):jw c=vS (yE c):=qJa _
theorem YN {c:Chg} (hk:zR c) (h:jw c=true):(c.kind≠3->c.mode=0)/\(c.kind≠5->c.lines=[])/\(c.kind=1∨c.kind=5->c.over=[]):=by
 rw [Zw] at h;obtain ⟨kind,file,typ,parent,name,mode,data,after,before,lines,over⟩:=c;have hk1:(1:Int)<=kind/\kind<=7:=hk;have:kind=1∨kind=2∨kind=3∨kind=4∨kind=5∨kind=6∨kind=7:=by omega
 have:=qxm h;rcases ‹_∨_› with rfl | rfl | rfl | rfl | rfl | rfl | rfl<;>obtain ⟨h1,h2,h3,h4⟩:=this
 . exact ⟨fun _=>h2,fun _=>h3,fun _=>h4⟩
 . exact ⟨fun _=>h2,fun _=>h3,fun h=>by rcases h with h | h<;>cases h⟩
 . exact ⟨fun h=>absurd rfl h,fun _=>h3,fun h=>by rcases h with h | h<;>cases h⟩
 . exact ⟨fun _=>h2,fun _=>h3,fun h=>by rcases h with h | h<;>cases h⟩
 . exact ⟨fun _=>h2,fun h=>absurd rfl h,fun _=>h4⟩
 . exact ⟨fun _=>h2,fun _=>h3,fun h=>by rcases h with h | h<;>cases h⟩
 . exact ⟨fun _=>h2,fun _=>h3,fun h=>by rcases h with h | h<;>cases h⟩
theorem qXs {c:Chg} (h: ∀x∈c.over,wf_idk x):zD c=xY c:=by
 unfold zD xY qvw fR2;cases ek:(bif decide (c.kind<1)then true else decide (7<c.kind))
 rotate_left
 . rfl
 have hk:zR c:=by
  by_cases h1:c.kind<1
  . rw [Jaa h1] at ek;cases ek
  . rw [Jab h1,Jaf] at ek;have:=Jad ek;exact ⟨by omega,by omega⟩
 rw [Jaf,Jaf, <- Zw];cases et:jw c
 . rfl
 obtain ⟨t1,t2,t3⟩:=YN hk et;simp only [Jap,Jaf];unfold fP9 fR4;cases (bif decide (c.kind=1)then (bif decide (c.typ<1)then true else decide (4<c.typ))else false)
 rotate_left
 . rfl
 rw [Jaf,Jaf];unfold fP8 fR6;cases (bif decide (c.kind=2)then !(xZ c.name)else false)
 rotate_left
 . rfl
 rw [Jaf,Jaf];unfold fP7 fR8;have e3:(bif decide (c.kind=3)then (bif decide (c.mode<0)then true else decide (511<c.mode))else false)=(bif decide (c.mode<0)then true else decide (511<c.mode)):=by
  by_cases k:c.kind=3
  . rw [Jaa k];rfl
  . rw [Jab k,t1 k];rfl
 rw [e3];cases (bif decide (c.mode<0)then true else decide (511<c.mode))
 rotate_left
 . rfl
 rw [Jaf,Jaf];cases decide (65536< (c.data.size:Int));rotate_left
 . rfl
 rw [Jaf,Jaf];unfold fP6;by_cases k:c.kind=5
 . have e0:wA idC ([]:List Idn)=0:=rfl;have e7:decide (c.kind=7)=false:=Jab (by omega)
   rw [Jaa k,Jae,Jae];unfold XN;cases decide ((c.lines.length:Int)=0);rotate_left
   . rfl
   rw [Jaf,Jaf];cases decide (2000< (c.lines.length:Int));rotate_left
   . rfl
   rw [Jaf,Jaf];unfold qWA qvv;rw [e7,t3 (.inr k),e0];cases ez:decide (J2 c.lines=0)
   . rfl
   . exact (Jac ez).symm
 . have e0:J2 ([]:List ByteArray)=0:=rfl;rw [Jab k,Jaf,Jaf,Jaf];unfold qWA;rw [t2 k,e0];show qvv _ c=qXE _ c
   unfold qvv qXE;rw [qe1 h]
set_option maxRecDepth 100000
def kM (own:List Atm):Prop:=own.length<=100000/\ ∀(i:Nat) (a:Atm),own[i]? =some a->a.id=Z5 i
theorem Wv {own:List Atm} {x:Idn} {fd:Fd} {b:Bool} (hl:own.length<=100000) (hb:zn x.patch dz=true->0<=x.n->x.n< (own.length:Int)->qxS fd (own.getD x.n.toNat az)=b):yY own ⟨x,fd⟩=xj x own b:=by
 unfold yY xj qkO ZJ;dsimp only;cases eo:zn x.patch dz
 . simp only [Jaf];by_cases h1:x.n<0
   . rw [Jaa h1,Jab (show¬0<=x.n by omega)];rfl
   . rw [Jab h1,Jaa (show 0<=x.n by omega)]
     simp only [Jaf,Jae];by_cases h2:x.n<100000
     . rw [Jaa h2,Jab (show¬100000<=x.n by omega)];rfl
     . rw [Jab h2,Jaa (show 100000<=x.n by omega)];rfl
 . simp only [Jae];by_cases h1:x.n<0
   . rw [Jaa h1,Jab (show¬0<=x.n by omega)];rfl
   . rw [Jab h1,Jaa (show 0<=x.n by omega)]
     simp only [Jaf,Jae];by_cases h2:x.n< (own.length:Int)
     . rw [Jaa h2,Jab (show¬(own.length:Int)<=x.n by omega),Jab (show¬100000<=x.n by omega),hb eo (by omega) h2];rfl
     . rw [Jab h2,Jaa (show (own.length:Int)<=x.n by omega)];rfl
theorem Xy {own:List Atm} {x:Idn} (h0:zn x.patch dz=true) (h1:0<=x.n) (h2:x.n< (own.length:Int)):wx own x=own.getD x.n.toNat az:=by
 unfold wx;rw [h0,Jaa h1,Jaa h2];rfl
theorem qo7 {own:List Atm} {x:Idn} (hw:kM own) (h0:zn x.patch dz=true) (h1:0<=x.n) (h2:x.n< (own.length:Int)):(own.getD x.n.toNat az).id=x:=by
 have hlt:x.n.toNat<own.length:=by omega
 have:=hw.2 x.n.toNat own[x.n.toNat] (jU hlt);rw [Jbq,jU hlt,Option.getD_some,this];obtain ⟨p,n⟩:=x;rw [QG] at h0;have h0:p=dz:=Jac h0;subst h0;show (⟨dz,((n.toNat:Nat):Int)⟩:Idn)=⟨dz,n⟩
 have h1:0<=n:=h1;rw [show ((n.toNat:Nat):Int)=n by omega]
theorem qgR {own:List Atm} (hw:kM own) {k:Int} {x:Idn} {fd:Fd} (h: ∀a,qxS fd a=Qz k a):yY own ⟨x,fd⟩=xj x own (Qz k (wx own x)):=
 Wv hw.1 fun h0 h1 h2=>by rw [h,Xy h0 h1 h2]
theorem ql4 {own:List Atm} (hw:kM own) {x:Idn}:yY own ⟨x,.dir⟩=xj x own (bif decide ((wx own x).kind=1)then decide ((wx own x).typ=4)else false):=
 Wv hw.1 fun h0 h1 h2=>by rw [Xy h0 h1 h2];rfl
theorem qWY {own:List Atm} (hw:kM own) {c:Chg} {x:Idn}:yY own ⟨x,.fin c⟩=xj x own (ZE own c.file x):=
 Wv hw.1 fun h0 h1 h2=>by
  show qqy _ c=ZE own c.file x
  unfold qqy ZE qzr;rw [qo7 hw h0 h1 h2,Xy h0 h1 h2]
theorem qog {k:Int} (h:k=2∨k=3∨k=4∨k=6):qZT k=k/\VE k=k/\k≠7/\k≠0:=by
 rcases h with rfl | rfl | rfl | rfl<;>exact ⟨by kernel_rfl,rfl,by decide,by decide⟩
theorem qoc {own:List Atm} (hw:kM own) {c:Chg} (hk:c.kind=2∨c.kind=3∨c.kind=4∨c.kind=6∨c.kind=7) {x:Idn}:yY own ⟨x,.sup c⟩=xj x own (J0 c.kind c.file (wx own x)):=
 Wv hw.1 fun h0 h1 h2=>by
  show YD _ c=_
  rw [Xy h0 h1 h2];unfold YD J0;by_cases k7:c.kind=7
  . rw [k7];rfl
  . obtain ⟨e1,e2, -,e4⟩:=qog (k:=c.kind) (by omega)
    rw [e1,e2,Jab k7,Jab e4]
theorem qZj {own:List Atm} (hw:kM own) {c:Chg} (hk:(c.kind=1∨c.kind=5)->c.over=[]) (hp:zR c):(Qx c).map (yY own)=XW c own:=by
 unfold Qx XW;rw [List.map_map];obtain ⟨k1,k2⟩:=hp;by_cases h:c.kind=1∨c.kind=5
 . rw [hk h];rfl
 . exact List.map_congr_left fun x _=>qoc hw (by omega)
theorem qcP (c:Chg):XX c=qzn c:=by
 unfold XX qzn XK;cases (bif decide (c.kind=2)then qr c.parent c.file else false)
 rotate_left
 . rfl
 rw [Jaf,Jaf];unfold XF QH;by_cases k5:c.kind=5
 . have k6:decide (c.kind=6)=false:=Jab (by omega)
   rw [Jaa k5,k6];cases qr c.after c.before<;>cases qr c.after c.file<;>rfl
 . by_cases k6:c.kind=6
   . rw [Jab k5,Jaa k6];cases qr c.after c.before<;>cases qr c.after c.file<;>rfl
   . rw [Jab k5,Jab k6];rfl
def QB (a b:Int):Int:=bif !decide (a=0)then a else b
theorem wU (a b c:Int):QB (QB a b) c=QB a (QB b c):=by
 unfold QB;by_cases h:a=0
 . subst h;rfl
 . simp [h]
theorem Je (e:Int):errs [e]=e:=by
 unfold errs;by_cases h:e=0
 . subst h;rfl
 . rw [Jab h];rfl
theorem QP (l m:List Int):errs (l++m)=QB (errs l) (errs m):=by
 rw [VH];unfold QB;cases decide (errs l=0)<;>rfl
def qzi (c:Chg):List Rfn:=bif (bif decide (c.kind=5)then true else decide (c.kind=6))then [⟨c.after,Fd.fin c⟩,⟨c.before,Fd.fin c⟩]++Qx c else Qx c
def qYY (c:Chg):List Rfn:=bif (bif decide (c.kind=2)then !(qr c.parent ⟨dz, -1⟩)else false)then [⟨c.parent,Fd.dir⟩]++qzi c else qzi c
theorem qZB (c:Chg) (out:List Rfn):qyK c out=out++qzi c:=by
 unfold qyK qkh qzi;cases (bif decide (c.kind=5)then true else decide (c.kind=6))
 . rfl
 . simp only [Jae,Jat,List.cons_append,List.nil_append]
theorem Wp (c:Chg) (out:List Rfn):qxE c out=out++qYY c:=by
 unfold qxE qQQ qYY;cases (bif decide (c.kind=2)then !(qr c.parent ⟨dz, -1⟩)else false)
 . exact qZB c out
 . simp only [Jae];rw [qZB,Jat]
theorem qgo {own:List Atm} (hw:kM own) {c:Chg} (ho:(c.kind=1∨c.kind=5)->c.over=[]) (hp:zR c):QB (errs ((qzi c).map (yY own))) (XX c)=qJZ own c:=by
 rw [qcP];unfold qzi qJZ QH qwx;cases (bif decide (c.kind=5)then true else decide (c.kind=6))
 . rw [Jaf,Jaf,qZj hw ho hp];rfl
 . rw [Jae,Jae];rw [Jcj,List.map_cons,List.map_cons,List.map_nil,qWY hw,qWY hw,qZj hw ho hp,QP, <- List.singleton_append,QP,Je,Je,wU,wU];rfl
theorem qlK {own:List Atm} (hw:kM own) {c:Chg} (ho:(c.kind=1∨c.kind=5)->c.over=[]) (hp:zR c):QB (errs ((qYY c).map (yY own))) (XX c)=qX0 own c:=by
 have ht:=qgo hw ho hp;unfold qYY qX0 rF7 rF6;cases (bif decide (c.kind=2)then !(qr c.parent ⟨dz, -1⟩)else false)
 . exact ht
 . rw [Jae,Jae,Jcj,List.map_cons,List.map_nil,ql4 hw,QP,Je,wU,ht];rfl
theorem qgO {own:List Atm} (hw:kM own) {c:Chg} (ho:(c.kind=1∨c.kind=5)->c.over=[]) (hp:zR c):yR c own=Zb c own:=by
 have hm:=qlK hw ho hp;show QB (errs ((jY c).map (yY own))) (XX c)=_
 have one: ∀{fd:Fd},(∀a,qxS fd a=Qz c.kind a)->QB (errs (([(⟨c.file,fd⟩:Rfn)]++qYY c).map (yY own))) (XX c)=rF1 own c:=fun hfd=>by
  rw [Jcj,List.map_cons,List.map_nil,qgR hw hfd,QP,Je,wU,hm];rfl
 obtain ⟨k1,k2⟩:=hp;unfold jY rL8 rL7 Zb rF2;rw [Wp,Wp,Wp,Wp];have hk:c.kind=1∨c.kind=2∨c.kind=3∨c.kind=4∨c.kind=5∨c.kind=6∨c.kind=7:=by omega
 rcases hk with k | k | k | k | k | k | k
 . rw [k];exact hm
 . rw [k];refine one fun a=> ?_
   rw [k];show decide (a.kind=1)=_;unfold Qz;cases decide (a.kind=1)<;>rfl
 . rw [k];refine one fun a=> ?_
   rw [k];show decide (a.kind=1)=_;unfold Qz;cases decide (a.kind=1)<;>rfl
 . rw [k];refine one fun a=> ?_
   rw [k];rfl
 . rw [k];refine one fun a=> ?_
   rw [k];rfl
 . rw [k];refine one fun a=> ?_
   rw [k];rfl
 . rw [k];exact hm
set_option maxRecDepth 100000
theorem vN {c:Chg} (h:zD c=0):jw c=true:=by
 unfold zD qvw at h;cases ek:(bif decide (c.kind<1)then true else decide (7<c.kind))
 rotate_left
 . rw [ek] at h;cases h
 rw [ek,Jaf] at h;cases et:jw c
 . rw [et] at h;cases h
 . rfl
theorem qvP {β:Type} {f:Nat->β} {N j:Nat} {a:β} (h:((List.range N).map f)[j]? =some a):j<N/\a=f j:=by
 rw [Jax] at h;obtain ⟨i,hi,rfl⟩:=Ja2.1 h;obtain ⟨h1,h2⟩:=Jai.1 hi;rw [List.getElem_range] at h2;subst h2;exact ⟨by simpa using h1,rfl⟩
theorem qnT {β:Type} {x a:β} {j:Nat} (h:[x][j]? =some a):j=0/\a=x:=by
 cases j with
 | zero=>exact ⟨rfl,(Jb0 h).symm⟩
 | succ j=>simp at h
theorem qXA {c:Chg} {n:Int} (hk:zR c) {j:Nat} {a:Atm} (h:(xp c n)[j]? =some a):a.id=Z5 (n+j):=by
 obtain ⟨kind,file,typ,parent,name,mode,data,after,before,lines,over⟩:=c;have hk1:(1:Int)<=kind/\kind<=7:=hk;have h0:n+((0:Nat):Int)=n:=by omega
 have:kind=1∨kind=2∨kind=3∨kind=4∨kind=5∨kind=6∨kind=7:=by omega
 rcases this with rfl | rfl | rfl | rfl | rfl | rfl | rfl;rotate_right 3
 . have h:(ZZ (⟨5,file,typ,parent,name,mode,data,after,before,lines,over⟩:Chg) n++qwt ⟨5,file,typ,parent,name,mode,data,after,before,lines,over⟩ n)[j]? =some a:=h;have hl:(ZZ (⟨5,file,typ,parent,name,mode,data,after,before,lines,over⟩:Chg) n).length=lines.length:=by simp [ZZ]
   by_cases hj:j<lines.length
   . rw [Jav (by rw [hl];exact hj)] at h
     obtain ⟨-,rfl⟩:=qvP h;rfl
   . rw [Jas (by rw [hl];omega),hl] at h
     obtain ⟨-,rfl⟩:=qvP h;show Z5 (n+(lines.length:Int)+((j-lines.length:Nat):Int))=_
     rw [show n+(lines.length:Int)+((j-lines.length:Nat):Int)=n+j by omega]
 all_goals
  obtain ⟨rfl,rfl⟩:=qnT h;rw [h0]
theorem qKO {own:List Atm} {c:Chg} (hw:kM own) (hk:zR c) (hl:own.length+(xp c own.length).length<=100000):kM (own++xp c own.length):=by
 refine ⟨by rw [Jak];exact hl,fun i a h=> ?_⟩
 by_cases hi:i<own.length
 . rw [Jav hi] at h;exact hw.2 i a h
 . rw [Jas (by omega)] at h
   rw [qXA hk h,show (own.length:Int)+((i-own.length:Nat):Int)=i by omega]
def atN (cs:List Chg):Nat:=(cs.map fun c=>2*c.lines.length+1).sum
theorem qcT {c:Chg} {n:Int} (hk:zR c):(xp c n).length<=2*c.lines.length+1:=by
 rw [qzm hk];split<;>omega
theorem qvV: ∀{cs:List Chg} {own:List Atm},kM own->own.length+atN cs<=100000->(∀c∈cs, ∀x∈c.over,wf_idk x)->xC zD yR cs own=xC xY Zb cs own
 | [],_,_,_,_=>rfl
 | c::l,own,hw,hl,hx=>by
  have hl:own.length+(2*c.lines.length+1+atN l)<=100000:=hl;rw [xC,xC, <- qXs (hx c (Jbc ..))];by_cases hf:zD c=0
  rotate_left
  . rw [Jab hf];rfl
  have hk:=jx hf;have ho:=(YN hk (vN hf)).2.2;have hm:=qcT (n:=own.length) hk;rw [Jaa hf,Jap,Jaf,Jaf,qgO hw ho hk];have ih:=qvV (cs:=l) (qKO hw hk (by omega)) (by rw [Jak];omega) fun c' hc=>hx c' (Jbe _ hc)
  rw [ih]
theorem qgW {cs:List Chg} (hl:atN cs<=100000) (hx: ∀c∈cs, ∀x∈c.over,wf_idk x):ZX cs=Qu cs:=
 qvV ⟨Jbt _,fun i a h=>by cases h⟩ (by simpa using hl) hx
theorem qja {cmp:Dig->Dig->Int} {a m:ByteArray} {t:Int} {ds:List Dig} {cs:List Chg} (h:jW cmp a m t ds cs=0): ∀d∈ds,zn d dz=false:=by
 unfold jW at h;cases c1:xZ a
 . rw [c1] at h;cases h
 rw [c1,Jap,Jaf] at h;cases c2:decide (1000< (m.size:Int));rotate_left
 . rw [c2] at h;cases h
 rw [c2,Jaf] at h;cases c3:(bif decide (t<0)then true else decide (1099511627776<t))
 rotate_left
 . rw [c3] at h;cases h
 rw [c3,Jaf] at h;by_cases z:jB cmp ds=0
 rotate_left
 . rw [Jab z] at h;exact absurd h z
 unfold jB at z;cases c4:decide (100< (ds.length:Int));rotate_left
 . rw [c4] at z;cases z
 rw [c4,Jaf] at z;intro d hd;obtain ⟨n,hn,rfl⟩:=List.getElem_of_mem hd;have:=qk8.1 z n hn;rw [Xp hn] at this;cases e:zn ds[n] dz
 . rfl
 . rw [e] at this;cases this
theorem qhb {ds:List Dig} (h: ∀d∈ds,zn d dz=false):ds.map jh=za ds:=by
 refine List.map_congr_left fun d hd=> ?_
 unfold jh;rw [h d hd];rfl
theorem qub {a m:ByteArray} {t:Int} {ds:List Dig} {cs:List Chg} (hd: ∀d∈ds,wf_dig d) (hl:atN cs<=100000) (hx: ∀c∈cs, ∀x∈c.over,wf_idk x):
  (j7 a m t ds cs).2=kw a m t ds cs:=by
 unfold j7 kw XU;rw [qa6 hd,qgW hl hx];by_cases z:jW xQ a m t ds cs=0
 rotate_left
 . rw [Jab z];show (_,_)=bif !decide (jW xQ a m t ds cs=0)then _ else _
   rw [Jab z];rfl
 rw [Jaa z,Jap,Jaf,Jaf];unfold Jg;by_cases y:(Qu cs).2=0
 rotate_left
 . rw [Jab y];rfl
 rw [Jaa y,Jap,Jaf,Jaf];unfold qx4 qxU;rw [qhb (qja z)];cases (bif !decide ((vQ (zN a m t (za ds) cs)).2=0)then true else decide (65536< ((vQ (zN a m t (za ds) cs)).1.size:Int)))<;>rfl
set_option maxRecDepth 100000
set_option maxRecDepth 100000
def zz (l:List Sx):Sx:=l.headD sx0
abbrev yc:=List Sx×Bool
def xT (r:yc):yc:=(r.1.tail,r.1.isEmpty||r.2)
def qq {α:Type} (f:Sx->α×Bool) (r:yc):α×yc:=((f (zz r.1)).1,(xT r).1,(xT r).2||(f (zz r.1)).2)
def ZI (s:ByteArray):Dig:=⟨qL s 0 0,qL s 1 0,qL s 2 0,qL s 3 0,qL s 4 0,qL s 5 0,qL s 6 0,qL s 7 0,qL s 8 0,qL s 9 0,qL s 10 0,qL s 11 0,qL s 12 0,qL s 13 0,qL s 14 0,qL s 15 0,qL s 16 0,qL s 17 0,qL s 18 0,qL s 19 0,qL s 20 0,qL s 21 0,qL s 22 0,qL s 23 0,qL s 24 0,qL s 25 0,qL s 26 0,qL s 27 0,qL s 28 0,qL s 29 0,qL s 30 0,qL s 31 0⟩
def jK (x:Sx):ByteArray×Bool:=(x.atom,false)
def zq (x:Sx):Int×Bool:=((nmG x).1, !decide ((nmG x).2=0))
def zJ (x:Sx):List Sx×Bool:=(x.list,false)
def kX (s:ByteArray):Bool:=bif !decide (s=(⟨#[]⟩:ByteArray))then !decide ((s.size:Int)=32)else false
theorem W5:kX ⟨#[]⟩=false:=by unfold kX;rw [Jaa rfl];rfl
def Jh (x:Sx):Dig×Bool:=(ZI x.atom,kX x.atom)
def zC (x:Sx):Idn×Bool:=(⟨(qq Jh (x.list,false)).1,(qq zq (qq Jh (x.list,false)).2).1⟩,(qq zq (qq Jh (x.list,false)).2).2.2)
def VL (x:Sx):List Idn×Bool:=(x.list.map fun y=>(zC y).1,x.list.any fun y=>(zC y).2)
def lPx (x:Sx):List ByteArray×Bool:=(x.list.map fun y=>y.atom,false)
def cP3 (c:Chg) (r:yc):Chg×Bool:=
 bif decide (c.kind=5)then (⟨c.kind,c.file,c.typ,c.parent,c.name,c.mode,c.data,c.after,c.before,(qq lPx r).1,c.over⟩,(qq lPx r).2.2)
 else bif decide (2<=c.kind)then (⟨c.kind,c.file,c.typ,c.parent,c.name,c.mode,c.data,c.after,c.before,c.lines,(qq VL r).1⟩,(qq VL r).2.2)else (c,r.2)
def cP2 (c:Chg) (r:yc):Chg×Bool:=
 bif decide (c.kind=1)then cP3 ⟨c.kind,c.file,(qq zq r).1,c.parent,c.name,c.mode,c.data,c.after,c.before,c.lines,c.over⟩ (qq zq r).2
 else bif decide (c.kind=2)then cP3 ⟨c.kind,c.file,c.typ,(qq zC r).1,(qq jK (qq zC r).2).1,c.mode,c.data,c.after,c.before,c.lines,c.over⟩ (qq jK (qq zC r).2).2
 else bif decide (c.kind=3)then cP3 ⟨c.kind,c.file,c.typ,c.parent,c.name,(qq zq r).1,c.data,c.after,c.before,c.lines,c.over⟩ (qq zq r).2
 else bif decide (c.kind=4)then cP3 ⟨c.kind,c.file,c.typ,c.parent,c.name,c.mode,(qq jK r).1,c.after,c.before,c.lines,c.over⟩ (qq jK r).2
 else bif (bif decide (c.kind=5)then true else decide (c.kind=6))then cP3 ⟨c.kind,c.file,c.typ,c.parent,c.name,c.mode,c.data,(qq zC r).1,(qq zC (qq zC r).2).1,c.lines,c.over⟩ (qq zC (qq zC r).2).2
 else cP3 c r
def cP1 (c:Chg) (r:yc):Chg×Bool:=
 bif (bif decide (2<=c.kind)then decide (c.kind<=6)else false)then cP2 ⟨c.kind,(qq zC r).1,c.typ,c.parent,c.name,c.mode,c.data,c.after,c.before,c.lines,c.over⟩ (qq zC r).2 else cP2 c r
def qF (k:Int):Chg:=⟨k,iz,0,iz,⟨#[]⟩,0,⟨#[]⟩,iz,iz,[],[]⟩
def JX (x:Sx):Chg×Bool:=cP1 (qF (qq zq (x.list,false)).1) (qq zq (x.list,false)).2
def qp {α:Type} (f:Sx->α×Bool):List Sx->List α×Bool
 | []=>([],false)
 | x::l=>bif (f x).2 then ([(f x).1],true)else ((f x).1::(qp f l).1,(qp f l).2)
structure Rp where
 a:ByteArray
 m:ByteArray
 t:Int
 ds:List Dig
 cs:List Chg
 bad:Bool
def xM (l:List Sx):Rp:=
 let r0:=qq jK (l,false)
 let r1:=qq jK r0.2
 let r2:=qq jK r1.2
 let r3:=qq zq r2.2
 let r4:=qq zJ r3.2
 let r5:=qq zJ r4.2
 ⟨r1.1,r2.1,r3.1,r4.1.map fun x=>(Jh x).1,(qp JX r5.1).1,r5.2.2||((r4.1.any fun x=>(Jh x).2)||(qp JX r5.1).2)⟩
def z7 (x:Sx):ByteArray×Bool:=(x.atom,x.isList)
def qN (x:Sx):List Sx×Bool:=(x.list, !x.isList)
def Qo (x:Sx):Dig×Bool:=bif kX x.atom then (dz,true)else (ZI x.atom,x.isList)
def zt (x:Sx):Idn×Bool:=(⟨(qq Qo (x.list,false)).1,(qq zq (qq Qo (x.list,false)).2).1⟩, !x.isList||((qq zq (qq Qo (x.list,false)).2).2.2||decide (0< (((qq zq (qq Qo (x.list,false)).2).2.1.length:Nat):Int))))
def VA (x:Sx):List Idn×Bool:=((qp zt x.list).1, !x.isList||(qp zt x.list).2)
def lRx (x:Sx):List ByteArray×Bool:=((qp z7 x.list).1, !x.isList||(qp z7 x.list).2)
def Y1 (r:yc):Bool:=r.2||decide (0< ((r.1.length:Nat):Int))
def cR3 (c:Chg) (r:yc):Chg×Bool:=
 bif decide (c.kind=5)then (⟨c.kind,c.file,c.typ,c.parent,c.name,c.mode,c.data,c.after,c.before,(qq lRx r).1,c.over⟩,Y1 (qq lRx r).2)
 else bif !decide (c.kind=1)then (⟨c.kind,c.file,c.typ,c.parent,c.name,c.mode,c.data,c.after,c.before,c.lines,(qq VA r).1⟩,Y1 (qq VA r).2)else (c,Y1 r)
def cR2 (c:Chg) (r:yc):Chg×Bool:=
 bif decide (c.kind=1)then cR3 ⟨c.kind,c.file,(qq zq r).1,c.parent,c.name,c.mode,c.data,c.after,c.before,c.lines,c.over⟩ (qq zq r).2
 else bif decide (c.kind=2)then cR3 ⟨c.kind,c.file,c.typ,(qq zt r).1,(qq z7 (qq zt r).2).1,c.mode,c.data,c.after,c.before,c.lines,c.over⟩ (qq z7 (qq zt r).2).2
 else bif decide (c.kind=3)then cR3 ⟨c.kind,c.file,c.typ,c.parent,c.name,(qq zq r).1,c.data,c.after,c.before,c.lines,c.over⟩ (qq zq r).2
 else bif decide (c.kind=4)then cR3 ⟨c.kind,c.file,c.typ,c.parent,c.name,c.mode,(qq z7 r).1,c.after,c.before,c.lines,c.over⟩ (qq z7 r).2
 else bif (bif decide (c.kind=5)then true else decide (c.kind=6))then cR3 ⟨c.kind,c.file,c.typ,c.parent,c.name,c.mode,c.data,(qq zt r).1,(qq zt (qq zt r).2).1,c.lines,c.over⟩ (qq zt (qq zt r).2).2
 else cR3 c r
def Js (c:Chg) (r:yc):Chg×Bool:=
 bif (bif decide (2<=c.kind)then decide (c.kind<=6)else false)then cR2 ⟨c.kind,(qq zt r).1,c.typ,c.parent,c.name,c.mode,c.data,c.after,c.before,c.lines,c.over⟩ (qq zt r).2 else cR2 c r
def ZU (x:Sx):Chg×Bool:=((Js (qF (qq zq (x.list,false)).1) (qq zq (x.list,false)).2).1, !x.isList||(Js (qF (qq zq (x.list,false)).1) (qq zq (x.list,false)).2).2)
def JV (l:List Sx):Rp:=
 let r0:=qq z7 (l,false)
 let r1:=qq z7 r0.2
 let r2:=qq z7 r1.2
 let r3:=qq zq r2.2
 let r4:=qq qN r3.2
 let r5:=qq qN r4.2
 ⟨r1.1,r2.1,r3.1,(qp Qo r4.1).1,(qp ZU r5.1).1,r5.2.2||((qp Qo r4.1).2||(qp ZU r5.1).2)⟩
structure Dr where
 a:ByteArray
 m:ByteArray
 t:Int
 ds:List Dig
 cs:List Chg
 e:Int
def drZ:Dr:=⟨⟨#[]⟩,⟨#[]⟩,0,[],[],12⟩
def vb (s:ByteArray) (p:Rp) (x:ByteArray×Int):Dr:=bif p.bad then drZ else bif !decide (x.2=0)then drZ else bif !decide (x.1=s)then drZ else ⟨p.a,p.m,p.t,p.ds,p.cs,0⟩
theorem xr {α:Type} {f:Sx->α×Bool} (hf: ∀x,(f x).2=false) (r:yc):(qq f r).2=xT r:=by
 refine Prod.ext rfl ?_;show ((xT r).2||(f (zz r.1)).2)=_
 rw [hf,Jcm]
theorem qjY {J:Bool->Prop} {a b:Bool} (h:J (a||b)):bif a then J true else J b:=by cases a<;>exact h
theorem qCd {J:Bool->Prop} {a c x y:Bool} (h:J (a||bif c then x else y)):bif a then J true else (bif c then J x else J y):=by cases a<;>cases c<;>exact h
theorem qn6 {J:Bool->Prop} {a b c:Bool} (h:J (a||(b||c))):bif a then J true else (bif b then J true else J c):=by cases a<;>cases b<;>exact h
theorem qy.reads {α γ:Type} {body:(γ->Prop)->γ->Prop} {g:γ} (f:Sx->α×Bool) (S:List Sx->Bool->List α->γ) (I:List Sx->List α->Prop) (Q:List α×Bool->Prop) (L:List Sx) (hg:g=S L false []) (h0:I L [])
  (hI: ∀x l out,I (x::l) out->I l (out++[(f x).1]))
  (step: ∀(W:γ->Prop) x l b out,I (x::l) out->W (S l (b||(f x).2) (out++[(f x).1]))->body W (S (x::l) b out))
  (last: ∀(W:γ->Prop) b out,Q (out,b)->body W (S [] b out)) (h:Q (L.map (fun x=>(f x).1),L.any fun x=>(f x).2)):qy body g:=by
 have key: ∀(l:List Sx) b out,I l out->Q (out++l.map (fun x=>(f x).1),b||l.any fun x=>(f x).2)->QK body (l.length+1) (S l b out):=by
  intro l;induction l with
  | nil=>intro b out _ hq;exact last _ b out (by simpa using hq)
  | cons x l ih=>
   intro b out hi hq;refine step _ x l b out hi (ih _ _ (hI x l out hi) ?_);rw [List.map_cons,List.any_cons] at hq;rw [Jat,Jcl];exact hq
 subst hg;exact ⟨L.length+1,key L false [] h0 (by simpa using h)⟩
theorem qy.readsB {α γ:Type} {body:(γ->Prop)->γ->Prop} {g:γ} (f:Sx->α×Bool) (S:List Sx->Bool->List α->γ) (I:List Sx->List α->Prop) (Q:List α×Bool->Prop) (L:List Sx) (hg:g=S L false []) (h0:I L [])
  (hI: ∀x l out,I (x::l) out->I l (out++[(f x).1]))
  (step: ∀(W:γ->Prop) x l out,I (x::l) out->W (S l (f x).2 (out++[(f x).1]))->body W (S (x::l) false out))
  (bad: ∀(W:γ->Prop) l out,Q (out,true)->body W (S l true out)) (last: ∀(W:γ->Prop) out,Q (out,false)->body W (S [] false out)) (h:Q (qp f L)):qy body g:=by
 have key: ∀(l:List Sx) out,I l out->Q (out++(qp f l).1,(qp f l).2)->QK body (l.length+2) (S l false out):=by
  intro l;induction l with
  | nil=>intro out _ hq;exact last _ out (by simpa [qp] using hq)
  | cons x l ih=>
   intro out hi hq;refine step _ x l out hi ?_;rw [qp] at hq;cases c:(f x).2
   . refine ih _ (hI x l out hi) ?_;rw [c,Jaf] at hq;rw [Jat];exact hq
   . refine bad _ l _ ?_;rw [c,Jae] at hq;exact hq
 subst hg;exact ⟨L.length+2,key L [] h0 (by simpa using h)⟩
theorem jA (x:Sx):jv x=x.atom.size+3+qV x.list:=by cases x;rfl
theorem jF: ∀l:List Sx,3*l.length<=qV l
 | []=>Jbt _
 | x::l=>by have:=jA x;have:=jF l;simp only [qV,Jaj];omega
theorem qaf {l:List Sx} (h:qV l<=zV):jv (zz l)<=zV:=by
 cases l with
 | nil=>show jv sx0<=zV;rw [jA];decide
 | cons x l=>simp only [qV] at h;show jv x<=zV;omega
theorem zO {l:List Sx} (h:qV l<=zV):qV l.tail<=zV:=by
 cases l with
 | nil=>exact h
 | cons x l=>simp only [qV] at h;show qV l<=zV;omega
theorem vD {l:List Sx} (h:qV l<=zV):qV (zz l).list<=zV:=by
 have:=qaf h;rw [jA] at this;omega
theorem qe {α:Type} {f:Sx->α×Bool} {x:Sx} {l:List Sx} {v:α} (h:f x=(v,false)):qq f (x::l,false)=(v,l,false):=by
 show ((f x).1,l,(f x).2)=_
 rw [h]
theorem yr {α:Type} {f:Sx->α×Bool} {g:α->Sx}: ∀{l:List α},(∀x∈l,f (g x)=(x,false))->qp f (l.map g)=(l,false)
 | [],_=>rfl
 | x::l,h=>by
  rw [List.map_cons,qp,h x (Jbc ..),yr fun y hy=>h y (Jbe x hy)];rfl
theorem qkE {α:Type} {f:Sx->α×Bool} {g:α->Sx} {l:List α} (h: ∀x∈l,f (g x)=(x,false)):((l.map g).map fun x=>(f x).1)=l/\((l.map g).any fun x=>(f x).2)=false:=by
 induction l with
 | nil=>exact ⟨rfl,rfl⟩
 | cons x l ih=>
  obtain ⟨h1,h2⟩:=ih fun y hy=>h y (Jbe x hy)
  have h3:=h x (Jbc ..);exact ⟨by rw [List.map_cons,List.map_cons,h1,h3],by rw [List.map_cons,List.any_cons,h2,h3];rfl⟩
def ZW (n:Int):Prop:= -1099511627776<=n/\n<=1099511627776
theorem xJ {n:Int} (h:ZW n):zq (qX n)=(n,false):=by
 obtain ⟨h1,h2⟩:=h;have hn: ¬(n< -1099511627776∨1099511627776<n):=by omega
 have e:qX n=⟨false,jd n,[]⟩:=by unfold qX vE;rw [if_neg hn]
 have hl:=qw6 (n:=n) ⟨by omega,by omega⟩
 have e2:nmG ⟨false,jd n,[]⟩=(n,0):=by
  unfold nmG nmB;rw [qdm (by omega),if_pos rfl,if_neg (by simp),if_pos (by rw [wC];exact qa1 n),wC]
  exact qKh hn
 unfold zq;rw [e,e2];rfl
theorem qoW (s:ByteArray) (i:Nat):IntKind.u8.min<=qL s i 0/\qL s i 0<=IntKind.u8.max:=by
 have h1:IntKind.u8.min=0:=rfl;have h2:IntKind.u8.max=255:=rfl;rw [h1,h2];unfold qL;cases s[i]? with
 | none=>exact ⟨by decide,by decide⟩
 | some c=>
  have:=c.toNat_lt;exact ⟨by show 0<=(c.toNat:Int);omega,by show (c.toNat:Int)<=255;omega⟩
theorem qjl (s:ByteArray):wf_dig (ZI s):=by
 unfold wf_dig ZI;simp only [qoW,and_self]
set_option maxRecDepth 100000
theorem qQB: ∀l:List Int,(∀x∈l,0<=x/\x<=255)->(l.map fun n=>((UInt8.ofNat n.toNat).toNat:Int))=l
 | [],_=>rfl
 | x::l,hl=>by
  have h1:=hl x (Jbc ..);have e:((UInt8.ofNat x.toNat).toNat:Int)=x:=by rw [UInt8.toNat_ofNat'];omega
  rw [List.map_cons,e,qQB l fun y hy=>hl y (Jbe x hy)]
theorem qzX {d:Dig} (h:wf_dig d):ZI (vP d)=d:=by
 refine qaA ?_;have e:xB (ZI (vP d))=(xB d).map fun n=>((UInt8.ofNat n.toNat).toNat:Int):=rfl
 rw [e];exact qQB _ (qje h)
theorem qvs:ZI ⟨#[]⟩=dz:=rfl
theorem qwE (d:Dig):kX (vP d)=false:=by
 unfold kX;rw [X3,Jaa (show ((32:Nat):Int)=32 from rfl)]
 cases !decide (vP d=(⟨#[]⟩:ByteArray))<;>rfl
theorem qwC {d:Dig} (h:wf_dig d):Jh (qY (vP d))=(d,false):=by
 show (ZI (vP d),kX (vP d))=_
 rw [qzX h,qwE]
theorem qvi {d:Dig} (h:wf_dig d):Qo (qY (vP d))=(d,false):=by
 show (bif kX (vP d)then (dz,true)else (ZI (vP d),false))=_
 rw [qzX h,qwE];rfl
theorem YE (d:Dig):d=dz/\jh d=qY ⟨#[]⟩∨jh d=qY (vP d):=by
 unfold jh;cases e:zn d dz
 . exact .inr rfl
 . exact .inl ⟨by rw [QG] at e;exact Jac e,rfl⟩
theorem qKr {d:Dig} (h:wf_dig d):Jh (jh d)=(d,false):=by
 rcases YE d with ⟨rfl,e⟩ | e<;>rw [e]
 . show (ZI ⟨#[]⟩,kX ⟨#[]⟩)=_
   rw [qvs,W5]
 . exact qwC h
theorem qWL {d:Dig} (h:wf_dig d):Qo (jh d)=(d,false):=by
 rcases YE d with ⟨rfl,e⟩ | e<;>rw [e]
 . show (bif kX ⟨#[]⟩then (dz,true)else (ZI ⟨#[]⟩,false))=_
   rw [qvs,W5];rfl
 . exact qvi h
def Zg (x:Idn):Prop:=wf_dig x.patch/\ZW x.n
theorem zm:Zg iz:=by
 refine ⟨?_,by decide,by decide⟩
 unfold wf_dig;simp only [iz,dz];decide
theorem jN {x:Idn} (h:Zg x):zC (qK x)=(x,false):=by
 have e1:qq Jh ((qK x).list,false)=(x.patch,[qX x.n],false):=qe (qKr h.1);have e2:qq zq ([qX x.n],false)=(x.n,[],false):=qe (xJ h.2);unfold zC;rw [e1];dsimp only;rw [e2]
theorem jE {x:Idn} (h:Zg x):zt (qK x)=(x,false):=by
 have e1:qq Qo ((qK x).list,false)=(x.patch,[qX x.n],false):=qe (qWL h.1);have e2:qq zq ([qX x.n],false)=(x.n,[],false):=qe (xJ h.2);unfold zt;rw [e1];dsimp only;rw [e2];rfl
theorem QN {l:List Idn} (h: ∀x∈l,Zg x):VL (qJ l)=(l,false):=by
 obtain ⟨h1,h2⟩:=qkE (f:=zC) (g:=qK) fun x hx=>jN (h x hx)
 exact Prod.ext h1 h2
theorem Qh {l:List Idn} (h: ∀x∈l,Zg x):VA (qJ l)=(l,false):=by
 have:=yr (f:=zt) (g:=qK) fun x hx=>jE (h x hx)
 show ((qp zt (l.map qK)).1, !true||(qp zt (l.map qK)).2)=_
 rw [this];rfl
theorem qKD (l:List ByteArray):lPx (zh l)=(l,false):=by
 obtain ⟨h1, -⟩:=qkE (f:=jK) (g:=qY) (l:=l) fun _ _=>rfl
 exact Prod.ext h1 rfl
theorem qYq (l:List ByteArray):lRx (zh l)=(l,false):=by
 have:=yr (f:=z7) (g:=qY) (l:=l) fun _ _=>rfl
 show ((qp z7 (l.map qY)).1, !true||(qp z7 (l.map qY)).2)=_
 rw [this];rfl
theorem qBK (r:yc):cP1 (qF 1) r=(⟨1,iz,(qq zq r).1,iz,⟨#[]⟩,0,⟨#[]⟩,iz,iz,[],[]⟩,(qq zq r).2.2):=rfl
theorem qCe (r:yc):cP1 (qF 2) r=(⟨2,(qq zC r).1,0,(qq zC (qq zC r).2).1,(qq jK (qq zC (qq zC r).2).2).1,0,⟨#[]⟩,iz,iz,[],(qq VL (qq jK (qq zC (qq zC r).2).2).2).1⟩,(qq VL (qq jK (qq zC (qq zC r).2).2).2).2.2):=rfl
theorem qA1 (r:yc):cP1 (qF 3) r=(⟨3,(qq zC r).1,0,iz,⟨#[]⟩,(qq zq (qq zC r).2).1,⟨#[]⟩,iz,iz,[],(qq VL (qq zq (qq zC r).2).2).1⟩,(qq VL (qq zq (qq zC r).2).2).2.2):=rfl
theorem qBe (r:yc):cP1 (qF 4) r=(⟨4,(qq zC r).1,0,iz,⟨#[]⟩,0,(qq jK (qq zC r).2).1,iz,iz,[],(qq VL (qq jK (qq zC r).2).2).1⟩,(qq VL (qq jK (qq zC r).2).2).2.2):=rfl
theorem qBm (r:yc):cP1 (qF 5) r=(⟨5,(qq zC r).1,0,iz,⟨#[]⟩,0,⟨#[]⟩,(qq zC (qq zC r).2).1,(qq zC (qq zC (qq zC r).2).2).1,(qq lPx (qq zC (qq zC (qq zC r).2).2).2).1,[]⟩,(qq lPx (qq zC (qq zC (qq zC r).2).2).2).2.2):=rfl
theorem qBO (r:yc):cP1 (qF 6) r=(⟨6,(qq zC r).1,0,iz,⟨#[]⟩,0,⟨#[]⟩,(qq zC (qq zC r).2).1,(qq zC (qq zC (qq zC r).2).2).1,[],(qq VL (qq zC (qq zC (qq zC r).2).2).2).1⟩,(qq VL (qq zC (qq zC (qq zC r).2).2).2).2.2):=rfl
theorem qBM (r:yc):cP1 (qF 7) r=(⟨7,iz,0,iz,⟨#[]⟩,0,⟨#[]⟩,iz,iz,[],(qq VL r).1⟩,(qq VL r).2.2):=rfl
theorem qBr (r:yc):Js (qF 1) r=(⟨1,iz,(qq zq r).1,iz,⟨#[]⟩,0,⟨#[]⟩,iz,iz,[],[]⟩,Y1 (qq zq r).2):=rfl
theorem qAp (r:yc):Js (qF 2) r=(⟨2,(qq zt r).1,0,(qq zt (qq zt r).2).1,(qq z7 (qq zt (qq zt r).2).2).1,0,⟨#[]⟩,iz,iz,[],(qq VA (qq z7 (qq zt (qq zt r).2).2).2).1⟩,Y1 (qq VA (qq z7 (qq zt (qq zt r).2).2).2).2):=rfl
theorem qBj (r:yc):Js (qF 3) r=(⟨3,(qq zt r).1,0,iz,⟨#[]⟩,(qq zq (qq zt r).2).1,⟨#[]⟩,iz,iz,[],(qq VA (qq zq (qq zt r).2).2).1⟩,Y1 (qq VA (qq zq (qq zt r).2).2).2):=rfl
theorem qAS (r:yc):Js (qF 4) r=(⟨4,(qq zt r).1,0,iz,⟨#[]⟩,0,(qq z7 (qq zt r).2).1,iz,iz,[],(qq VA (qq z7 (qq zt r).2).2).1⟩,Y1 (qq VA (qq z7 (qq zt r).2).2).2):=rfl
theorem qCW (r:yc):Js (qF 5) r=(⟨5,(qq zt r).1,0,iz,⟨#[]⟩,0,⟨#[]⟩,(qq zt (qq zt r).2).1,(qq zt (qq zt (qq zt r).2).2).1,(qq lRx (qq zt (qq zt (qq zt r).2).2).2).1,[]⟩,Y1 (qq lRx (qq zt (qq zt (qq zt r).2).2).2).2):=rfl
theorem qCz (r:yc):Js (qF 6) r=(⟨6,(qq zt r).1,0,iz,⟨#[]⟩,0,⟨#[]⟩,(qq zt (qq zt r).2).1,(qq zt (qq zt (qq zt r).2).2).1,[],(qq VA (qq zt (qq zt (qq zt r).2).2).2).1⟩,Y1 (qq VA (qq zt (qq zt (qq zt r).2).2).2).2):=rfl
theorem qCc (r:yc):Js (qF 7) r=(⟨7,iz,0,iz,⟨#[]⟩,0,⟨#[]⟩,iz,iz,[],(qq VA r).1⟩,Y1 (qq VA r).2):=rfl
theorem kd {c:Chg} (h:vS c=true):c.file=iz/\c.typ=0/\c.parent=iz/\c.name=⟨#[]⟩/\c.mode=0/\c.data=⟨#[]⟩/\c.after=iz/\c.before=iz/\c.lines=[]/\c.over=[]:=by
 unfold vS at h;simp only [Bool.cond_false_right,Jaq,Jbk,v8] at h;obtain ⟨h0,h1,h2,h3,h4,h5,h6,h7,h8,h9⟩:=h;exact ⟨h0,h1,h2,h3,h4,h5,h6,h7,Jan (by omega),Jan (by omega)⟩
def qzU (c:Chg):Prop:=ZW c.typ/\ZW c.mode/\Zg c.file/\Zg c.parent/\Zg c.after/\Zg c.before/\ ∀x∈c.over,Zg x
theorem qas {c:Chg} (hk:zR c) (ht:jw c=true) (hg:qzU c):JX (yh c)=(c,false):=by
 rw [Zw] at ht;have p:=kd ht;obtain ⟨kind,file,typ,parent,name,mode,data,after,before,lines,over⟩:=c;obtain ⟨g1,g2,g3,g4,g5,g6,g7⟩:=hg;have hk1:(1:Int)<=kind/\kind<=7:=hk;have e0: ∀l,qq zq (qX kind::l,false)=(kind,l,false):=fun l=>qe (xJ ⟨by omega,by omega⟩)
 have:kind=1∨kind=2∨kind=3∨kind=4∨kind=5∨kind=6∨kind=7:=by omega
 show cP1 (qF (qq zq (qX kind::z8 kind.toNat _,false)).1) (qq zq (qX kind::z8 kind.toNat _,false)).2=_
 rw [e0];dsimp only;rcases this with rfl | rfl | rfl | rfl | rfl | rfl | rfl
 . have q:file=iz:=p.1;subst q;have q:parent=iz:=p.2.2.1;subst q;have q:name=⟨#[]⟩:=p.2.2.2.1;subst q;have q:mode=0:=p.2.2.2.2.1;subst q;have q:data=⟨#[]⟩:=p.2.2.2.2.2.1;subst q;have q:after=iz:=p.2.2.2.2.2.2.1;subst q;have q:before=iz:=p.2.2.2.2.2.2.2.1;subst q;have q:lines=[]:=p.2.2.2.2.2.2.2.2.1;subst q;have q:over=[]:=p.2.2.2.2.2.2.2.2.2;subst q;have e1:qq zq (qX typ::[],false)=(typ,[],false):=qe (xJ g1);show cP1 (qF 1) ([qX typ],false)=_
   rw [qBK,e1]
 . have q:typ=0:=p.2.1;subst q;have q:mode=0:=p.2.2.2.2.1;subst q;have q:data=⟨#[]⟩:=p.2.2.2.2.2.1;subst q;have q:after=iz:=p.2.2.2.2.2.2.1;subst q;have q:before=iz:=p.2.2.2.2.2.2.2.1;subst q;have q:lines=[]:=p.2.2.2.2.2.2.2.2.1;subst q;have e1:qq zC (qK file::[qK parent,qY name,qJ over],false)=(file,[qK parent,qY name,qJ over],false):=qe (jN g3);have e2:qq zC (qK parent::[qY name,qJ over],false)=(parent,[qY name,qJ over],false):=qe (jN g4);have e3:qq jK (qY name::[qJ over],false)=(name,[qJ over],false):=qe (rfl);have e4:qq VL (qJ over::[],false)=(over,[],false):=qe (QN g7);show cP1 (qF 2) ([qK file,qK parent,qY name,qJ over],false)=_
   rw [qCe,e1,e2,e3,e4]
 . have q:typ=0:=p.2.1;subst q;have q:parent=iz:=p.2.2.1;subst q;have q:name=⟨#[]⟩:=p.2.2.2.1;subst q;have q:data=⟨#[]⟩:=p.2.2.2.2.2.1;subst q;have q:after=iz:=p.2.2.2.2.2.2.1;subst q;have q:before=iz:=p.2.2.2.2.2.2.2.1;subst q;have q:lines=[]:=p.2.2.2.2.2.2.2.2.1;subst q;have e1:qq zC (qK file::[qX mode,qJ over],false)=(file,[qX mode,qJ over],false):=qe (jN g3);have e2:qq zq (qX mode::[qJ over],false)=(mode,[qJ over],false):=qe (xJ g2);have e3:qq VL (qJ over::[],false)=(over,[],false):=qe (QN g7);show cP1 (qF 3) ([qK file,qX mode,qJ over],false)=_
   rw [qA1,e1,e2,e3]
 . have q:typ=0:=p.2.1;subst q;have q:parent=iz:=p.2.2.1;subst q;have q:name=⟨#[]⟩:=p.2.2.2.1;subst q;have q:mode=0:=p.2.2.2.2.1;subst q;have q:after=iz:=p.2.2.2.2.2.2.1;subst q;have q:before=iz:=p.2.2.2.2.2.2.2.1;subst q;have q:lines=[]:=p.2.2.2.2.2.2.2.2.1;subst q;have e1:qq zC (qK file::[qY data,qJ over],false)=(file,[qY data,qJ over],false):=qe (jN g3);have e2:qq jK (qY data::[qJ over],false)=(data,[qJ over],false):=qe (rfl);have e3:qq VL (qJ over::[],false)=(over,[],false):=qe (QN g7);show cP1 (qF 4) ([qK file,qY data,qJ over],false)=_
   rw [qBe,e1,e2,e3]
 . have q:typ=0:=p.2.1;subst q;have q:parent=iz:=p.2.2.1;subst q;have q:name=⟨#[]⟩:=p.2.2.2.1;subst q;have q:mode=0:=p.2.2.2.2.1;subst q;have q:data=⟨#[]⟩:=p.2.2.2.2.2.1;subst q;have q:over=[]:=p.2.2.2.2.2.2.2.2.2;subst q;have e1:qq zC (qK file::[qK after,qK before,zh lines],false)=(file,[qK after,qK before,zh lines],false):=qe (jN g3);have e2:qq zC (qK after::[qK before,zh lines],false)=(after,[qK before,zh lines],false):=qe (jN g5);have e3:qq zC (qK before::[zh lines],false)=(before,[zh lines],false):=qe (jN g6);have e4:qq lPx (zh lines::[],false)=(lines,[],false):=qe (qKD lines);show cP1 (qF 5) ([qK file,qK after,qK before,zh lines],false)=_
   rw [qBm,e1,e2,e3,e4]
 . have q:typ=0:=p.2.1;subst q;have q:parent=iz:=p.2.2.1;subst q;have q:name=⟨#[]⟩:=p.2.2.2.1;subst q;have q:mode=0:=p.2.2.2.2.1;subst q;have q:data=⟨#[]⟩:=p.2.2.2.2.2.1;subst q;have q:lines=[]:=p.2.2.2.2.2.2.2.2.1;subst q;have e1:qq zC (qK file::[qK after,qK before,qJ over],false)=(file,[qK after,qK before,qJ over],false):=qe (jN g3);have e2:qq zC (qK after::[qK before,qJ over],false)=(after,[qK before,qJ over],false):=qe (jN g5);have e3:qq zC (qK before::[qJ over],false)=(before,[qJ over],false):=qe (jN g6);have e4:qq VL (qJ over::[],false)=(over,[],false):=qe (QN g7);show cP1 (qF 6) ([qK file,qK after,qK before,qJ over],false)=_
   rw [qBO,e1,e2,e3,e4]
 . have q:file=iz:=p.1;subst q;have q:typ=0:=p.2.1;subst q;have q:parent=iz:=p.2.2.1;subst q;have q:name=⟨#[]⟩:=p.2.2.2.1;subst q;have q:mode=0:=p.2.2.2.2.1;subst q;have q:data=⟨#[]⟩:=p.2.2.2.2.2.1;subst q;have q:after=iz:=p.2.2.2.2.2.2.1;subst q;have q:before=iz:=p.2.2.2.2.2.2.2.1;subst q;have q:lines=[]:=p.2.2.2.2.2.2.2.2.1;subst q;have e1:qq VL (qJ over::[],false)=(over,[],false):=qe (QN g7);show cP1 (qF 7) ([qJ over],false)=_
   rw [qBM,e1]
theorem qKu {c:Chg} (hk:zR c) (ht:jw c=true) (hg:qzU c):ZU (yh c)=(c,false):=by
 rw [Zw] at ht;have p:=kd ht;obtain ⟨kind,file,typ,parent,name,mode,data,after,before,lines,over⟩:=c;obtain ⟨g1,g2,g3,g4,g5,g6,g7⟩:=hg;have hk1:(1:Int)<=kind/\kind<=7:=hk;have e0: ∀l,qq zq (qX kind::l,false)=(kind,l,false):=fun l=>qe (xJ ⟨by omega,by omega⟩)
 have:kind=1∨kind=2∨kind=3∨kind=4∨kind=5∨kind=6∨kind=7:=by omega
 show ((Js (qF (qq zq (qX kind::z8 kind.toNat _,false)).1) (qq zq (qX kind::z8 kind.toNat _,false)).2).1, !true||(Js (qF (qq zq (qX kind::z8 kind.toNat _,false)).1) (qq zq (qX kind::z8 kind.toNat _,false)).2).2)=_
 rw [e0];dsimp only;rcases this with rfl | rfl | rfl | rfl | rfl | rfl | rfl
 . have q:file=iz:=p.1;subst q;have q:parent=iz:=p.2.2.1;subst q;have q:name=⟨#[]⟩:=p.2.2.2.1;subst q;have q:mode=0:=p.2.2.2.2.1;subst q;have q:data=⟨#[]⟩:=p.2.2.2.2.2.1;subst q;have q:after=iz:=p.2.2.2.2.2.2.1;subst q;have q:before=iz:=p.2.2.2.2.2.2.2.1;subst q;have q:lines=[]:=p.2.2.2.2.2.2.2.2.1;subst q;have q:over=[]:=p.2.2.2.2.2.2.2.2.2;subst q;have e1:qq zq (qX typ::[],false)=(typ,[],false):=qe (xJ g1);show ((Js (qF 1) ([qX typ],false)).1, !true||(Js (qF 1) ([qX typ],false)).2)=_
   rw [qBr,e1];rfl
 . have q:typ=0:=p.2.1;subst q;have q:mode=0:=p.2.2.2.2.1;subst q;have q:data=⟨#[]⟩:=p.2.2.2.2.2.1;subst q;have q:after=iz:=p.2.2.2.2.2.2.1;subst q;have q:before=iz:=p.2.2.2.2.2.2.2.1;subst q;have q:lines=[]:=p.2.2.2.2.2.2.2.2.1;subst q;have e1:qq zt (qK file::[qK parent,qY name,qJ over],false)=(file,[qK parent,qY name,qJ over],false):=qe (jE g3);have e2:qq zt (qK parent::[qY name,qJ over],false)=(parent,[qY name,qJ over],false):=qe (jE g4);have e3:qq z7 (qY name::[qJ over],false)=(name,[qJ over],false):=qe (rfl);have e4:qq VA (qJ over::[],false)=(over,[],false):=qe (Qh g7);show ((Js (qF 2) ([qK file,qK parent,qY name,qJ over],false)).1, !true||(Js (qF 2) ([qK file,qK parent,qY name,qJ over],false)).2)=_
   rw [qAp,e1,e2,e3,e4];rfl
 . have q:typ=0:=p.2.1;subst q;have q:parent=iz:=p.2.2.1;subst q;have q:name=⟨#[]⟩:=p.2.2.2.1;subst q;have q:data=⟨#[]⟩:=p.2.2.2.2.2.1;subst q;have q:after=iz:=p.2.2.2.2.2.2.1;subst q;have q:before=iz:=p.2.2.2.2.2.2.2.1;subst q;have q:lines=[]:=p.2.2.2.2.2.2.2.2.1;subst q;have e1:qq zt (qK file::[qX mode,qJ over],false)=(file,[qX mode,qJ over],false):=qe (jE g3);have e2:qq zq (qX mode::[qJ over],false)=(mode,[qJ over],false):=qe (xJ g2);have e3:qq VA (qJ over::[],false)=(over,[],false):=qe (Qh g7);show ((Js (qF 3) ([qK file,qX mode,qJ over],false)).1, !true||(Js (qF 3) ([qK file,qX mode,qJ over],false)).2)=_
   rw [qBj,e1,e2,e3];rfl
 . have q:typ=0:=p.2.1;subst q;have q:parent=iz:=p.2.2.1;subst q;have q:name=⟨#[]⟩:=p.2.2.2.1;subst q;have q:mode=0:=p.2.2.2.2.1;subst q;have q:after=iz:=p.2.2.2.2.2.2.1;subst q;have q:before=iz:=p.2.2.2.2.2.2.2.1;subst q;have q:lines=[]:=p.2.2.2.2.2.2.2.2.1;subst q;have e1:qq zt (qK file::[qY data,qJ over],false)=(file,[qY data,qJ over],false):=qe (jE g3);have e2:qq z7 (qY data::[qJ over],false)=(data,[qJ over],false):=qe (rfl);have e3:qq VA (qJ over::[],false)=(over,[],false):=qe (Qh g7);show ((Js (qF 4) ([qK file,qY data,qJ over],false)).1, !true||(Js (qF 4) ([qK file,qY data,qJ over],false)).2)=_
   rw [qAS,e1,e2,e3];rfl
 . have q:typ=0:=p.2.1;subst q;have q:parent=iz:=p.2.2.1;subst q;have q:name=⟨#[]⟩:=p.2.2.2.1;subst q;have q:mode=0:=p.2.2.2.2.1;subst q;have q:data=⟨#[]⟩:=p.2.2.2.2.2.1;subst q;have q:over=[]:=p.2.2.2.2.2.2.2.2.2;subst q;have e1:qq zt (qK file::[qK after,qK before,zh lines],false)=(file,[qK after,qK before,zh lines],false):=qe (jE g3);have e2:qq zt (qK after::[qK before,zh lines],false)=(after,[qK before,zh lines],false):=qe (jE g5);have e3:qq zt (qK before::[zh lines],false)=(before,[zh lines],false):=qe (jE g6);have e4:qq lRx (zh lines::[],false)=(lines,[],false):=qe (qYq lines);show ((Js (qF 5) ([qK file,qK after,qK before,zh lines],false)).1, !true||(Js (qF 5) ([qK file,qK after,qK before,zh lines],false)).2)=_
   rw [qCW,e1,e2,e3,e4];rfl
 . have q:typ=0:=p.2.1;subst q;have q:parent=iz:=p.2.2.1;subst q;have q:name=⟨#[]⟩:=p.2.2.2.1;subst q;have q:mode=0:=p.2.2.2.2.1;subst q;have q:data=⟨#[]⟩:=p.2.2.2.2.2.1;subst q;have q:lines=[]:=p.2.2.2.2.2.2.2.2.1;subst q;have e1:qq zt (qK file::[qK after,qK before,qJ over],false)=(file,[qK after,qK before,qJ over],false):=qe (jE g3);have e2:qq zt (qK after::[qK before,qJ over],false)=(after,[qK before,qJ over],false):=qe (jE g5);have e3:qq zt (qK before::[qJ over],false)=(before,[qJ over],false):=qe (jE g6);have e4:qq VA (qJ over::[],false)=(over,[],false):=qe (Qh g7);show ((Js (qF 6) ([qK file,qK after,qK before,qJ over],false)).1, !true||(Js (qF 6) ([qK file,qK after,qK before,qJ over],false)).2)=_
   rw [qCz,e1,e2,e3,e4];rfl
 . have q:file=iz:=p.1;subst q;have q:typ=0:=p.2.1;subst q;have q:parent=iz:=p.2.2.1;subst q;have q:name=⟨#[]⟩:=p.2.2.2.1;subst q;have q:mode=0:=p.2.2.2.2.1;subst q;have q:data=⟨#[]⟩:=p.2.2.2.2.2.1;subst q;have q:after=iz:=p.2.2.2.2.2.2.1;subst q;have q:before=iz:=p.2.2.2.2.2.2.2.1;subst q;have q:lines=[]:=p.2.2.2.2.2.2.2.2.1;subst q;have e1:qq VA (qJ over::[],false)=(over,[],false):=qe (Qh g7);show ((Js (qF 7) ([qJ over],false)).1, !true||(Js (qF 7) ([qJ over],false)).2)=_
   rw [qCc,e1];rfl
theorem qY6 {a m:ByteArray} {t:Int} {ds:List Dig} {cs:List Chg} (ht:ZW t) (hd: ∀d∈ds,wf_dig d) (hc: ∀c∈cs,zR c/\jw c=true/\qzU c):xM (zN a m t (za ds) cs).list=⟨a,m,t,ds,cs,false⟩:=by
 obtain ⟨h1,h2⟩:=qkE (f:=Jh) (g:=fun d=>qY (vP d)) fun d h=>qwC (hd d h)
 have h3:=yr (f:=JX) (g:=yh) fun c h=>qas (hc c h).1 (hc c h).2.1 (hc c h).2.2
 have e0:qq jK ((zN a m t (za ds) cs).list,false)=(Zt,[qY a,qY m,qX t,qf (za ds),qf (cs.map yh)],false):=qe rfl;have e1:qq jK ([qY a,qY m,qX t,qf (za ds),qf (cs.map yh)],false)=(a,[qY m,qX t,qf (za ds),qf (cs.map yh)],false):=qe rfl;have e2:qq jK ([qY m,qX t,qf (za ds),qf (cs.map yh)],false)=(m,[qX t,qf (za ds),qf (cs.map yh)],false):=qe rfl;have e3:qq zq ([qX t,qf (za ds),qf (cs.map yh)],false)=(t,[qf (za ds),qf (cs.map yh)],false):=qe (xJ ht);have e4:qq zJ ([qf (za ds),qf (cs.map yh)],false)=(za ds,[qf (cs.map yh)],false):=qe rfl;have e5:qq zJ ([qf (cs.map yh)],false)=(cs.map yh,[],false):=qe rfl;unfold xM;simp only [e0,e1,e2,e3,e4,e5];unfold za;simp only [h1,h2,h3];rfl
theorem qYd {a m:ByteArray} {t:Int} {ds:List Dig} {cs:List Chg} (ht:ZW t) (hd: ∀d∈ds,wf_dig d) (hc: ∀c∈cs,zR c/\jw c=true/\qzU c):JV (zN a m t (za ds) cs).list=⟨a,m,t,ds,cs,false⟩:=by
 have h1:=yr (f:=Qo) (g:=fun d=>qY (vP d)) fun d h=>qvi (hd d h)
 have h3:=yr (f:=ZU) (g:=yh) fun c h=>qKu (hc c h).1 (hc c h).2.1 (hc c h).2.2
 have e0:qq z7 ((zN a m t (za ds) cs).list,false)=(Zt,[qY a,qY m,qX t,qf (za ds),qf (cs.map yh)],false):=qe rfl;have e1:qq z7 ([qY a,qY m,qX t,qf (za ds),qf (cs.map yh)],false)=(a,[qY m,qX t,qf (za ds),qf (cs.map yh)],false):=qe rfl;have e2:qq z7 ([qY m,qX t,qf (za ds),qf (cs.map yh)],false)=(m,[qX t,qf (za ds),qf (cs.map yh)],false):=qe rfl;have e3:qq zq ([qX t,qf (za ds),qf (cs.map yh)],false)=(t,[qf (za ds),qf (cs.map yh)],false):=qe (xJ ht);have e4:qq qN ([qf (za ds),qf (cs.map yh)],false)=(za ds,[qf (cs.map yh)],false):=qe rfl;have e5:qq qN ([qf (cs.map yh)],false)=(cs.map yh,[],false):=qe rfl;unfold JV;simp only [e0,e1,e2,e3,e4,e5];unfold za;simp only [h1,h3];rfl
def wfG (c:Chg):Prop:=wf_dig c.file.patch/\wf_dig c.parent.patch/\wf_dig c.after.patch/\wf_dig c.before.patch/\ ∀x∈c.over,wf_dig x.patch
theorem qgL {own:List Atm} {r:Rfn} (h:yY own r=0):ZW r.id.n:=by
 unfold yY at h;by_cases h1:r.id.n<0
 . rw [Jaa h1] at h;exact absurd h (show (7:Int)≠0 by decide)
 rw [Jab h1,Jaf] at h;by_cases h2:100000<=r.id.n
 . rw [Jaa h2] at h;cases e:(bif ZJ r.id then decide ((own.length:Int)<=r.id.n)else false)<;>rw [e] at h<;>exact absurd h (show (7:Int)≠0 by decide)
 . exact ⟨by omega,by omega⟩
theorem qbK {c:Chg} {own:List Atm} (h:yR c own=0): ∀r∈jY c,ZW r.id.n:=by
 unfold yR at h;by_cases z:errs ((jY c).map (yY own))=0
 . intro r hr;exact qgL (X9.1 z _ (Jch.2 ⟨r,hr,rfl⟩))
 . rw [Jab z] at h;exact absurd h z
theorem Yr {f:Chg->Int} {r:Chg->List Atm->Int}: ∀{cs:List Chg} {own:List Atm},(xC f r cs own).2=0-> ∀c∈cs, ∃own,r c own=0
 | [],_,_=>fun c hc=>by cases hc
 | c::l,own,h=>by
  rw [xC] at h;by_cases z:f c=0
  . rw [Jaa z,Jap,Jaf] at h;by_cases y:r c own=0
    . rw [Jaa y,Jap,Jaf] at h;intro d hd;rcases Jbf.1 hd with rfl | hd
      . exact ⟨own,y⟩
      . exact Yr h d hd
    . rw [Jab y] at h;exact absurd h y
  . rw [Jab z] at h;exact absurd h z
theorem Y2 {c:Chg} (h: ∀r∈Qx c,ZW r.id.n): ∀x∈c.over,ZW x.n:=fun x hx=>h _ (Jch.2 ⟨x,hx,rfl⟩)
theorem qc2 {c:Chg} (hk:zR c) (ht:jw c=true) (hw:wfG c) (h1:ZW c.typ) (h2:ZW c.mode) (hr: ∀r∈jY c,ZW r.id.n):qzU c:=by
 rw [Zw] at ht;have p:=kd ht;obtain ⟨kind,file,typ,parent,name,mode,data,after,before,lines,over⟩:=c;obtain ⟨w1,w2,w3,w4,w5⟩:=hw;have hk1:(1:Int)<=kind/\kind<=7:=hk;have:kind=1∨kind=2∨kind=3∨kind=4∨kind=5∨kind=6∨kind=7:=by omega
 rcases this with rfl | rfl | rfl | rfl | rfl | rfl | rfl
 . have q:file=iz:=p.1;subst q;have q:parent=iz:=p.2.2.1;subst q;have q:after=iz:=p.2.2.2.2.2.2.1;subst q;have q:before=iz:=p.2.2.2.2.2.2.2.1;subst q;have q:over=[]:=p.2.2.2.2.2.2.2.2.2;subst q;exact ⟨h1,h2,zm,zm,zm,zm,fun x hx=>by cases hx⟩
 . have q:after=iz:=p.2.2.2.2.2.2.1;subst q;have q:before=iz:=p.2.2.2.2.2.2.2.1;subst q;have hr: ∀r∈qQQ (⟨2,file,typ,parent,name,mode,data,iz,iz,lines,over⟩:Chg) (!(qr parent ⟨dz, -1⟩)) [⟨file,Fd.file⟩],ZW r.id.n:=hr;have hf:ZW file.n/\ZW parent.n/\ ∀r∈Qx (⟨2,file,typ,parent,name,mode,data,iz,iz,lines,over⟩:Chg),ZW r.id.n:=by
    cases e:qr parent ⟨dz, -1⟩
    . rw [e] at hr;have hr: ∀r∈[⟨file,Fd.file⟩]++[⟨parent,Fd.dir⟩]++Qx (⟨2,file,typ,parent,name,mode,data,iz,iz,lines,over⟩:Chg),ZW r.id.n:=hr;exact ⟨hr ⟨file,Fd.file⟩ (by simp),hr ⟨parent,Fd.dir⟩ (by simp),fun r h=>hr r (List.mem_append_right _ h)⟩
    . rw [e] at hr;have hr: ∀r∈[⟨file,Fd.file⟩]++Qx (⟨2,file,typ,parent,name,mode,data,iz,iz,lines,over⟩:Chg),ZW r.id.n:=hr;rw [v8] at e;have e:=Jac e;subst e;exact ⟨hr ⟨file,Fd.file⟩ (by simp),⟨by decide,by decide⟩,fun r h=>hr r (List.mem_append_right _ h)⟩
   exact ⟨h1,h2,⟨w1,hf.1⟩,⟨w2,hf.2.1⟩,zm,zm,fun x hx=>⟨w5 x hx,Y2 hf.2.2 x hx⟩⟩
 . have q:parent=iz:=p.2.2.1;subst q;have q:after=iz:=p.2.2.2.2.2.2.1;subst q;have q:before=iz:=p.2.2.2.2.2.2.2.1;subst q;have hr: ∀r∈[(⟨file,Fd.file⟩:Rfn)]++Qx (⟨3,file,typ,iz,name,mode,data,iz,iz,lines,over⟩:Chg),ZW r.id.n:=hr;exact ⟨h1,h2,⟨w1,hr ⟨file,Fd.file⟩ (by simp)⟩,zm,zm,zm,fun x hx=>⟨w5 x hx,Y2 (fun r h=>hr r (List.mem_append_right _ h)) x hx⟩⟩
 . have q:parent=iz:=p.2.2.1;subst q;have q:after=iz:=p.2.2.2.2.2.2.1;subst q;have q:before=iz:=p.2.2.2.2.2.2.2.1;subst q;have hr: ∀r∈[(⟨file,Fd.data⟩:Rfn)]++Qx (⟨4,file,typ,iz,name,mode,data,iz,iz,lines,over⟩:Chg),ZW r.id.n:=hr;exact ⟨h1,h2,⟨w1,hr ⟨file,Fd.data⟩ (by simp)⟩,zm,zm,zm,fun x hx=>⟨w5 x hx,Y2 (fun r h=>hr r (List.mem_append_right _ h)) x hx⟩⟩
 . have q:parent=iz:=p.2.2.1;subst q;have q:over=[]:=p.2.2.2.2.2.2.2.2.2;subst q;have hr: ∀r∈([(⟨file,Fd.txt⟩:Rfn)]++[⟨after,Fd.fin (⟨5,file,typ,iz,name,mode,data,after,before,lines,[]⟩:Chg)⟩])++[⟨before,Fd.fin (⟨5,file,typ,iz,name,mode,data,after,before,lines,[]⟩:Chg)⟩]++Qx (⟨5,file,typ,iz,name,mode,data,after,before,lines,[]⟩:Chg),ZW r.id.n:=hr;exact ⟨h1,h2,⟨w1,hr ⟨file,Fd.txt⟩ (by simp)⟩,zm,⟨w3,hr ⟨after,Fd.fin (⟨5,file,typ,iz,name,mode,data,after,before,lines,[]⟩:Chg)⟩ (by simp)⟩,⟨w4,hr ⟨before,Fd.fin (⟨5,file,typ,iz,name,mode,data,after,before,lines,[]⟩:Chg)⟩ (by simp)⟩,fun x hx=>by cases hx⟩
 . have q:parent=iz:=p.2.2.1;subst q;have hr: ∀r∈([(⟨file,Fd.txt⟩:Rfn)]++[⟨after,Fd.fin (⟨6,file,typ,iz,name,mode,data,after,before,lines,over⟩:Chg)⟩])++[⟨before,Fd.fin (⟨6,file,typ,iz,name,mode,data,after,before,lines,over⟩:Chg)⟩]++Qx (⟨6,file,typ,iz,name,mode,data,after,before,lines,over⟩:Chg),ZW r.id.n:=hr;exact ⟨h1,h2,⟨w1,hr ⟨file,Fd.txt⟩ (by simp)⟩,zm,⟨w3,hr ⟨after,Fd.fin (⟨6,file,typ,iz,name,mode,data,after,before,lines,over⟩:Chg)⟩ (by simp)⟩,⟨w4,hr ⟨before,Fd.fin (⟨6,file,typ,iz,name,mode,data,after,before,lines,over⟩:Chg)⟩ (by simp)⟩,fun x hx=>⟨w5 x hx,Y2 (fun r h=>hr r (List.mem_append_right _ h)) x hx⟩⟩
 . have q:file=iz:=p.1;subst q;have q:parent=iz:=p.2.2.1;subst q;have q:after=iz:=p.2.2.2.2.2.2.1;subst q;have q:before=iz:=p.2.2.2.2.2.2.2.1;subst q;have hr: ∀r∈[]++Qx (⟨7,iz,typ,iz,name,mode,data,iz,iz,lines,over⟩:Chg),ZW r.id.n:=hr;exact ⟨h1,h2,zm,zm,zm,zm,fun x hx=>⟨w5 x hx,Y2 (fun r h=>hr r (List.mem_append_right _ h)) x hx⟩⟩
theorem qWK {c:Chg} (hk:zR c) (h:jw c=true) (h1:c.kind≠1):c.typ=0:=by
 rw [Zw] at h;have p:=kd h;obtain ⟨kind,file,typ,parent,name,mode,data,after,before,lines,over⟩:=c;have hk1:(1:Int)<=kind/\kind<=7:=hk;have:kind=1∨kind=2∨kind=3∨kind=4∨kind=5∨kind=6∨kind=7:=by omega
 rcases this with rfl | rfl | rfl | rfl | rfl | rfl | rfl
 . exact absurd rfl h1
 all_goals exact p.2.1
theorem qvD {c:Chg} (h:zD c=0):ZW c.typ/\ZW c.mode:=by
 have hk:=jx h;have ht:=vN h;have hty:ZW c.typ:=by
  unfold zD qvw at h;cases ek:(bif decide (c.kind<1)then true else decide (7<c.kind))
  rotate_left
  . rw [ek] at h;cases h
  rw [ek,Jaf,ht,Jap,Jaf] at h;unfold fP9 at h;by_cases k1:c.kind=1
  . rw [Jaa k1,Jae] at h;by_cases h1:c.typ<1
    . rw [Jaa h1] at h;cases h
    rw [Jab h1,Jaf] at h;by_cases h2:4<c.typ
    . rw [Jaa h2] at h;cases h
    . exact ⟨by omega,by omega⟩
  . have:=qWK hk ht k1;rw [this];exact ⟨by decide,by decide⟩
 refine ⟨hty, ?_⟩;unfold zD qvw at h;cases ek:(bif decide (c.kind<1)then true else decide (7<c.kind))
 rotate_left
 . rw [ek] at h;cases h
 rw [ek,Jaf,ht,Jap,Jaf] at h;unfold fP9 at h;cases e1:(bif decide (c.kind=1)then (bif decide (c.typ<1)then true else decide (4<c.typ))else false)
 rotate_left
 . rw [e1] at h;cases h
 rw [e1,Jaf] at h;unfold fP8 at h;cases e2:(bif decide (c.kind=2)then !(xZ c.name)else false)
 rotate_left
 . rw [e2] at h;cases h
 rw [e2,Jaf] at h;unfold fP7 at h;by_cases h1:c.mode<0
 . rw [Jaa h1] at h;cases h
 rw [Jab h1,Jaf] at h;by_cases h2:511<c.mode
 . rw [Jaa h2] at h;cases h
 . exact ⟨by omega,by omega⟩
theorem qq4 {a m:ByteArray} {t:Int} {ds:List Dig} {cs:List Chg} (h:jW jc a m t ds cs=0):ZW t:=by
 unfold jW at h;cases c1:xZ a
 . rw [c1] at h;cases h
 rw [c1,Jap,Jaf] at h;cases c2:decide (1000< (m.size:Int));rotate_left
 . rw [c2] at h;cases h
 rw [c2,Jaf] at h;by_cases h1:t<0
 . rw [Jaa h1] at h;cases h
 rw [Jab h1,Jaf] at h;by_cases h2:1099511627776<t
 . rw [Jaa h2] at h;cases h
 . exact ⟨by omega,by omega⟩
theorem qkX {a m:ByteArray} {t:Int} {ds:List Dig} {cs:List Chg} (hd: ∀d∈ds,wf_dig d) (hw: ∀c∈cs,wfG c) (h:(j7 a m t ds cs).2.2=0):
  xM (zN a m t (za ds) cs).list=⟨a,m,t,ds,cs,false⟩/\JV (zN a m t (za ds) cs).list=⟨a,m,t,ds,cs,false⟩:=by
 obtain ⟨h1,h2, -, -⟩:=qxf h;have hc: ∀c∈cs,zR c/\jw c=true/\qzU c:=fun c hc=>by
  have z:=YC h2 c hc;obtain ⟨own,y⟩:=Yr h2 c hc;have hk:=jx z;have ht:=vN z;obtain ⟨n1,n2⟩:=qvD z;exact ⟨hk,ht,qc2 hk ht (hw c hc) n1 n2 (qbK y)⟩
 exact ⟨qY6 (qq4 h1) hd hc,qYd (qq4 h1) hd hc⟩
end
section
open Go.RowKit
attribute [local irreducible] zb qa
set_option maxRecDepth 100000
abbrev S99:List Sh:=[.pt 0 0]
abbrev L99:List Lf:=[.sl .sexp,.bool]
abbrev O99:List ObSh:=[.cells [.leaf,.leaf]]
def F99 (g:prodL L99) (K:Kn):Prop:=
 bif decide ((g.1.length:Int)=0)then (
  K (.ag [.bool false,.str (⟨#[]⟩:ByteArray),.nil]) [some (.cells [.sl false .sexp g.1,.bool true])])
 else (
  At g.1 0 fun a=>
 (0:Int)<=1/\1<=(g.1.length:Int)/\
 K (.ag [.bool a.isList,.str a.atom,.sl false .sexp a.list]) [some (.cells [.sl false .sexp (g.1.drop ((1:Int).toNat)),.bool g.2.1])])
theorem qos (g:prodL L99) (K X:Kn) (h:F99 g K):FCalls Tryz.prog 99 (argsT S99 L99 g) (qi S99 O99 L99 g) K X 0:=
 FCalls.settleD (qw Tryz.func99 Tryz.ntmps99 Tryz.results99 qj qz [] [] (by kernel_rfl) (by kernel_rfl) h)
abbrev qoS:List Sh:=[.pt 0 0]
abbrev qJ1:List Lf:=[.sl .sexp,.bool]
abbrev qua:List ObSh:=[.cells [.leaf,.leaf]]
def qr7 (g:prodL qJ1) (K:Kn):Prop:=
 bif decide ((g.1.length:Int)=0)then (
  K (.ag [.bool false,.str (⟨#[]⟩:ByteArray),.nil]) [some (.cells [.sl false .sexp g.1,.bool true])])
 else (
  At g.1 0 fun a=>
 (0:Int)<=1/\1<=(g.1.length:Int)/\
 K (.ag [.bool a.isList,.str a.atom,.sl false .sexp a.list]) [some (.cells [.sl false .sexp (g.1.drop ((1:Int).toNat)),.bool g.2.1])])
theorem qeN (g:prodL qJ1) (K X:Kn) (h:qr7 g K):FCalls Tryz.prog 104 (argsT qoS qJ1 g) (qi qoS qua qJ1 g) K X 0:=
 FCalls.settleD (qw Tryz.func104 Tryz.ntmps104 Tryz.results104 qj qz [] [] (by kernel_rfl) (by kernel_rfl) h)
end
section
open Go.RowKit
set_option maxRecDepth 100000
def qZq (_:prodL L99):Prop:=True
def qAq:Raw:=⟨S99,O99,L99,0,fun g K _=>qZq g/\K (.ag (enc .sexp (zz g.1))) [some (.cells [.sl false .sexp (xT (g.1,g.2.1)).1,.bool (xT (g.1,g.2.1)).2])]⟩
theorem qjF:qAq.Ok Tryz.prog 99:=fun g K X h=>FCalls.weak (qos g (zI K) X (by
 obtain ⟨l,b,⟨⟩⟩:=g;obtain ⟨-,h⟩:=h;unfold F99;cases l with
 | nil=>exact qcp h
 | cons x l=>
  show bif decide ((((x::l).length:Nat):Int)=0)then _ else _
  rw [Jab (by rw [Jaj];omega),Jaf]
  exact ⟨Int.le_refl 0,x,rfl,by decide,by show (1:Int)<=(((x::l).length:Nat):Int);rw [Jaj];omega,wkX h⟩))
def qjM (_:prodL qJ1):Prop:=True
def qsS:Raw:=⟨qoS,qua,qJ1,0,fun g K _=>qjM g/\K (.ag (enc .sexp (zz g.1))) [some (.cells [.sl false .sexp (xT (g.1,g.2.1)).1,.bool (xT (g.1,g.2.1)).2])]⟩
theorem WS:qsS.Ok Tryz.prog 104:=fun g K X h=>FCalls.weak (qeN g (zI K) X (by
 obtain ⟨l,b,⟨⟩⟩:=g;obtain ⟨-,h⟩:=h;unfold qr7;cases l with
 | nil=>exact qcp h
 | cons x l=>
  show bif decide ((((x::l).length:Nat):Int)=0)then _ else _
  rw [Jab (by rw [Jaj];omega),Jaf]
  exact ⟨Int.le_refl 0,x,rfl,by decide,by show (1:Int)<=(((x::l).length:Nat):Int);rw [Jaj];omega,wkX h⟩))
end
section
open Go.RowKit
attribute [local irreducible] zb qa
set_option maxRecDepth 100000
abbrev S51:List Sh:=[.pt 0 0]
abbrev L51:List Lf:=[.sl .sexp,.bool]
abbrev O51:List ObSh:=[.cells [.leaf,.leaf]]
def F51 (g:prodL L51) (K:Kn):Prop:=
 qZq (g.1,g.2.1,())/\
 K (.str ((zz g.1).atom)) [some (.cells [.sl false .sexp ((xT (g.1,g.2.1)).1),.bool ((xT (g.1,g.2.1)).2)])]
theorem ql6 (g:prodL L51) (K X:Kn) (h:F51 g K):FCalls Tryz.prog 51 (argsT S51 L51 g) (qi S51 O51 L51 g) K X 0:=
 FCalls.settleD (qw Tryz.func51 Tryz.ntmps51 Tryz.results51 (qd qjF qj) qz [] [] (by kernel_rfl) (by kernel_rfl) h)
def J52:List (Nat×Hint):=[(3,⟨[],[(3,.leaf)],[.cells [.leaf,.leaf]],[.int .i64,.sl .sexp,.bool]⟩)]
abbrev S52:List Sh:=[.pt 0 0]
abbrev L52:List Lf:=[.sl .sexp,.bool]
abbrev O52:List ObSh:=[.cells [.leaf,.leaf]]
def qyu (K:Kn) (a:Int) (b:List Sx) (c:Bool):Prop:=
 K (.int .i64 a) [some (.cells [.sl false .sexp b,.bool c])]
def F52 (g:prodL L52) (K:Kn):Prop:=
 qZq (g.1,g.2.1,())/\
 qi8.pre ((zz g.1).isList,(zz g.1).atom,(zz g.1).list,())/\
 bif (xT (g.1,g.2.1)).2 then (
  qyu K ((nmG ⟨((zz g.1).isList),((zz g.1).atom),((zz g.1).list)⟩).1) ((xT (g.1,g.2.1)).1) true)
 else (
  qyu K ((nmG ⟨((zz g.1).isList),((zz g.1).atom),((zz g.1).list)⟩).1) ((xT (g.1,g.2.1)).1) (!decide ((nmG ⟨((zz g.1).isList),((zz g.1).atom),((zz g.1).list)⟩).2=0)))
theorem qnK (g:prodL L52) (K X:Kn) (h:F52 g K):FCalls Tryz.prog 52 (argsT S52 L52 g) (qi S52 O52 L52 g) K X 0:=
 FCalls.settleD (qw Tryz.func52 Tryz.ntmps52 Tryz.results52 (qd qjF qj) (qx qVZ qz) [] J52 (by kernel_rfl) (by kernel_rfl) h)
abbrev S53:List Sh:=[.pt 0 0]
abbrev L53:List Lf:=[.sl .sexp,.bool]
abbrev O53:List ObSh:=[.cells [.leaf,.leaf]]
def F53 (g:prodL L53) (K:Kn):Prop:=
 qZq (g.1,g.2.1,())/\
 K (.sl false .sexp ((zz g.1).list)) [some (.cells [.sl false .sexp ((xT (g.1,g.2.1)).1),.bool ((xT (g.1,g.2.1)).2)])]
theorem qnp (g:prodL L53) (K X:Kn) (h:F53 g K):FCalls Tryz.prog 53 (argsT S53 L53 g) (qi S53 O53 L53 g) K X 0:=
 FCalls.settleD (qw Tryz.func53 Tryz.ntmps53 Tryz.results53 (qd qjF qj) qz [] [] (by kernel_rfl) (by kernel_rfl) h)
def J57:List (Nat×Hint):=[(3,⟨[((3,[]),none)],[(3,.pt 1 0)],[.cells [.leaf,.leaf],.cells [.leaf,.leaf,.leaf]],[.sl .sexp,.bool,.bool,.str,.sl .sexp]⟩)]
abbrev S57:List Sh:=[.pt 0 0]
abbrev L57:List Lf:=[.sl .sexp,.bool]
abbrev O57:List ObSh:=[.cells [.leaf,.leaf]]
def qk4 (K:Kn) (a:List Sx) (b d:Bool) (c:ByteArray) (e:List Sx):Prop:=
 K (.str c) [some (.cells [.sl false .sexp a,.bool b])]
def F57 (g:prodL L57) (K:Kn):Prop:=
 qjM (g.1,g.2.1,())/\
 bif (xT (g.1,g.2.1)).2 then (
  qk4 K ((xT (g.1,g.2.1)).1) true ((zz g.1).isList) ((zz g.1).atom) ((zz g.1).list))
 else (
  qk4 K ((xT (g.1,g.2.1)).1) ((zz g.1).isList) ((zz g.1).isList) ((zz g.1).atom) ((zz g.1).list))
theorem qlZ (g:prodL L57) (K X:Kn) (h:F57 g K):FCalls Tryz.prog 57 (argsT S57 L57 g) (qi S57 O57 L57 g) K X 0:=
 FCalls.settleD (qw Tryz.func57 Tryz.ntmps57 Tryz.results57 (qd WS qj) qz [] J57 (by kernel_rfl) (by kernel_rfl) h)
def J58:List (Nat×Hint):=[(3,⟨[],[(3,.leaf)],[.cells [.leaf,.leaf]],[.int .i64,.sl .sexp,.bool]⟩)]
abbrev S58:List Sh:=[.pt 0 0]
abbrev L58:List Lf:=[.sl .sexp,.bool]
abbrev O58:List ObSh:=[.cells [.leaf,.leaf]]
def qys (K:Kn) (a:Int) (b:List Sx) (c:Bool):Prop:=
 K (.int .i64 a) [some (.cells [.sl false .sexp b,.bool c])]
def F58 (g:prodL L58) (K:Kn):Prop:=
 qjM (g.1,g.2.1,())/\
 qiy.pre ((zz g.1).isList,(zz g.1).atom,(zz g.1).list,())/\
 bif (xT (g.1,g.2.1)).2 then (
  qys K ((nmN ⟨((zz g.1).isList),((zz g.1).atom),((zz g.1).list)⟩).1) ((xT (g.1,g.2.1)).1) true)
 else (
  qys K ((nmN ⟨((zz g.1).isList),((zz g.1).atom),((zz g.1).list)⟩).1) ((xT (g.1,g.2.1)).1) (!decide ((nmN ⟨((zz g.1).isList),((zz g.1).atom),((zz g.1).list)⟩).2=0)))
theorem qlJ (g:prodL L58) (K X:Kn) (h:F58 g K):FCalls Tryz.prog 58 (argsT S58 L58 g) (qi S58 O58 L58 g) K X 0:=
 FCalls.settleD (qw Tryz.func58 Tryz.ntmps58 Tryz.results58 (qd WS qj) (qx qVs qz) [] J58 (by kernel_rfl) (by kernel_rfl) h)
def J59:List (Nat×Hint):=[(3,⟨[((3,[]),none)],[(3,.pt 1 0)],[.cells [.leaf,.leaf],.cells [.leaf,.leaf,.leaf]],[.sl .sexp,.bool,.bool,.str,.sl .sexp]⟩)]
abbrev S59:List Sh:=[.pt 0 0]
abbrev L59:List Lf:=[.sl .sexp,.bool]
abbrev O59:List ObSh:=[.cells [.leaf,.leaf]]
def qky (K:Kn) (a:List Sx) (b d:Bool) (e:ByteArray) (c:List Sx):Prop:=
 K (.sl false .sexp c) [some (.cells [.sl false .sexp a,.bool b])]
def F59 (g:prodL L59) (K:Kn):Prop:=
 qjM (g.1,g.2.1,())/\
 bif (xT (g.1,g.2.1)).2 then (
  qky K ((xT (g.1,g.2.1)).1) true ((zz g.1).isList) ((zz g.1).atom) ((zz g.1).list))
 else (
  qky K ((xT (g.1,g.2.1)).1) (!((zz g.1).isList)) ((zz g.1).isList) ((zz g.1).atom) ((zz g.1).list))
theorem qon (g:prodL L59) (K X:Kn) (h:F59 g K):FCalls Tryz.prog 59 (argsT S59 L59 g) (qi S59 O59 L59 g) K X 0:=
 FCalls.settleD (qw Tryz.func59 Tryz.ntmps59 Tryz.results59 (qd WS qj) qz [] J59 (by kernel_rfl) (by kernel_rfl) h)
end
section
open Go.RowKit
set_option maxRecDepth 100000
def qqQ (g:prodL L51):Prop:=True
def qCo:Raw:=⟨S51,O51,L51,0,fun g K _=>qqQ g/\K (.str (qq jK (g.1,g.2.1)).1) [some (.cells [.sl false .sexp (qq jK (g.1,g.2.1)).2.1,.bool (qq jK (g.1,g.2.1)).2.2])]⟩
theorem qjh:qCo.Ok Tryz.prog 51:=fun g K X h=>ql6 g K X (by
 have h:=h.2;rw [xr fun _=>rfl] at h
 exact ⟨trivial,h⟩)
def qqn (g:prodL L53):Prop:=True
def qAD:Raw:=⟨S53,O53,L53,0,fun g K _=>qqn g/\K (.sl false .sexp (qq zJ (g.1,g.2.1)).1) [some (.cells [.sl false .sexp (qq zJ (g.1,g.2.1)).2.1,.bool (qq zJ (g.1,g.2.1)).2.2])]⟩
theorem Wq:qAD.Ok Tryz.prog 53:=fun g K X h=>qnp g K X (by
 have h:=h.2;rw [xr fun _=>rfl] at h
 exact ⟨trivial,h⟩)
def VS (g:prodL L57):Prop:=True
def qBV:Raw:=⟨S57,O57,L57,0,fun g K _=>VS g/\K (.str (qq z7 (g.1,g.2.1)).1) [some (.cells [.sl false .sexp (qq z7 (g.1,g.2.1)).2.1,.bool (qq z7 (g.1,g.2.1)).2.2])]⟩
theorem WK:qBV.Ok Tryz.prog 57:=fun g K X h=>qlZ g K X ⟨trivial,qjY (J:=fun b=>qk4 K _ b _ _ _) h.2⟩
def KM (g:prodL L59):Prop:=True
def qBd:Raw:=⟨S59,O59,L59,0,fun g K _=>KM g/\K (.sl false .sexp (qq qN (g.1,g.2.1)).1) [some (.cells [.sl false .sexp (qq qN (g.1,g.2.1)).2.1,.bool (qq qN (g.1,g.2.1)).2.2])]⟩
theorem Ju:qBd.Ok Tryz.prog 59:=fun g K X h=>qon g K X ⟨trivial,qjY (J:=fun b=>qky K _ b _ _ _) h.2⟩
def qza (g:prodL L52):Prop:=qV g.1<=zV
def qAm:Raw:=⟨S52,O52,L52,0,fun g K _=>qza g/\K (.int .i64 (qq zq (g.1,g.2.1)).1) [some (.cells [.sl false .sexp (qq zq (g.1,g.2.1)).2.1,.bool (qq zq (g.1,g.2.1)).2.2])]⟩
theorem qjP:qAm.Ok Tryz.prog 52:=fun g K X h=>qnK g K X (by
 refine ⟨trivial,by show jv ⟨(zz g.1).isList,(zz g.1).atom,(zz g.1).list⟩<=zV;rw [zr];exact qaf h.1, ?_⟩
 simp only [zr];exact qjY (J:=fun b=>qyu K _ _ b) h.2)
def qzM (g:prodL L58):Prop:=qV g.1<=zV
def qAB:Raw:=⟨S58,O58,L58,0,fun g K _=>qzM g/\K (.int .i64 (qq zq (g.1,g.2.1)).1) [some (.cells [.sl false .sexp (qq zq (g.1,g.2.1)).2.1,.bool (qq zq (g.1,g.2.1)).2.2])]⟩
theorem qxZ:qAB.Ok Tryz.prog 58:=fun g K X h=>qlJ g K X (by
 refine ⟨trivial,by show jv ⟨(zz g.1).isList,(zz g.1).atom,(zz g.1).list⟩<=zV;rw [zr];exact qaf h.1, ?_⟩
 simp only [zr, <- quR];exact qjY (J:=fun b=>qys K _ _ b) h.2)
end
section
open Go.RowKit
attribute [local irreducible] zb qa
set_option maxRecDepth 100000
def J54:List (Nat×Hint):=[(4,⟨[((2,[]),none),((3,[]),none)],[(2,.pt 1 0),(3,.pt 2 0),(4,.leaf)],[.cells [.leaf,.leaf],.el,.el],[.str,.sl .sexp,.bool,.el .dig,.el .dig]⟩)]
abbrev S54:List Sh:=[.pt 0 0]
abbrev L54:List Lf:=[.sl .sexp,.bool]
abbrev O54:List ObSh:=[.cells [.leaf,.leaf]]
def qjX (K:Kn) (a:ByteArray) (c:List Sx) (d:Bool) (e b:Dig):Prop:=
 K (.ag (enc .dig (⟨qL a 0 b.b0,qL a 1 b.b1,qL a 2 b.b2,qL a 3 b.b3,qL a 4 b.b4,qL a 5 b.b5,qL a 6 b.b6,qL a 7 b.b7,qL a 8 b.b8,qL a 9 b.b9,qL a 10 b.b10,qL a 11 b.b11,qL a 12 b.b12,qL a 13 b.b13,qL a 14 b.b14,qL a 15 b.b15,qL a 16 b.b16,qL a 17 b.b17,qL a 18 b.b18,qL a 19 b.b19,qL a 20 b.b20,qL a 21 b.b21,qL a 22 b.b22,qL a 23 b.b23,qL a 24 b.b24,qL a 25 b.b25,qL a 26 b.b26,qL a 27 b.b27,qL a 28 b.b28,qL a 29 b.b29,qL a 30 b.b30,qL a 31 b.b31⟩:Dig))) [some (.cells [.sl false .sexp c,.bool d])]
def F54 (g:prodL L54) (K:Kn):Prop:=
 qqQ (g.1,g.2.1,())/\
 bif (qq jK (g.1,g.2.1)).2.2 then (
  qjX K ((qq jK (g.1,g.2.1)).1) ((qq jK (g.1,g.2.1)).2.1) true dz dz)
 else (
  bif !decide ((qq jK (g.1,g.2.1)).1=(⟨#[]⟩:ByteArray))then (
   qjX K ((qq jK (g.1,g.2.1)).1) ((qq jK (g.1,g.2.1)).2.1) (!decide ((((qq jK (g.1,g.2.1)).1).size:Int)=32)) dz dz)
  else (
   qjX K ((qq jK (g.1,g.2.1)).1) ((qq jK (g.1,g.2.1)).2.1) false dz dz))
theorem qoQ (g:prodL L54) (K X:Kn) (h:F54 g K):FCalls Tryz.prog 54 (argsT S54 L54 g) (qi S54 O54 L54 g) K X 0:=
 FCalls.settleD (qw Tryz.func54 Tryz.ntmps54 Tryz.results54 (qd qjh qj) qz [] J54 (by kernel_rfl) (by kernel_rfl) h)
def H60:List (Nat×Hint):=[(7,⟨[],[],[],[]⟩),(33000007,⟨[],[],[],[]⟩)]
def J60:List (Nat×Hint):=[(4,⟨[((2,[]),none),((4,[]),none)],[(0,.pt 0 0),(2,.pt 1 0),(3,.leaf),(4,.pt 2 0),(15,.leaf)],[.cells [.leaf,.leaf],.el,.el],[.str,.bool,.sl .sexp,.bool,.el .dig,.el .dig]⟩),(10,⟨[((2,[]),none),((4,[]),none)],[(2,.pt 1 0),(4,.pt 2 0)],[.cells [.leaf,.leaf],.el,.el],[.sl .sexp,.bool,.el .dig,.el .dig]⟩)]
abbrev S60:List Sh:=[.pt 0 0]
abbrev L60:List Lf:=[.sl .sexp,.bool]
abbrev O60:List ObSh:=[.cells [.leaf,.leaf]]
def qG (K:Kn) (a:List Sx) (b:Bool) (d c:Dig):Prop:=
 K (.ag (enc .dig c)) [some (.cells [.sl false .sexp a,.bool b])]
def XI (K:Kn) (b:ByteArray) (R:Bool) (c:List Sx) (d:Bool) (e a:Dig):Prop:=
 bif R then (
  K (.ag (enc .dig a)) [some (.cells [.sl false .sexp c,.bool true])])
 else (
  bif decide ((0:Int) < (b.size:Int))then (
  qs b 0 fun f=>
 0<=(0:Int)/\(0:Int).toNat<32/\
 bif decide ((1:Int) < (b.size:Int))then (
  qs b 1 fun g=>
 0<=(1:Int)/\(1:Int).toNat<32/\
 bif decide ((2:Int) < (b.size:Int))then (
  qs b 2 fun h=>
 0<=(2:Int)/\(2:Int).toNat<32/\
 bif decide ((3:Int) < (b.size:Int))then (
  qs b 3 fun i=>
 0<=(3:Int)/\(3:Int).toNat<32/\
 bif decide ((4:Int) < (b.size:Int))then (
  qs b 4 fun j=>
 0<=(4:Int)/\(4:Int).toNat<32/\
 bif decide ((5:Int) < (b.size:Int))then (
  qs b 5 fun l=>
 0<=(5:Int)/\(5:Int).toNat<32/\
 bif decide ((6:Int) < (b.size:Int))then (
  qs b 6 fun m=>
 0<=(6:Int)/\(6:Int).toNat<32/\
 bif decide ((7:Int) < (b.size:Int))then (
  qs b 7 fun n=>
 0<=(7:Int)/\(7:Int).toNat<32/\
 bif decide ((8:Int) < (b.size:Int))then (
  qs b 8 fun o=>
 0<=(8:Int)/\(8:Int).toNat<32/\
 bif decide ((9:Int) < (b.size:Int))then (
  qs b 9 fun p=>
 0<=(9:Int)/\(9:Int).toNat<32/\
 bif decide ((10:Int) < (b.size:Int))then (
  qs b 10 fun q=>
 0<=(10:Int)/\(10:Int).toNat<32/\
 bif decide ((11:Int) < (b.size:Int))then (
  qs b 11 fun r=>
 0<=(11:Int)/\(11:Int).toNat<32/\
 bif decide ((12:Int) < (b.size:Int))then (
  qs b 12 fun s=>
 0<=(12:Int)/\(12:Int).toNat<32/\
 bif decide ((13:Int) < (b.size:Int))then (
  qs b 13 fun t=>
 0<=(13:Int)/\(13:Int).toNat<32/\
 bif decide ((14:Int) < (b.size:Int))then (
  qs b 14 fun u=>
 0<=(14:Int)/\(14:Int).toNat<32/\
 bif decide ((15:Int) < (b.size:Int))then (
  qs b 15 fun v=>
 0<=(15:Int)/\(15:Int).toNat<32/\
 bif decide ((16:Int) < (b.size:Int))then (
  qs b 16 fun w=>
 0<=(16:Int)/\(16:Int).toNat<32/\
 bif decide ((17:Int) < (b.size:Int))then (
  qs b 17 fun x=>
 0<=(17:Int)/\(17:Int).toNat<32/\
 bif decide ((18:Int) < (b.size:Int))then (
  qs b 18 fun y=>
 0<=(18:Int)/\(18:Int).toNat<32/\
 bif decide ((19:Int) < (b.size:Int))then (
  qs b 19 fun z=>
 0<=(19:Int)/\(19:Int).toNat<32/\
 bif decide ((20:Int) < (b.size:Int))then (
  qs b 20 fun A=>
 0<=(20:Int)/\(20:Int).toNat<32/\
 bif decide ((21:Int) < (b.size:Int))then (
  qs b 21 fun B=>
 0<=(21:Int)/\(21:Int).toNat<32/\
 bif decide ((22:Int) < (b.size:Int))then (
  qs b 22 fun C=>
 0<=(22:Int)/\(22:Int).toNat<32/\
 bif decide ((23:Int) < (b.size:Int))then (
  qs b 23 fun E=>
 0<=(23:Int)/\(23:Int).toNat<32/\
 bif decide ((24:Int) < (b.size:Int))then (
  qs b 24 fun F=>
 0<=(24:Int)/\(24:Int).toNat<32/\
 bif decide ((25:Int) < (b.size:Int))then (
  qs b 25 fun G=>
 0<=(25:Int)/\(25:Int).toNat<32/\
 bif decide ((26:Int) < (b.size:Int))then (
  qs b 26 fun H=>
 0<=(26:Int)/\(26:Int).toNat<32/\
 bif decide ((27:Int) < (b.size:Int))then (
  qs b 27 fun I=>
 0<=(27:Int)/\(27:Int).toNat<32/\
 bif decide ((28:Int) < (b.size:Int))then (
  qs b 28 fun M=>
 0<=(28:Int)/\(28:Int).toNat<32/\
 bif decide ((29:Int) < (b.size:Int))then (
  qs b 29 fun N=>
 0<=(29:Int)/\(29:Int).toNat<32/\
 bif decide ((30:Int) < (b.size:Int))then (
  qs b 30 fun Q=>
 0<=(30:Int)/\(30:Int).toNat<32/\
 bif decide ((31:Int) < (b.size:Int))then (
  qs b 31 fun U=>
 0<=(31:Int)/\(31:Int).toNat<32/\
 bif decide ((32:Int) < (b.size:Int))then (
  qs b 32 fun V=>
 0<=(32:Int)/\(32:Int).toNat<32/\
 False)
 else (
  qG K c d e (⟨f,g,h,i,j,l,m,n,o,p,q,r,s,t,u,v,w,x,y,z,A,B,C,E,F,G,H,I,M,N,Q,U⟩:Dig)))
 else (
  qG K c d e (⟨f,g,h,i,j,l,m,n,o,p,q,r,s,t,u,v,w,x,y,z,A,B,C,E,F,G,H,I,M,N,Q,a.b31⟩:Dig)))
 else (
  qG K c d e (⟨f,g,h,i,j,l,m,n,o,p,q,r,s,t,u,v,w,x,y,z,A,B,C,E,F,G,H,I,M,N,a.b30,a.b31⟩:Dig)))
 else (
  qG K c d e (⟨f,g,h,i,j,l,m,n,o,p,q,r,s,t,u,v,w,x,y,z,A,B,C,E,F,G,H,I,M,a.b29,a.b30,a.b31⟩:Dig)))
 else (
  qG K c d e (⟨f,g,h,i,j,l,m,n,o,p,q,r,s,t,u,v,w,x,y,z,A,B,C,E,F,G,H,I,a.b28,a.b29,a.b30,a.b31⟩:Dig)))
 else (
  qG K c d e (⟨f,g,h,i,j,l,m,n,o,p,q,r,s,t,u,v,w,x,y,z,A,B,C,E,F,G,H,a.b27,a.b28,a.b29,a.b30,a.b31⟩:Dig)))
 else (
  qG K c d e (⟨f,g,h,i,j,l,m,n,o,p,q,r,s,t,u,v,w,x,y,z,A,B,C,E,F,G,a.b26,a.b27,a.b28,a.b29,a.b30,a.b31⟩:Dig)))
 else (
  qG K c d e (⟨f,g,h,i,j,l,m,n,o,p,q,r,s,t,u,v,w,x,y,z,A,B,C,E,F,a.b25,a.b26,a.b27,a.b28,a.b29,a.b30,a.b31⟩:Dig)))
 else (
  qG K c d e (⟨f,g,h,i,j,l,m,n,o,p,q,r,s,t,u,v,w,x,y,z,A,B,C,E,a.b24,a.b25,a.b26,a.b27,a.b28,a.b29,a.b30,a.b31⟩:Dig)))
 else (
  qG K c d e (⟨f,g,h,i,j,l,m,n,o,p,q,r,s,t,u,v,w,x,y,z,A,B,C,a.b23,a.b24,a.b25,a.b26,a.b27,a.b28,a.b29,a.b30,a.b31⟩:Dig)))
 else (
  qG K c d e (⟨f,g,h,i,j,l,m,n,o,p,q,r,s,t,u,v,w,x,y,z,A,B,a.b22,a.b23,a.b24,a.b25,a.b26,a.b27,a.b28,a.b29,a.b30,a.b31⟩:Dig)))
 else (
  qG K c d e (⟨f,g,h,i,j,l,m,n,o,p,q,r,s,t,u,v,w,x,y,z,A,a.b21,a.b22,a.b23,a.b24,a.b25,a.b26,a.b27,a.b28,a.b29,a.b30,a.b31⟩:Dig)))
 else (
  qG K c d e (⟨f,g,h,i,j,l,m,n,o,p,q,r,s,t,u,v,w,x,y,z,a.b20,a.b21,a.b22,a.b23,a.b24,a.b25,a.b26,a.b27,a.b28,a.b29,a.b30,a.b31⟩:Dig)))
 else (
  qG K c d e (⟨f,g,h,i,j,l,m,n,o,p,q,r,s,t,u,v,w,x,y,a.b19,a.b20,a.b21,a.b22,a.b23,a.b24,a.b25,a.b26,a.b27,a.b28,a.b29,a.b30,a.b31⟩:Dig)))
 else (
  qG K c d e (⟨f,g,h,i,j,l,m,n,o,p,q,r,s,t,u,v,w,x,a.b18,a.b19,a.b20,a.b21,a.b22,a.b23,a.b24,a.b25,a.b26,a.b27,a.b28,a.b29,a.b30,a.b31⟩:Dig)))
 else (
  qG K c d e (⟨f,g,h,i,j,l,m,n,o,p,q,r,s,t,u,v,w,a.b17,a.b18,a.b19,a.b20,a.b21,a.b22,a.b23,a.b24,a.b25,a.b26,a.b27,a.b28,a.b29,a.b30,a.b31⟩:Dig)))
 else (
  qG K c d e (⟨f,g,h,i,j,l,m,n,o,p,q,r,s,t,u,v,a.b16,a.b17,a.b18,a.b19,a.b20,a.b21,a.b22,a.b23,a.b24,a.b25,a.b26,a.b27,a.b28,a.b29,a.b30,a.b31⟩:Dig)))
 else (
  qG K c d e (⟨f,g,h,i,j,l,m,n,o,p,q,r,s,t,u,a.b15,a.b16,a.b17,a.b18,a.b19,a.b20,a.b21,a.b22,a.b23,a.b24,a.b25,a.b26,a.b27,a.b28,a.b29,a.b30,a.b31⟩:Dig)))
 else (
  qG K c d e (⟨f,g,h,i,j,l,m,n,o,p,q,r,s,t,a.b14,a.b15,a.b16,a.b17,a.b18,a.b19,a.b20,a.b21,a.b22,a.b23,a.b24,a.b25,a.b26,a.b27,a.b28,a.b29,a.b30,a.b31⟩:Dig)))
 else (
  qG K c d e (⟨f,g,h,i,j,l,m,n,o,p,q,r,s,a.b13,a.b14,a.b15,a.b16,a.b17,a.b18,a.b19,a.b20,a.b21,a.b22,a.b23,a.b24,a.b25,a.b26,a.b27,a.b28,a.b29,a.b30,a.b31⟩:Dig)))
 else (
  qG K c d e (⟨f,g,h,i,j,l,m,n,o,p,q,r,a.b12,a.b13,a.b14,a.b15,a.b16,a.b17,a.b18,a.b19,a.b20,a.b21,a.b22,a.b23,a.b24,a.b25,a.b26,a.b27,a.b28,a.b29,a.b30,a.b31⟩:Dig)))
 else (
  qG K c d e (⟨f,g,h,i,j,l,m,n,o,p,q,a.b11,a.b12,a.b13,a.b14,a.b15,a.b16,a.b17,a.b18,a.b19,a.b20,a.b21,a.b22,a.b23,a.b24,a.b25,a.b26,a.b27,a.b28,a.b29,a.b30,a.b31⟩:Dig)))
 else (
  qG K c d e (⟨f,g,h,i,j,l,m,n,o,p,a.b10,a.b11,a.b12,a.b13,a.b14,a.b15,a.b16,a.b17,a.b18,a.b19,a.b20,a.b21,a.b22,a.b23,a.b24,a.b25,a.b26,a.b27,a.b28,a.b29,a.b30,a.b31⟩:Dig)))
 else (
  qG K c d e (⟨f,g,h,i,j,l,m,n,o,a.b9,a.b10,a.b11,a.b12,a.b13,a.b14,a.b15,a.b16,a.b17,a.b18,a.b19,a.b20,a.b21,a.b22,a.b23,a.b24,a.b25,a.b26,a.b27,a.b28,a.b29,a.b30,a.b31⟩:Dig)))
 else (
  qG K c d e (⟨f,g,h,i,j,l,m,n,a.b8,a.b9,a.b10,a.b11,a.b12,a.b13,a.b14,a.b15,a.b16,a.b17,a.b18,a.b19,a.b20,a.b21,a.b22,a.b23,a.b24,a.b25,a.b26,a.b27,a.b28,a.b29,a.b30,a.b31⟩:Dig)))
 else (
  qG K c d e (⟨f,g,h,i,j,l,m,a.b7,a.b8,a.b9,a.b10,a.b11,a.b12,a.b13,a.b14,a.b15,a.b16,a.b17,a.b18,a.b19,a.b20,a.b21,a.b22,a.b23,a.b24,a.b25,a.b26,a.b27,a.b28,a.b29,a.b30,a.b31⟩:Dig)))
 else (
  qG K c d e (⟨f,g,h,i,j,l,a.b6,a.b7,a.b8,a.b9,a.b10,a.b11,a.b12,a.b13,a.b14,a.b15,a.b16,a.b17,a.b18,a.b19,a.b20,a.b21,a.b22,a.b23,a.b24,a.b25,a.b26,a.b27,a.b28,a.b29,a.b30,a.b31⟩:Dig)))
 else (
  qG K c d e (⟨f,g,h,i,j,a.b5,a.b6,a.b7,a.b8,a.b9,a.b10,a.b11,a.b12,a.b13,a.b14,a.b15,a.b16,a.b17,a.b18,a.b19,a.b20,a.b21,a.b22,a.b23,a.b24,a.b25,a.b26,a.b27,a.b28,a.b29,a.b30,a.b31⟩:Dig)))
 else (
  qG K c d e (⟨f,g,h,i,a.b4,a.b5,a.b6,a.b7,a.b8,a.b9,a.b10,a.b11,a.b12,a.b13,a.b14,a.b15,a.b16,a.b17,a.b18,a.b19,a.b20,a.b21,a.b22,a.b23,a.b24,a.b25,a.b26,a.b27,a.b28,a.b29,a.b30,a.b31⟩:Dig)))
 else (
  qG K c d e (⟨f,g,h,a.b3,a.b4,a.b5,a.b6,a.b7,a.b8,a.b9,a.b10,a.b11,a.b12,a.b13,a.b14,a.b15,a.b16,a.b17,a.b18,a.b19,a.b20,a.b21,a.b22,a.b23,a.b24,a.b25,a.b26,a.b27,a.b28,a.b29,a.b30,a.b31⟩:Dig)))
 else (
  qG K c d e (⟨f,g,a.b2,a.b3,a.b4,a.b5,a.b6,a.b7,a.b8,a.b9,a.b10,a.b11,a.b12,a.b13,a.b14,a.b15,a.b16,a.b17,a.b18,a.b19,a.b20,a.b21,a.b22,a.b23,a.b24,a.b25,a.b26,a.b27,a.b28,a.b29,a.b30,a.b31⟩:Dig)))
 else (
  qG K c d e (⟨f,a.b1,a.b2,a.b3,a.b4,a.b5,a.b6,a.b7,a.b8,a.b9,a.b10,a.b11,a.b12,a.b13,a.b14,a.b15,a.b16,a.b17,a.b18,a.b19,a.b20,a.b21,a.b22,a.b23,a.b24,a.b25,a.b26,a.b27,a.b28,a.b29,a.b30,a.b31⟩:Dig)))
 else (
  qG K c d e a))
def F60 (g:prodL L60) (K:Kn):Prop:=
 VS (g.1,g.2.1,())/\
 bif !decide ((qq z7 (g.1,g.2.1)).1=(⟨#[]⟩:ByteArray))then (
  XI K ((qq z7 (g.1,g.2.1)).1) (!decide ((((qq z7 (g.1,g.2.1)).1).size:Int)=32)) ((qq z7 (g.1,g.2.1)).2.1) ((qq z7 (g.1,g.2.1)).2.2) dz dz)
 else (
  XI K ((qq z7 (g.1,g.2.1)).1) false ((qq z7 (g.1,g.2.1)).2.1) ((qq z7 (g.1,g.2.1)).2.2) dz dz)
theorem ql7 (g:prodL L60) (K X:Kn) (h:F60 g K):FCalls Tryz.prog 60 (argsT S60 L60 g) (qi S60 O60 L60 g) K X 0:=
 FCalls.settleD (qw Tryz.func60 Tryz.ntmps60 Tryz.results60 (qd WK qj) qz H60 J60 (by kernel_rfl) (by kernel_rfl) h)
end
section
open Go.RowKit
set_option maxRecDepth 100000
def qKQ (g:prodL L54):Prop:=True
def qAT:Raw:=⟨S54,O54,L54,0,fun g K _=>qKQ g/\K (.ag (enc .dig (qq Jh (g.1,g.2.1)).1)) [some (.cells [.sl false .sexp (qq Jh (g.1,g.2.1)).2.1,.bool (qq Jh (g.1,g.2.1)).2.2])]⟩
theorem qQW:qAT.Ok Tryz.prog 54:=fun g K X h=>qoQ g K X (by
 refine ⟨trivial, ?_⟩;rw [xr (f:=jK) fun _=>rfl]
 exact qCd (J:=fun b=>qjX K _ _ b dz dz) h.2)
def qYj (g:prodL L60):Prop:=True
def qAR:Raw:=⟨S60,O60,L60,0,fun g K _=>qYj g/\K (.ag (enc .dig (qq Qo (g.1,g.2.1)).1)) [some (.cells [.sl false .sexp (qq Qo (g.1,g.2.1)).2.1,.bool (qq Qo (g.1,g.2.1)).2.2])]⟩
theorem zy {s:ByteArray} (h:s.size=32) {k:Nat} (hk:k<32) {K:Int->Prop} (hK:K (qL s k 0)):qs s (k:Int) K:=by
 have hg:s[k]? =some (s[k]'(by omega)):=getElem?_pos s k (by omega)
 refine ⟨by omega,s[k]'(by omega), ?_, ?_⟩
 . rw [Jay];exact hg
 . unfold qL at hK;rw [hg] at hK;exact hK
theorem qXW {K:Kn} {s:ByteArray} {l:List Sx} {b:Bool} (h:K (.ag (enc .dig (bif kX s then dz else ZI s))) [some (.cells [.sl false .sexp l,.bool (b||kX s)])]):
  bif !decide (s=(⟨#[]⟩:ByteArray))then XI K s (!decide ((s.size:Int)=32)) l b dz dz else XI K s false l b dz dz:=by
 have hE:s=⟨#[]⟩->XI K s false l b dz dz:=fun e=>by
  subst e;rw [W5,Jcm,Jaf] at h;exact h
 by_cases e:s=⟨#[]⟩
 . rw [Jaa e];exact hE e
 . rw [Jab e,Ja4,Jae];unfold kX at h;rw [Jab e,Ja4,Jae] at h;by_cases hs:s.size=32
   . have hs':((s.size:Nat):Int)=32:=by omega
     rw [Jaa hs',Jap,Jaf,Jcm] at h;rw [Jaa hs',Jap];unfold XI;rw [Jaf];rw [Jaa (show (0:Int) < ((s.size:Nat):Int)by omega),Jae]
     refine zy (k:=0) hs (by decide) ⟨by decide,by decide, ?_⟩
     rw [Jaa (show (1:Int) < ((s.size:Nat):Int)by omega),Jae]
     refine zy (k:=1) hs (by decide) ⟨by decide,by decide, ?_⟩
     rw [Jaa (show (2:Int) < ((s.size:Nat):Int)by omega),Jae]
     refine zy (k:=2) hs (by decide) ⟨by decide,by decide, ?_⟩
     rw [Jaa (show (3:Int) < ((s.size:Nat):Int)by omega),Jae]
     refine zy (k:=3) hs (by decide) ⟨by decide,by decide, ?_⟩
     rw [Jaa (show (4:Int) < ((s.size:Nat):Int)by omega),Jae]
     refine zy (k:=4) hs (by decide) ⟨by decide,by decide, ?_⟩
     rw [Jaa (show (5:Int) < ((s.size:Nat):Int)by omega),Jae]
     refine zy (k:=5) hs (by decide) ⟨by decide,by decide, ?_⟩
     rw [Jaa (show (6:Int) < ((s.size:Nat):Int)by omega),Jae]
     refine zy (k:=6) hs (by decide) ⟨by decide,by decide, ?_⟩
     rw [Jaa (show (7:Int) < ((s.size:Nat):Int)by omega),Jae]
     refine zy (k:=7) hs (by decide) ⟨by decide,by decide, ?_⟩
     rw [Jaa (show (8:Int) < ((s.size:Nat):Int)by omega),Jae]
     refine zy (k:=8) hs (by decide) ⟨by decide,by decide, ?_⟩
     rw [Jaa (show (9:Int) < ((s.size:Nat):Int)by omega),Jae]
     refine zy (k:=9) hs (by decide) ⟨by decide,by decide, ?_⟩
     rw [Jaa (show (10:Int) < ((s.size:Nat):Int)by omega),Jae]
     refine zy (k:=10) hs (by decide) ⟨by decide,by decide, ?_⟩
     rw [Jaa (show (11:Int) < ((s.size:Nat):Int)by omega),Jae]
     refine zy (k:=11) hs (by decide) ⟨by decide,by decide, ?_⟩
     rw [Jaa (show (12:Int) < ((s.size:Nat):Int)by omega),Jae]
     refine zy (k:=12) hs (by decide) ⟨by decide,by decide, ?_⟩
     rw [Jaa (show (13:Int) < ((s.size:Nat):Int)by omega),Jae]
     refine zy (k:=13) hs (by decide) ⟨by decide,by decide, ?_⟩
     rw [Jaa (show (14:Int) < ((s.size:Nat):Int)by omega),Jae]
     refine zy (k:=14) hs (by decide) ⟨by decide,by decide, ?_⟩
     rw [Jaa (show (15:Int) < ((s.size:Nat):Int)by omega),Jae]
     refine zy (k:=15) hs (by decide) ⟨by decide,by decide, ?_⟩
     rw [Jaa (show (16:Int) < ((s.size:Nat):Int)by omega),Jae]
     refine zy (k:=16) hs (by decide) ⟨by decide,by decide, ?_⟩
     rw [Jaa (show (17:Int) < ((s.size:Nat):Int)by omega),Jae]
     refine zy (k:=17) hs (by decide) ⟨by decide,by decide, ?_⟩
     rw [Jaa (show (18:Int) < ((s.size:Nat):Int)by omega),Jae]
     refine zy (k:=18) hs (by decide) ⟨by decide,by decide, ?_⟩
     rw [Jaa (show (19:Int) < ((s.size:Nat):Int)by omega),Jae]
     refine zy (k:=19) hs (by decide) ⟨by decide,by decide, ?_⟩
     rw [Jaa (show (20:Int) < ((s.size:Nat):Int)by omega),Jae]
     refine zy (k:=20) hs (by decide) ⟨by decide,by decide, ?_⟩
     rw [Jaa (show (21:Int) < ((s.size:Nat):Int)by omega),Jae]
     refine zy (k:=21) hs (by decide) ⟨by decide,by decide, ?_⟩
     rw [Jaa (show (22:Int) < ((s.size:Nat):Int)by omega),Jae]
     refine zy (k:=22) hs (by decide) ⟨by decide,by decide, ?_⟩
     rw [Jaa (show (23:Int) < ((s.size:Nat):Int)by omega),Jae]
     refine zy (k:=23) hs (by decide) ⟨by decide,by decide, ?_⟩
     rw [Jaa (show (24:Int) < ((s.size:Nat):Int)by omega),Jae]
     refine zy (k:=24) hs (by decide) ⟨by decide,by decide, ?_⟩
     rw [Jaa (show (25:Int) < ((s.size:Nat):Int)by omega),Jae]
     refine zy (k:=25) hs (by decide) ⟨by decide,by decide, ?_⟩
     rw [Jaa (show (26:Int) < ((s.size:Nat):Int)by omega),Jae]
     refine zy (k:=26) hs (by decide) ⟨by decide,by decide, ?_⟩
     rw [Jaa (show (27:Int) < ((s.size:Nat):Int)by omega),Jae]
     refine zy (k:=27) hs (by decide) ⟨by decide,by decide, ?_⟩
     rw [Jaa (show (28:Int) < ((s.size:Nat):Int)by omega),Jae]
     refine zy (k:=28) hs (by decide) ⟨by decide,by decide, ?_⟩
     rw [Jaa (show (29:Int) < ((s.size:Nat):Int)by omega),Jae]
     refine zy (k:=29) hs (by decide) ⟨by decide,by decide, ?_⟩
     rw [Jaa (show (30:Int) < ((s.size:Nat):Int)by omega),Jae]
     refine zy (k:=30) hs (by decide) ⟨by decide,by decide, ?_⟩
     rw [Jaa (show (31:Int) < ((s.size:Nat):Int)by omega),Jae]
     refine zy (k:=31) hs (by decide) ⟨by decide,by decide, ?_⟩
     rw [Jab (show¬(32:Int) < ((s.size:Nat):Int)by omega),Jaf]
     exact h
   . rw [Jab (show¬((s.size:Nat):Int)=32 by omega),Ja4,Jae,Bool.or_true] at h
     rw [Jab (show¬((s.size:Nat):Int)=32 by omega),Ja4]
     exact h
theorem qQ5:qAR.Ok Tryz.prog 60:=fun g K X h=>ql7 g K X (by
 obtain ⟨l,b,⟨⟩⟩:=g;have h:=h.2;refine ⟨trivial,qXW ?_⟩;show K (.ag (enc .dig (bif kX (zz l).atom then dz else ZI (zz l).atom))) [some (.cells [.sl false .sexp (xT (l,b)).1,.bool (((xT (l,b)).2||(zz l).isList)||kX (zz l).atom)])]
 have h:K (.ag (enc .dig (bif kX (zz l).atom then (dz,true)else (ZI (zz l).atom,(zz l).isList)).1)) [some (.cells [.sl false .sexp (xT (l,b)).1,.bool ((xT (l,b)).2||(bif kX (zz l).atom then (dz,true)else (ZI (zz l).atom,(zz l).isList)).2)])]:=h
 cases e:kX (zz l).atom
 . rw [e] at h;rw [Jcm];exact h
 . rw [e] at h;rw [Bool.or_true];rw [Jae] at h ⊢;rw [Bool.or_true] at h;exact h)
end
section
open Go.RowKit
attribute [local irreducible] zb qa
set_option maxRecDepth 100000
def qAQ:List (Nat×Hint):=[(4,⟨[((2,[]),none),((4,[]),none)],[(2,.pt 1 0),(4,.pt 2 0)],[.cells [.leaf,.leaf],.el,.el],[.sl .sexp,.bool,.el .idk,.el .idk]⟩)]
abbrev qob:List Sh:=[.pt 0 0]
abbrev qJE:List Lf:=[.sl .sexp,.bool]
abbrev qsd:List ObSh:=[.cells [.leaf,.leaf]]
def qjK (K:Kn) (a:List Sx) (b:Bool) (d c:Idn):Prop:=
 K (.ag (enc .idk c)) [some (.cells [.sl false .sexp a,.bool b])]
def qAh (g:prodL qJE) (K:Kn):Prop:=
 qqn (g.1,g.2.1,())/\
 qKQ ((qq zJ (g.1,g.2.1)).1,false,())/\
 qza ((qq Jh ((qq zJ (g.1,g.2.1)).1,false)).2.1,(qq Jh ((qq zJ (g.1,g.2.1)).1,false)).2.2,())/\
 bif (qq zJ (g.1,g.2.1)).2.2 then (
  qjK K ((qq zJ (g.1,g.2.1)).2.1) true iz (⟨(qq Jh ((qq zJ (g.1,g.2.1)).1,false)).1,(qq zq ((qq Jh ((qq zJ (g.1,g.2.1)).1,false)).2)).1⟩:Idn))
 else (
  qjK K ((qq zJ (g.1,g.2.1)).2.1) ((qq zq ((qq Jh ((qq zJ (g.1,g.2.1)).1,false)).2)).2.2) iz (⟨(qq Jh ((qq zJ (g.1,g.2.1)).1,false)).1,(qq zq ((qq Jh ((qq zJ (g.1,g.2.1)).1,false)).2)).1⟩:Idn))
theorem qg7 (g:prodL qJE) (K X:Kn) (h:qAh g K):FCalls Tryz.prog 101 (argsT qob qJE g) (qi qob qsd qJE g) K X 0:=
 FCalls.settleD (qw Tryz.func101 Tryz.ntmps101 Tryz.results101 (qd qjP (qd Wq (qd qQW qj))) qz [] qAQ (by kernel_rfl) (by kernel_rfl) h)
def qBs:List (Nat×Hint):=[(6,⟨[((2,[]),none),((4,[]),none)],[(2,.pt 1 0),(4,.pt 2 0)],[.cells [.leaf,.leaf],.el,.el],[.sl .sexp,.bool,.el .idk,.el .idk]⟩)]
abbrev qnl:List Sh:=[.pt 0 0]
abbrev qJM:List Lf:=[.sl .sexp,.bool]
abbrev qsi:List ObSh:=[.cells [.leaf,.leaf]]
def Wy (K:Kn) (a:List Sx) (b:Bool) (d c:Idn):Prop:=
 K (.ag (enc .idk c)) [some (.cells [.sl false .sexp a,.bool b])]
def qA3 (g:prodL qJM) (K:Kn):Prop:=
 KM (g.1,g.2.1,())/\
 qYj ((qq qN (g.1,g.2.1)).1,false,())/\
 qzM ((qq Qo ((qq qN (g.1,g.2.1)).1,false)).2.1,(qq Qo ((qq qN (g.1,g.2.1)).1,false)).2.2,())/\
 bif (qq qN (g.1,g.2.1)).2.2 then (
  Wy K ((qq qN (g.1,g.2.1)).2.1) true iz (⟨(qq Qo ((qq qN (g.1,g.2.1)).1,false)).1,(qq zq ((qq Qo ((qq qN (g.1,g.2.1)).1,false)).2)).1⟩:Idn))
 else (
  bif (qq zq ((qq Qo ((qq qN (g.1,g.2.1)).1,false)).2)).2.2 then (
   Wy K ((qq qN (g.1,g.2.1)).2.1) true iz (⟨(qq Qo ((qq qN (g.1,g.2.1)).1,false)).1,(qq zq ((qq Qo ((qq qN (g.1,g.2.1)).1,false)).2)).1⟩:Idn))
  else (
   Wy K ((qq qN (g.1,g.2.1)).2.1) (decide (0< ((((qq zq ((qq Qo ((qq qN (g.1,g.2.1)).1,false)).2)).2.1).length:Nat):Int))) iz (⟨(qq Qo ((qq qN (g.1,g.2.1)).1,false)).1,(qq zq ((qq Qo ((qq qN (g.1,g.2.1)).1,false)).2)).1⟩:Idn)))
theorem qdx (g:prodL qJM) (K X:Kn) (h:qA3 g K):FCalls Tryz.prog 106 (argsT qnl qJM g) (qi qnl qsi qJM g) K X 0:=
 FCalls.settleD (qw Tryz.func106 Tryz.ntmps106 Tryz.results106 (qd qxZ (qd Ju (qd qQ5 qj))) qz [] qBs (by kernel_rfl) (by kernel_rfl) h)
end
section
open Go.RowKit
set_option maxRecDepth 100000
def X8 (g:prodL qJE):Prop:=qV g.1<=zV
def qpv:Raw:=⟨qob,qsd,qJE,0,fun g K _=>X8 g/\K (.ag (enc .idk (qq zC (g.1,g.2.1)).1)) [some (.cells [.sl false .sexp (qq zC (g.1,g.2.1)).2.1,.bool (qq zC (g.1,g.2.1)).2.2])]⟩
theorem qwM:qpv.Ok Tryz.prog 101:=fun g K X h=>qg7 g K X (by
 have hb:qV (zz g.1).list<=zV:=vD h.1;refine ⟨trivial,trivial,zO hb, ?_⟩;rw [xr (f:=zJ) fun _=>rfl]
 exact qjY (J:=fun b=>qjK K _ b _ _) h.2)
def Va (g:prodL qJM):Prop:=qV g.1<=zV
def qpn:Raw:=⟨qnl,qsi,qJM,0,fun g K _=>Va g/\K (.ag (enc .idk (qq zt (g.1,g.2.1)).1)) [some (.cells [.sl false .sexp (qq zt (g.1,g.2.1)).2.1,.bool (qq zt (g.1,g.2.1)).2.2])]⟩
theorem qv9:qpn.Ok Tryz.prog 106:=fun g K X h=>qdx g K X (by
 have hb:qV (zz g.1).list<=zV:=vD h.1;refine ⟨trivial,trivial,zO hb, ?_⟩;refine qn6 (J:=fun b=>Wy K _ b _ _) ?_
 have h:=h.2;show K _ [some (.cells [_,.bool (((xT (g.1,g.2.1)).2|| !(zz g.1).isList)||_)])]
 rw [Jcl];exact h)
end
section
open Go.RowKit
attribute [local irreducible] zb qa
set_option maxRecDepth 100000
def qCw:List (Nat×Hint):=[(3,⟨[((3,[]),none),((4,[]),some .idk)],[(0,.pt 0 0),(3,.pt 1 0),(4,.oa .idk 2)],[.cells [.leaf,.leaf],.cells [.leaf,.leaf],.arr .idk],[.sl .sexp,.bool,.sl .sexp,.bool,.sl .idk]⟩)]
def qBo:List (Nat×Hint):=[(6,⟨[((4,[]),none)],[(4,.oa .idk 1)],[.cells [.leaf,.leaf],.arr .idk],[.sl .sexp,.bool,.sl .idk]⟩)]
abbrev qmi:List Sh:=[.pt 0 0]
abbrev qJ9:List Lf:=[.sl .sexp,.bool]
abbrev qrB:List ObSh:=[.cells [.leaf,.leaf]]
def qz9 (K:Kn) (a:List Sx) (b:Bool) (c:List Idn):Prop:=
 K (.sl false .idk c) [some (.cells [.sl false .sexp a,.bool b])]
def J6 (K:Kn) (f:prodL [.sl .sexp,.bool,.sl .sexp,.bool,.sl .idk]->Prop) (d:List Sx) (e:Bool) (a:List Sx) (b:Bool) (c:List Idn):Prop:=
 bif decide (0< (a.length:Int))then (
  X8 (a,b,())/\
 ql (c.length+[((qq zC (a,b)).1)].length) 40 (
 f (d,e,(qq zC (a,b)).2.1,(qq zC (a,b)).2.2,c++[((qq zC (a,b)).1)],())))
 else (
  bif e then (
  qz9 K d true c)
 else (
  qz9 K d b c))
def qQF (K:Kn) (g:prodL [.sl .sexp,.bool,.sl .sexp,.bool,.sl .idk]):Prop:=
 qy (γ:=prodL [.sl .sexp,.bool,.sl .sexp,.bool,.sl .idk]) (fun V y=>J6 K V y.1 y.2.1 y.2.2.1 y.2.2.2.1 y.2.2.2.2.1) g
def qBw (g:prodL qJ9) (K:Kn):Prop:=
 qqn (g.1,g.2.1,())/\
 qQF K ((qq zJ (g.1,g.2.1)).2.1,(qq zJ (g.1,g.2.1)).2.2,(qq zJ (g.1,g.2.1)).1,false,[],())
theorem qbS (g:prodL qJ9) (K X:Kn) (h:qBw g K):FCalls Tryz.prog 102 (argsT qmi qJ9 g) (qi qmi qrB qJ9 g) K X 0:=
 FCalls.settleG (qw Tryz.func102 Tryz.ntmps102 Tryz.results102 (qd Wq (qd qwM qj)) qz qCw qBo (by kernel_rfl) (by kernel_rfl) h)
def qBv:List (Nat×Hint):=[(3,⟨[((3,[]),none),((4,[]),some .str)],[(0,.pt 0 0),(3,.pt 1 0),(4,.oa .str 2)],[.cells [.leaf,.leaf],.cells [.leaf,.leaf],.arr .str],[.sl .sexp,.bool,.sl .sexp,.bool,.sl .str]⟩)]
def qBS:List (Nat×Hint):=[(5,⟨[((3,[]),none),((4,[]),none)],[(0,.pt 0 0),(3,.pt 1 0),(4,.oa .str 2)],[.cells [.leaf,.leaf],.cells [.leaf,.leaf],.arr .str],[.sl .sexp,.bool,.sl .sexp,.bool,.sl .str]⟩),(6,⟨[((4,[]),none)],[(4,.oa .str 1)],[.cells [.leaf,.leaf],.arr .str],[.sl .sexp,.bool,.sl .str]⟩)]
abbrev qmc:List Sh:=[.pt 0 0]
abbrev qJJ:List Lf:=[.sl .sexp,.bool]
abbrev qrd:List ObSh:=[.cells [.leaf,.leaf]]
def qj8 (K:Kn) (a:List Sx) (b:Bool) (c:List ByteArray):Prop:=
 K (.sl false .str c) [some (.cells [.sl false .sexp a,.bool b])]
def WI (K:Kn) (a:List Sx) (c:Bool) (e:List Sx) (d:Bool) (b:List ByteArray):Prop:=
 bif c then (
  qj8 K a true b)
 else (
  qj8 K a d b)
def kI (K:Kn) (f:prodL [.sl .sexp,.bool,.sl .sexp,.bool,.sl .str]->Prop) (d:List Sx) (e:Bool) (a:List Sx) (b:Bool) (c:List ByteArray):Prop:=
 bif decide (0< (a.length:Int))then (
  bif !b then (
  VS (a,b,())/\
 ql (c.length+[(qq z7 (a,b)).1].length) 16 (
 f (d,e,(qq z7 (a,b)).2.1,(qq z7 (a,b)).2.2,c++[(qq z7 (a,b)).1],())))
 else (
  WI K d e a b c))
 else (
  WI K d e a b c)
def qZJ (K:Kn) (g:prodL [.sl .sexp,.bool,.sl .sexp,.bool,.sl .str]):Prop:=
 qy (γ:=prodL [.sl .sexp,.bool,.sl .sexp,.bool,.sl .str]) (fun V y=>kI K V y.1 y.2.1 y.2.2.1 y.2.2.2.1 y.2.2.2.2.1) g
def qA6 (g:prodL qJJ) (K:Kn):Prop:=
 KM (g.1,g.2.1,())/\
 qZJ K ((qq qN (g.1,g.2.1)).2.1,(qq qN (g.1,g.2.1)).2.2,(qq qN (g.1,g.2.1)).1,false,[],())
theorem qey (g:prodL qJJ) (K X:Kn) (h:qA6 g K):FCalls Tryz.prog 107 (argsT qmc qJJ g) (qi qmc qrd qJJ g) K X 0:=
 FCalls.settleG (qw Tryz.func107 Tryz.ntmps107 Tryz.results107 (qd WK (qd Ju qj)) qz qBv qBS (by kernel_rfl) (by kernel_rfl) h)
def qCZ:List (Nat×Hint):=[(3,⟨[((3,[]),none),((4,[]),some .idk)],[(0,.pt 0 0),(3,.pt 1 0),(4,.oa .idk 2)],[.cells [.leaf,.leaf],.cells [.leaf,.leaf],.arr .idk],[.sl .sexp,.bool,.sl .sexp,.bool,.sl .idk]⟩)]
def qAK:List (Nat×Hint):=[(5,⟨[((3,[]),none),((4,[]),none)],[(0,.pt 0 0),(3,.pt 1 0),(4,.oa .idk 2)],[.cells [.leaf,.leaf],.cells [.leaf,.leaf],.arr .idk],[.sl .sexp,.bool,.sl .sexp,.bool,.sl .idk]⟩),(6,⟨[((4,[]),none)],[(4,.oa .idk 1)],[.cells [.leaf,.leaf],.arr .idk],[.sl .sexp,.bool,.sl .idk]⟩)]
abbrev qlp:List Sh:=[.pt 0 0]
abbrev qXF:List Lf:=[.sl .sexp,.bool]
abbrev qtK:List ObSh:=[.cells [.leaf,.leaf]]
def qxK (K:Kn) (a:List Sx) (b:Bool) (c:List Idn):Prop:=
 K (.sl false .idk c) [some (.cells [.sl false .sexp a,.bool b])]
def We (K:Kn) (a:List Sx) (c:Bool) (e:List Sx) (d:Bool) (b:List Idn):Prop:=
 bif c then (
  qxK K a true b)
 else (
  qxK K a d b)
def kC (K:Kn) (f:prodL [.sl .sexp,.bool,.sl .sexp,.bool,.sl .idk]->Prop) (d:List Sx) (e:Bool) (a:List Sx) (b:Bool) (c:List Idn):Prop:=
 bif decide (0< (a.length:Int))then (
  bif !b then (
  Va (a,b,())/\
 ql (c.length+[((qq zt (a,b)).1)].length) 40 (
 f (d,e,(qq zt (a,b)).2.1,(qq zt (a,b)).2.2,c++[((qq zt (a,b)).1)],())))
 else (
  We K d e a b c))
 else (
  We K d e a b c)
def qQ4 (K:Kn) (g:prodL [.sl .sexp,.bool,.sl .sexp,.bool,.sl .idk]):Prop:=
 qy (γ:=prodL [.sl .sexp,.bool,.sl .sexp,.bool,.sl .idk]) (fun V y=>kC K V y.1 y.2.1 y.2.2.1 y.2.2.2.1 y.2.2.2.2.1) g
def qCy (g:prodL qXF) (K:Kn):Prop:=
 KM (g.1,g.2.1,())/\
 qQ4 K ((qq qN (g.1,g.2.1)).2.1,(qq qN (g.1,g.2.1)).2.2,(qq qN (g.1,g.2.1)).1,false,[],())
theorem qc9 (g:prodL qXF) (K X:Kn) (h:qCy g K):FCalls Tryz.prog 108 (argsT qlp qXF g) (qi qlp qtK qXF g) K X 0:=
 FCalls.settleG (qw Tryz.func108 Tryz.ntmps108 Tryz.results108 (qd Ju (qd qv9 qj)) qz qCZ qAK (by kernel_rfl) (by kernel_rfl) h)
end
section
open Go.RowKit
set_option maxRecDepth 100000
def qKa (g:prodL qJ9):Prop:=qV g.1<=zV
def qsE:Raw:=⟨qmi,qrB,qJ9,0,fun g K _=>qKa g/\K (.sl false .idk (qq VL (g.1,g.2.1)).1) [some (.cells [.sl false .sexp (qq VL (g.1,g.2.1)).2.1,.bool (qq VL (g.1,g.2.1)).2.2])]⟩
theorem qYv:qsE.Ok Tryz.prog 102:=fun g K X h=>qbS g K X (by
 obtain ⟨l,b,⟨⟩⟩:=g;obtain ⟨hb,h⟩:=h;have hb:qV (zz l).list<=zV:=vD hb;have hlim:zV=1073741824:=rfl;refine ⟨trivial, ?_⟩;rw [xr (f:=zJ) fun _=>rfl]
 unfold qQF;refine qy.reads zC (fun q b' out=>((xT (l,b)).1,(xT (l,b)).2,q,b',out,())) (fun q out=>qV q<=zV/\out.length+q.length<=1073741824) (fun r=>K (.sl false .idk r.1) [some (.cells [.sl false .sexp (xT (l,b)).1,.bool ((xT (l,b)).2||r.2)])]) (zz l).list rfl
  ⟨hb,by have:=jF (zz l).list;simp only [Ja1];omega⟩ (fun x q out hi=> ?_) (fun W x q b' out hi hW=> ?_) (fun W b' out hq=> ?_) h
 . obtain ⟨h1,h2⟩:=hi;simp only [qV,Jaj] at h1 h2;exact ⟨by omega,by simp only [Jak,Jal];omega⟩
 . obtain ⟨h1,h2⟩:=hi;show J6 K W _ _ (x::q) b' out
   unfold J6;rw [Jaa (show (0:Int) < (((x::q).length:Nat):Int)by rw [Jaj];omega),Jae]
   rw [Jaj] at h2;exact ⟨h1,by simp only [Jal];omega,hW⟩
 . show J6 K W _ _ [] b' out
   unfold J6;show bif decide ((0:Int) <0)then _ else _
   rw [Jab (by omega),Jaf]
   exact qjY (J:=fun b=>qz9 K _ b _) hq)
def qYg (g:prodL qJJ):Prop:=qV g.1<=zV
def qsw:Raw:=⟨qmc,qrd,qJJ,0,fun g K _=>qYg g/\K (.sl false .str (qq lRx (g.1,g.2.1)).1) [some (.cells [.sl false .sexp (qq lRx (g.1,g.2.1)).2.1,.bool (qq lRx (g.1,g.2.1)).2.2])]⟩
theorem qap:qsw.Ok Tryz.prog 107:=fun g K X h=>qey g K X (by
 obtain ⟨l,b,⟨⟩⟩:=g;obtain ⟨hb,h⟩:=h;have hb:qV (zz l).list<=zV:=vD hb;have hlim:zV=1073741824:=rfl;refine ⟨trivial, ?_⟩;unfold qZJ;have hJ: ∀q b' out,K (.sl false .str out) [some (.cells [.sl false .sexp (xT (l,b)).1,.bool ((qq qN (l,b)).2.2||b')])]->WI K (xT (l,b)).1 (qq qN (l,b)).2.2 q b' out:=fun q b' out h=>by
  unfold WI;exact qjY (J:=fun b=>qj8 K _ b _) h
 refine qy.readsB z7 (fun q b' out=>((xT (l,b)).1,(qq qN (l,b)).2.2,q,b',out,())) (fun q out=>qV q<=zV/\out.length+q.length<=1073741824) (fun r=>K (.sl false .str r.1) [some (.cells [.sl false .sexp (xT (l,b)).1,.bool ((qq qN (l,b)).2.2||r.2)])]) (zz l).list rfl
  ⟨hb,by have:=jF (zz l).list;simp only [Ja1];omega⟩ (fun x q out hi=> ?_) (fun W x q out hi hW=> ?_) (fun W q out hq=> ?_) (fun W out hq=> ?_) ?_
 . obtain ⟨h1,h2⟩:=hi;simp only [qV,Jaj] at h1 h2;exact ⟨by omega,by simp only [Jak,Jal];omega⟩
 . obtain ⟨h1,h2⟩:=hi;show kI K W _ _ (x::q) false out
   unfold kI;rw [Jaa (show (0:Int) < (((x::q).length:Nat):Int)by rw [Jaj];omega),Jae,Ja4,Jae]
   rw [Jaj] at h2;exact ⟨trivial,by simp only [Jal];omega,hW⟩
 . show kI K W _ _ q true out
   unfold kI;cases decide ((0:Int) < ((q.length:Nat):Int))
   . exact hJ q true out hq
   . exact hJ q true out hq
 . show kI K W _ _ [] false out
   unfold kI;show bif decide ((0:Int) <0)then _ else _
   rw [Jab (by omega),Jaf]
   exact hJ [] false out hq
 . show K _ [some (.cells [_,.bool (((xT (l,b)).2|| !(zz l).isList)||_)])]
   rw [Jcl];exact h)
def qYK (g:prodL qXF):Prop:=qV g.1<=zV
def qsb:Raw:=⟨qlp,qtK,qXF,0,fun g K _=>qYK g/\K (.sl false .idk (qq VA (g.1,g.2.1)).1) [some (.cells [.sl false .sexp (qq VA (g.1,g.2.1)).2.1,.bool (qq VA (g.1,g.2.1)).2.2])]⟩
theorem qYF:qsb.Ok Tryz.prog 108:=fun g K X h=>qc9 g K X (by
 obtain ⟨l,b,⟨⟩⟩:=g;obtain ⟨hb,h⟩:=h;have hb:qV (zz l).list<=zV:=vD hb;have hlim:zV=1073741824:=rfl;refine ⟨trivial, ?_⟩;unfold qQ4;have hJ: ∀q b' out,K (.sl false .idk out) [some (.cells [.sl false .sexp (xT (l,b)).1,.bool ((qq qN (l,b)).2.2||b')])]->We K (xT (l,b)).1 (qq qN (l,b)).2.2 q b' out:=fun q b' out h=>by
  unfold We;exact qjY (J:=fun b=>qxK K _ b _) h
 refine qy.readsB zt (fun q b' out=>((xT (l,b)).1,(qq qN (l,b)).2.2,q,b',out,())) (fun q out=>qV q<=zV/\out.length+q.length<=1073741824) (fun r=>K (.sl false .idk r.1) [some (.cells [.sl false .sexp (xT (l,b)).1,.bool ((qq qN (l,b)).2.2||r.2)])]) (zz l).list rfl
  ⟨hb,by have:=jF (zz l).list;simp only [Ja1];omega⟩ (fun x q out hi=> ?_) (fun W x q out hi hW=> ?_) (fun W q out hq=> ?_) (fun W out hq=> ?_) ?_
 . obtain ⟨h1,h2⟩:=hi;simp only [qV,Jaj] at h1 h2;exact ⟨by omega,by simp only [Jak,Jal];omega⟩
 . obtain ⟨h1,h2⟩:=hi;show kC K W _ _ (x::q) false out
   unfold kC;rw [Jaa (show (0:Int) < (((x::q).length:Nat):Int)by rw [Jaj];omega),Jae,Ja4,Jae]
   rw [Jaj] at h2;exact ⟨h1,by simp only [Jal];omega,hW⟩
 . show kC K W _ _ q true out
   unfold kC;cases decide ((0:Int) < ((q.length:Nat):Int))
   . exact hJ q true out hq
   . exact hJ q true out hq
 . show kC K W _ _ [] false out
   unfold kC;show bif decide ((0:Int) <0)then _ else _
   rw [Jab (by omega),Jaf]
   exact hJ [] false out hq
 . show K _ [some (.cells [_,.bool (((xT (l,b)).2|| !(zz l).isList)||_)])]
   rw [Jcl];exact h)
end
end Go.Proofs.YtbglndogddddoaaGreatDoor
