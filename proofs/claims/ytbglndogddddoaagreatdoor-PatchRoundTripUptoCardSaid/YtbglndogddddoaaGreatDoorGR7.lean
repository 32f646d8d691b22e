import Derived.Test.YtbglndogddddoaaGreatDoorCards
import Derived.LaidLaws
import Derived.LaidHandle
import Derived.MakeChecks
import Derived.LaidMore
import Derived.OpenShut
import Derived.ProofKit
import Derived.Stop.Joined
import Derived.JoinedCond
import Derived.Test.YtbglndogddddoaaGreatDoorGR6
set_option linter.unusedVariables false
set_option linter.unusedSimpArgs false
set_option linter.unusedSectionVars false
namespace Go.Proofs.YtbglndogddddoaaGreatDoor
open Go.RowKit
attribute [local irreducible] qW qb
set_option maxRecDepth 100000
def H12:List (Nat×Hint):=[(6,⟨[],[(3, .leaf),(32, .leaf),(33, .leaf),(34, .leaf)],[],[.sl .atm, .sl .i64, .int .i64, .int .i64]⟩)]
def J12:List (Nat×Hint):=[(4,⟨[],[(3, .leaf),(31, .leaf)],[],[.sl .atm, .bool]⟩),(9,⟨[],[(3, .leaf),(32, .leaf),(33, .leaf),(34, .leaf),(55, .leaf)],[],[.sl .atm, .sl .i64, .int .i64, .int .i64, .bool]⟩)]
abbrev S12:List Sh:=[]
abbrev L12:List Lf:=[]
def F12_J9 (K:Kn) (W4:prodL [.sl .atm, .sl .i64, .int .i64, .int .i64]->Prop) (l_8:List Atm) (t_8:List Int) (t2_8 t3_8:Int) (t4_8:Bool):Prop:=
 bif t4_8 then (
  K (.bool false) [])
 else (
  W4 (l_8,t_8,t2_8,IntKind.i64.wrap (t3_8+1),()))
def F12_B4 (K:Kn) (W4:prodL [.sl .atm, .sl .i64, .int .i64, .int .i64]->Prop) (l_3:List Atm) (t_3:List Int) (t2_3 t3_3:Int):Prop:=
 bif decide (t3_3<t2_3)then (
  At t_3 t3_3 fun u5=>
 At l_3 t3_3 fun u6=>
 bif !decide (u6.kind=u5)then (
  F12_J9 K W4 l_3 t_3 t2_3 t3_3 true)
 else (
  At l_3 t3_3 fun u7=>
  F12_J9 K W4 l_3 t_3 t2_3 t3_3 (!decide (u7.id.n=t3_3))))
 else (
  At l_3 3 fun u10=>
 At l_3 0 fun u11=>
 bif zw u10.frm u11.id then (
  At l_3 3 fun u12=>
  At l_3 2 fun u13=>
  bif zw u12.til u13.id then (
   At l_3 4 fun u14=>
   At l_3 2 fun u15=>
   bif zw u14.frm u15.id then (
    At l_3 4 fun u16=>
    At l_3 0 fun u17=>
    K (.bool (zw u16.til u17.id)) [])
   else (
    K (.bool false) []))
  else (
   K (.bool false) []))
 else (
  K (.bool false) []))
def F12_L4 (K:Kn) (g:prodL [.sl .atm, .sl .i64, .int .i64, .int .i64]):Prop:=
 qX (γ:=prodL [.sl .atm, .sl .i64, .int .i64, .int .i64]) (fun V y=>F12_B4 K V y.1 y.2.1 y.2.2.1 y.2.2.2.1) g
def WN (K:Kn) (l_1:List Atm) (t_1:Bool):Prop:=
 bif t_1 then (
  K (.bool false) [])
 else (
  F12_L4 K (l_1,[1,2,5,6,6],(([1,2,5,6,6].length:Nat):Int),0,()))
def F12 (g:prodL L12) (K:Kn):Prop:=
 True/\
 Wo.pre ((⟨#[97,110,110]⟩:ByteArray),(⟨#[]⟩:ByteArray),5,[],zt,())/\
 True/\
 sp25.pre ((⟨#[97,110,110]⟩:ByteArray),(⟨#[]⟩:ByteArray),5,[],zt,())/\
 bif !decide ((zH (⟨#[97,110,110]⟩:ByteArray) (⟨#[]⟩:ByteArray) 5 [] zt).2.2=0)then (
  WN K ((yg (⟨#[97,110,110]⟩:ByteArray) (⟨#[]⟩:ByteArray) 5 [] zt).1) true)
 else (
  bif !decide ((yg (⟨#[97,110,110]⟩:ByteArray) (⟨#[]⟩:ByteArray) 5 [] zt).2=0)then (
   WN K ((yg (⟨#[97,110,110]⟩:ByteArray) (⟨#[]⟩:ByteArray) 5 [] zt).1) true)
  else (
   bif !decide ((zH (⟨#[97,110,110]⟩:ByteArray) (⟨#[]⟩:ByteArray) 5 [] zt).2.1=(⟨#[40,54,58,113,117,105,108,116,49,51,58,97,110,110,48,58,49,58,53,40,41,40,40,49,58,49,49,58,49,41,40,49,58,50,40,48,58,49,58,48,41,40,48,58,50,58,45,49,41,49,58,102,40,41,41,40,49,58,53,40,48,58,49,58,48,41,40,48,58,49,58,48,41,40,48,58,49,58,48,41,40,49,58,120,41,41,41,41]⟩:ByteArray))then (
    WN K ((yg (⟨#[97,110,110]⟩:ByteArray) (⟨#[]⟩:ByteArray) 5 [] zt).1) true)
   else (
    WN K ((yg (⟨#[97,110,110]⟩:ByteArray) (⟨#[]⟩:ByteArray) 5 [] zt).1) (!decide (((((yg (⟨#[97,110,110]⟩:ByteArray) (⟨#[]⟩:ByteArray) 5 [] zt).1).length:Nat):Int)=5)))))
theorem F12_eq (g:prodL L12) (K X:Kn):F12 g K=qW D (qJ [] [(13,true,Wo),(25,false,sp25),(35,false,sp35)]) (qv []) H12 J12 99 [.tmp 0] (qq Tryz.f12) (argsT S12 L12 g) [] (settle0 K) X:=by kernel_rfl
theorem F12_ok (g:prodL L12) (K X:Kn) (h:F12 g K):FCalls Tryz.prog 12 (argsT S12 L12 g) [] K X:=
 FCalls.settle0 (qz qh (vN (vV XG (vV sp25_ok (vV sp35_ok vC)))) qj rfl Tryz.func12 (c:=qq Tryz.f12) rfl Tryz.ntmps12 Tryz.results12 (by unfold qk;rw [Tryz.func12];kernel_rfl) (Nat.le_of_ble_eq_true (by kernel_rfl)) (c0:=0) (Eq.mp (F12_eq g K X) h))
end Go.Proofs.YtbglndogddddoaaGreatDoor
namespace Go.Proofs.YtbglndogddddoaaGreatDoor
open Go.RowKit
set_option maxRecDepth 100000
def atS:List Atm:=[⟨Jk 0,1,Jk 0,1,iz,⟨#[]⟩,0,⟨#[]⟩,⟨#[]⟩,iz,iz,[]⟩,⟨Jk 1,2,iz,0,⟨dz, -1⟩,⟨#[102]⟩,0,⟨#[]⟩,⟨#[]⟩,iz,iz,[]⟩,
 ⟨Jk 2,5,iz,0,iz,⟨#[]⟩,0,⟨#[]⟩,⟨#[120]⟩,iz,iz,[]⟩,⟨Jk 3,6,iz,0,iz,⟨#[]⟩,0,⟨#[]⟩,⟨#[]⟩,iz,Jk 2,[]⟩,⟨Jk 4,6,iz,0,iz,⟨#[]⟩,0,⟨#[]⟩,⟨#[]⟩,Jk 2,iz,[]⟩]
def lS (d:Dig):List Atm:=atS.map (cmpA d)
theorem exS:zH YY ⟨#[]⟩ 5 [] zt=(atS,vI,0):=by
 unfold zH
 rw [headS,chgsS,enTS]
 rfl
theorem atmS:yg YY ⟨#[]⟩ 5 [] zt=(lS (Xb vI),0):=by
 unfold yg Yb
 rw [exS]
 rfl
theorem xS:xP YY ⟨#[]⟩ 5 [] zt:=by
 have i: ∀n:Int, -10<=n/\n<=100->xB n:=fun n h=>⟨by omega,by omega⟩
 refine ⟨i 5 (by omega),Nat.le_of_ble_eq_true rfl,Nat.le_of_ble_eq_true rfl,Nat.le_of_ble_eq_true rfl,Nat.le_of_ble_eq_true rfl,fun c hc=> ?_⟩
 simp only [zt,List.mem_cons,List.not_mem_nil,or_false] at hc
 rcases hc with rfl | rfl | rfl<;>exact ⟨i _ (by decide),i _ (by decide),i _ (by decide),i _ (by decide),i _ (by decide),i _ (by decide),fun x hx=>by cases hx⟩
theorem kS (d:Dig):(lS d).map Atm.kind=[1,2,5,6,6]:=by kernel_rfl
theorem nS (d:Dig):(lS d).map (fun x=>x.id.n)=[0,1,2,3,4]:=by kernel_rfl
theorem lS_len (d:Dig):(lS d).length=5:=rfl
theorem refS (d:Dig):((lS d).getD 3 az).frm=((lS d).getD 0 az).id/\((lS d).getD 3 az).til=((lS d).getD 2 az).id/\((lS d).getD 4 az).frm=((lS d).getD 2 az).id/\((lS d).getD 4 az).til=((lS d).getD 0 az).id:=⟨by kernel_rfl,by kernel_rfl,by kernel_rfl,by kernel_rfl⟩
theorem F12_L4_is {d:Dig} {K:Kn} (h:KBo K true):F12_L4 K (lS d,[1,2,5,6,6],(([1,2,5,6,6].length:Nat):Int),0,()):=by
 have hk:=kS d
 have hn:=nS d
 have hl:=lS_len d
 obtain ⟨r1,r2,r3,r4⟩:=refS d
 generalize lS d=l at hk hn hl r1 r2 r3 r4
 unfold F12_L4
 refine qX.countTo 5 (fun n=>(l,[1,2,5,6,6],((5:Nat):Int),(n:Int),())) (fun _=>True) rfl (fun n hn5 _ W hW=> ?_) trivial
 show F12_B4 K W l [1,2,5,6,6] ((5:Nat):Int) n
 unfold F12_B4
 by_cases hlt:n<5
 . rw [zq hlt,cond_true]
   have h5:n< ([1,2,5,6,6]:List Int).length:=hlt
   have hln:n<l.length:=by omega
   have e1:l[n].kind=([1,2,5,6,6]:List Int)[n]:=by
    have:(l.map Atm.kind)[n]? =([1,2,5,6,6]:List Int)[n]? :=by rw [hk]
    rw [List.getElem?_map,jS hln,jS h5] at this
    exact Option.some.inj this
   have e2:l[n].id.n=(n:Int):=by
    have:(l.map (fun x=>x.id.n))[n]? =([0,1,2,3,4]:List Int)[n]? :=by rw [hn]
    rw [List.getElem?_map,jS hln] at this
    have h3:n=0∨n=1∨n=2∨n=3∨n=4:=by omega
    have:=Option.some.inj (this.trans (show ([0,1,2,3,4]:List Int)[n]? =some (n:Int)by rcases h3 with rfl | rfl | rfl | rfl | rfl<;>rfl))
    exact this
   refine zX h5 (zX hln ?_)
   rw [decide_eq_true e1,Bool.not_true,cond_false]
   refine zX hln ?_
   rw [decide_eq_true e2,Bool.not_true]
   unfold F12_J9
   rw [cond_false,jw hlt (by omega)]
   exact hW hlt trivial
 . have:n=5:=by omega
   subst this
   rw [qG,cond_false]
   have at3: ∀{Q:Atm->Prop},Q (l.getD 3 az)->At l 3 Q:=fun hQ=>zX (n:=3) (by omega) (by rwa [List.getD_eq_getElem?_getD,jS (show 3<l.length by omega)] at hQ)
   have at0: ∀{Q:Atm->Prop},Q (l.getD 0 az)->At l 0 Q:=fun hQ=>zX (n:=0) (by omega) (by rwa [List.getD_eq_getElem?_getD,jS (show 0<l.length by omega)] at hQ)
   have at2: ∀{Q:Atm->Prop},Q (l.getD 2 az)->At l 2 Q:=fun hQ=>zX (n:=2) (by omega) (by rwa [List.getD_eq_getElem?_getD,jS (show 2<l.length by omega)] at hQ)
   have at4: ∀{Q:Atm->Prop},Q (l.getD 4 az)->At l 4 Q:=fun hQ=>zX (n:=4) (by omega) (by rwa [List.getD_eq_getElem?_getD,jS (show 4<l.length by omega)] at hQ)
   refine at3 (at0 ?_)
   rw [vZ,decide_eq_true r1,cond_true]
   refine at3 (at2 ?_)
   rw [vZ,decide_eq_true r2,cond_true]
   refine at4 (at2 ?_)
   rw [vZ,decide_eq_true r3,cond_true]
   refine at4 (at0 ?_)
   rw [vZ,decide_eq_true r4]
   exact h
def sp12:Sp:=⟨S12,L12,fun _=>True,fun _=> .bool true,fun _=>none⟩
theorem sp12_ok:sp12.Ok Tryz.prog 12 true:=
 ⟨fun g K X _ h=>F12_ok g K X (by
  unfold F12
  refine ⟨trivial,xS,trivial,xS, ?_⟩
  have e1:zH ⟨#[97,110,110]⟩ ⟨#[]⟩ 5 [] zt=(atS,vI,0):=exS
  have e2:yg ⟨#[97,110,110]⟩ ⟨#[]⟩ 5 [] zt=(lS (Xb vI),0):=atmS
  rw [e1,e2]
  have hl:=lS_len (Xb vI)
  have hL:=F12_L4_is (d:=Xb vI) (K:=K) h
  generalize lS (Xb vI)=l at hl hL
  show bif !decide (vI=vI)then _ else WN K l (!decide (((l.length:Nat):Int)=5))
  rw [decide_eq_true rfl,hl]
  exact hL),fun _ _ _=>rfl,fun _=>rfl,fun _ _=>⟨rfl,rfl⟩⟩
end Go.Proofs.YtbglndogddddoaaGreatDoor
namespace Go.Proofs.YtbglndogddddoaaGreatDoor
open Go.RowKit
attribute [local irreducible] qW qb
set_option maxRecDepth 100000
end Go.Proofs.YtbglndogddddoaaGreatDoor
namespace Go.Proofs.YtbglndogddddoaaGreatDoor
open Go.RowKit
set_option maxRecDepth 100000
theorem digL_u8 {d:Dig} (h:wf_dig d): ∀x∈xm d,0<=x/\x<=255:=by
 have: ∀x∈xm d,IntKind.u8.min<=x/\x<=IntKind.u8.max:=by
  unfold wf_dig at h
  unfold xm
  simp only [List.forall_mem_cons,List.not_mem_nil,false_implies,implies_true,and_true]
  exact h
 exact fun x hx=>u8_wf (this x hx)
theorem wf_idk_dig {x:Idn} (h:wf_idk x):wf_dig x.patch:=by
 unfold wf_idk at h
 unfold wf_dig
 simp only [h,and_self]
theorem wf_idk_n {x:Idn} (h:wf_idk x):xB x.n:=by
 unfold wf_idk at h
 have:IntKind.i64.min<=x.n/\x.n<=IntKind.i64.max:=by simp only [h,and_self]
 have h1:IntKind.i64.min= -9223372036854775808:=rfl
 have h2:IntKind.i64.max=9223372036854775807:=rfl
 exact ⟨by omega,by omega⟩
theorem digL_inj {a b:Dig} (h:xm a=xm b):a=b:=by
 have:=kY a b
 obtain ⟨a0,a1,a2,a3,a4,a5,a6,a7,a8,a9,a10,a11,a12,a13,a14,a15,a16,a17,a18,a19,a20,a21,a22,a23,a24,a25,a26,a27,a28,a29,a30,a31⟩:=a
 obtain ⟨b0,b1,b2,b3,b4,b5,b6,b7,b8,b9,b10,b11,b12,b13,b14,b15,b16,b17,b18,b19,b20,b21,b22,b23,b24,b25,b26,b27,b28,b29,b30,b31⟩:=b
 simp only [xm,List.cons.injEq,and_true] at h
 simpa only [Dig.mk.injEq] using h
set_option maxRecDepth 100000
theorem X3 (c:Chg):zO c=VX (Zm c):=emptyT_eq _
set_option maxRecDepth 100000
set_option maxRecDepth 100000
theorem yI {c:Chg} (h:zM c=0):zO c=true:=by
 unfold zM fP10 at h
 cases ek:(bif decide (c.kind<1)then true else decide (7<c.kind))
 rotate_left
 . rw [ek] at h;cases h
 rw [ek,cond_false] at h
 cases et:zO c
 . rw [et] at h;cases h
 . rfl
def atN (cs:List Chg):Nat:=(cs.map fun c=>2*c.lines.length+1).sum
set_option maxRecDepth 100000
theorem Qf {n:Int} (h:IntKind.i64.min<=n/\n<=IntKind.i64.max):xB n:=by
 have h1:IntKind.i64.min= -9223372036854775808:=rfl
 have h2:IntKind.i64.max=9223372036854775807:=rfl
 exact ⟨by omega,by omega⟩
theorem yV {c:Chg} (h:VK c):chW c/\ ∀x∈c.over,wf_idk x:=by
 unfold VK at h
 have ho: ∀x∈c.over,wf_idk x:=by
  have h:=h
  repeat (first | exact h | replace h:=h.2)
 refine ⟨⟨Qf (by simp only [h,and_self]),Qf (by simp only [h,and_self]),Qf (by simp only [h,and_self]),Qf (by simp only [h,and_self]),Qf (by simp only [h,and_self]),Qf (by simp only [h,and_self]),fun x hx=>wf_idk_n (ho x hx)⟩,ho⟩
theorem pat_in {a m:ByteArray} {t:Int} {ds:List Dig} {cs:List Chg} {B:Nat} (hB:a.size+1+(m.size+1+(1+((ds.map (bk .dig)).sum+1+((cs.map (bk .chg)).sum+1))))<=B) (hB1:B<=1048576)
  (ht:IntKind.i64.min<=t/\t<=IntKind.i64.max) (hd: ∀d∈ds,wfE .dig d) (hc: ∀c∈cs,wfE .chg c):
  xP a m t ds cs/\(cs.map qA).sum<=2097152/\(∀d∈ds,wf_dig d)/\(∀c∈cs, ∀x∈c.over,wf_idk x)/\ ∀c∈cs,c.lines.length<=4194304:=by
 have e:(cs.map (bk .chg)).sum=(cs.map qA).sum:=rfl
 have hl:=yk (bk .dig) 1 ds fun d _=>by show 1<=bk_dig d;unfold bk_dig;omega
 have h2:(cs.map qA).sum<=2097152:=by omega
 refine ⟨⟨Qf ht,by omega,by omega,by omega,by omega,fun c h=>(yV (hc c h)).1⟩,h2,hd,fun c h=>(yV (hc c h)).2,fun c h=> ?_⟩
 have:=ZN qA h
 exact (jf (show XI c by unfold XI;omega)).2.2.1
set_option maxRecDepth 100000
def xG (l:List Sx):Sx:=l.headD sx0
abbrev Q4:=List Sx×Bool
def JW (r:Q4):Q4:=(r.1.tail,r.1.isEmpty||r.2)
def qw {α:Type} (f:Sx->α×Bool) (r:Q4):α×Q4:=((f (xG r.1)).1,(JW r).1,(JW r).2||(f (xG r.1)).2)
def qqb (s:ByteArray):Dig:=⟨qH s 0 0,qH s 1 0,qH s 2 0,qH s 3 0,qH s 4 0,qH s 5 0,qH s 6 0,qH s 7 0,qH s 8 0,qH s 9 0,qH s 10 0,qH s 11 0,qH s 12 0,qH s 13 0,qH s 14 0,qH s 15 0,qH s 16 0,qH s 17 0,qH s 18 0,qH s 19 0,qH s 20 0,qH s 21 0,qH s 22 0,qH s 23 0,qH s 24 0,qH s 25 0,qH s 26 0,qH s 27 0,qH s 28 0,qH s 29 0,qH s 30 0,qH s 31 0⟩
def zG (x:Sx):ByteArray×Bool:=(x.atom,false)
def zp (x:Sx):Int×Bool:=((nmG x).1, !decide ((nmG x).2=0))
def qT (x:Sx):List Sx×Bool:=(x.list,false)
def Yf (s:ByteArray):Bool:=bif !decide (s=(⟨#[]⟩:ByteArray))then !decide ((s.size:Int)=32)else false
theorem badS_nil:Yf ⟨#[]⟩=false:=by unfold Yf;rw [decide_eq_true rfl];rfl
def Zi (x:Sx):Dig×Bool:=(qqb x.atom,Yf x.atom)
def zf (x:Sx):Idn×Bool:=(⟨(qw Zi (x.list,false)).1,(qw zp (qw Zi (x.list,false)).2).1⟩,(qw zp (qw Zi (x.list,false)).2).2.2)
def XS (x:Sx):List Idn×Bool:=(x.list.map fun y=>(zf y).1,x.list.any fun y=>(zf y).2)
def lPx (x:Sx):List ByteArray×Bool:=(x.list.map fun y=>y.atom,false)
def cP3 (c:Chg) (r:Q4):Chg×Bool:=
 bif decide (c.kind=5)then (⟨c.kind,c.file,c.typ,c.parent,c.name,c.mode,c.data,c.after,c.before,(qw lPx r).1,c.over⟩,(qw lPx r).2.2)
 else bif decide (2<=c.kind)then (⟨c.kind,c.file,c.typ,c.parent,c.name,c.mode,c.data,c.after,c.before,c.lines,(qw XS r).1⟩,(qw XS r).2.2)else (c,r.2)
def cP2 (c:Chg) (r:Q4):Chg×Bool:=
 bif decide (c.kind=1)then cP3 ⟨c.kind,c.file,(qw zp r).1,c.parent,c.name,c.mode,c.data,c.after,c.before,c.lines,c.over⟩ (qw zp r).2
 else bif decide (c.kind=2)then cP3 ⟨c.kind,c.file,c.typ,(qw zf r).1,(qw zG (qw zf r).2).1,c.mode,c.data,c.after,c.before,c.lines,c.over⟩ (qw zG (qw zf r).2).2
 else bif decide (c.kind=3)then cP3 ⟨c.kind,c.file,c.typ,c.parent,c.name,(qw zp r).1,c.data,c.after,c.before,c.lines,c.over⟩ (qw zp r).2
 else bif decide (c.kind=4)then cP3 ⟨c.kind,c.file,c.typ,c.parent,c.name,c.mode,(qw zG r).1,c.after,c.before,c.lines,c.over⟩ (qw zG r).2
 else bif (bif decide (c.kind=5)then true else decide (c.kind=6))then cP3 ⟨c.kind,c.file,c.typ,c.parent,c.name,c.mode,c.data,(qw zf r).1,(qw zf (qw zf r).2).1,c.lines,c.over⟩ (qw zf (qw zf r).2).2
 else cP3 c r
def cP1 (c:Chg) (r:Q4):Chg×Bool:=
 bif (bif decide (2<=c.kind)then decide (c.kind<=6)else false)then cP2 ⟨c.kind,(qw zf r).1,c.typ,c.parent,c.name,c.mode,c.data,c.after,c.before,c.lines,c.over⟩ (qw zf r).2 else cP2 c r
def qL (k:Int):Chg:=⟨k,iz,0,iz,⟨#[]⟩,0,⟨#[]⟩,iz,iz,[],[]⟩
def JL (x:Sx):Chg×Bool:=cP1 (qL (qw zp (x.list,false)).1) (qw zp (x.list,false)).2
def zQ {α:Type} (f:Sx->α×Bool):List Sx->List α×Bool
 | []=>([],false)
 | x::l=>bif (f x).2 then ([(f x).1],true)else ((f x).1::(zQ f l).1,(zQ f l).2)
structure Rp where
 a:ByteArray
 m:ByteArray
 t:Int
 ds:List Dig
 cs:List Chg
 bad:Bool
def kr (l:List Sx):Rp:=
 let r0:=qw zG (l,false)
 let r1:=qw zG r0.2
 let r2:=qw zG r1.2
 let r3:=qw zp r2.2
 let r4:=qw qT r3.2
 let r5:=qw qT r4.2
 ⟨r1.1,r2.1,r3.1,r4.1.map fun x=>(Zi x).1,(zQ JL r5.1).1,r5.2.2||((r4.1.any fun x=>(Zi x).2)||(zQ JL r5.1).2)⟩
def Vq (x:Sx):ByteArray×Bool:=(x.atom,x.isList)
def liRx (x:Sx):List Sx×Bool:=(x.list, !x.isList)
def dRx (x:Sx):Dig×Bool:=bif Yf x.atom then (dz,true)else (qqb x.atom,x.isList)
def jp (x:Sx):Idn×Bool:=(⟨(qw dRx (x.list,false)).1,(qw zp (qw dRx (x.list,false)).2).1⟩, !x.isList||((qw zp (qw dRx (x.list,false)).2).2.2||decide (0< (((qw zp (qw dRx (x.list,false)).2).2.1.length:Nat):Int))))
def oRx (x:Sx):List Idn×Bool:=((zQ jp x.list).1, !x.isList||(zQ jp x.list).2)
def lRx (x:Sx):List ByteArray×Bool:=((zQ Vq x.list).1, !x.isList||(zQ Vq x.list).2)
def YJ (r:Q4):Bool:=r.2||decide (0< ((r.1.length:Nat):Int))
def cR3 (c:Chg) (r:Q4):Chg×Bool:=
 bif decide (c.kind=5)then (⟨c.kind,c.file,c.typ,c.parent,c.name,c.mode,c.data,c.after,c.before,(qw lRx r).1,c.over⟩,YJ (qw lRx r).2)
 else bif !decide (c.kind=1)then (⟨c.kind,c.file,c.typ,c.parent,c.name,c.mode,c.data,c.after,c.before,c.lines,(qw oRx r).1⟩,YJ (qw oRx r).2)else (c,YJ r)
def cR2 (c:Chg) (r:Q4):Chg×Bool:=
 bif decide (c.kind=1)then cR3 ⟨c.kind,c.file,(qw zp r).1,c.parent,c.name,c.mode,c.data,c.after,c.before,c.lines,c.over⟩ (qw zp r).2
 else bif decide (c.kind=2)then cR3 ⟨c.kind,c.file,c.typ,(qw jp r).1,(qw Vq (qw jp r).2).1,c.mode,c.data,c.after,c.before,c.lines,c.over⟩ (qw Vq (qw jp r).2).2
 else bif decide (c.kind=3)then cR3 ⟨c.kind,c.file,c.typ,c.parent,c.name,(qw zp r).1,c.data,c.after,c.before,c.lines,c.over⟩ (qw zp r).2
 else bif decide (c.kind=4)then cR3 ⟨c.kind,c.file,c.typ,c.parent,c.name,c.mode,(qw Vq r).1,c.after,c.before,c.lines,c.over⟩ (qw Vq r).2
 else bif (bif decide (c.kind=5)then true else decide (c.kind=6))then cR3 ⟨c.kind,c.file,c.typ,c.parent,c.name,c.mode,c.data,(qw jp r).1,(qw jp (qw jp r).2).1,c.lines,c.over⟩ (qw jp (qw jp r).2).2
 else cR3 c r
def XV (c:Chg) (r:Q4):Chg×Bool:=
 bif (bif decide (2<=c.kind)then decide (c.kind<=6)else false)then cR2 ⟨c.kind,(qw jp r).1,c.typ,c.parent,c.name,c.mode,c.data,c.after,c.before,c.lines,c.over⟩ (qw jp r).2 else cR2 c r
def cRx (x:Sx):Chg×Bool:=((XV (qL (qw zp (x.list,false)).1) (qw zp (x.list,false)).2).1, !x.isList||(XV (qL (qw zp (x.list,false)).1) (qw zp (x.list,false)).2).2)
def rRx (l:List Sx):Rp:=
 let r0:=qw Vq (l,false)
 let r1:=qw Vq r0.2
 let r2:=qw Vq r1.2
 let r3:=qw zp r2.2
 let r4:=qw liRx r3.2
 let r5:=qw liRx r4.2
 ⟨r1.1,r2.1,r3.1,(zQ dRx r4.1).1,(zQ cRx r5.1).1,r5.2.2||((zQ dRx r4.1).2||(zQ cRx r5.1).2)⟩
structure Dr where
 a:ByteArray
 m:ByteArray
 t:Int
 ds:List Dig
 cs:List Chg
 e:Int
def drZ:Dr:=⟨⟨#[]⟩,⟨#[]⟩,0,[],[],12⟩
def Jg (s:ByteArray) (p:Rp) (x:ByteArray×Int):Dr:=bif p.bad then drZ else bif !decide (x.2=0)then drZ else bif !decide (x.1=s)then drZ else ⟨p.a,p.m,p.t,p.ds,p.cs,0⟩
theorem j4 {α:Type} {f:Sx->α×Bool} (hf: ∀x,(f x).2=false) (r:Q4):(qw f r).2=JW r:=by
 refine Prod.ext rfl ?_
 show ((JW r).2||(f (xG r.1)).2)=_
 rw [hf,Bool.or_false]
theorem orBt {J:Bool->Prop} {a b:Bool} (h:J (a||b)):bif a then J true else J b:=by cases a<;>exact h
theorem or3t {J:Bool->Prop} {a c x y:Bool} (h:J (a||bif c then x else y)):bif a then J true else (bif c then J x else J y):=by cases a<;>cases c<;>exact h
theorem or4t {J:Bool->Prop} {a b c:Bool} (h:J (a||(b||c))):bif a then J true else (bif b then J true else J c):=by cases a<;>cases b<;>exact h
theorem qX.reads {α γ:Type} {body:(γ->Prop)->γ->Prop} {g:γ} (f:Sx->α×Bool) (S:List Sx->Bool->List α->γ) (I:List Sx->List α->Prop) (Q:List α×Bool->Prop) (L:List Sx) (hg:g=S L false []) (h0:I L [])
  (hI: ∀x l out,I (x::l) out->I l (out++[(f x).1]))
  (step: ∀(W:γ->Prop) x l b out,I (x::l) out->W (S l (b||(f x).2) (out++[(f x).1]))->body W (S (x::l) b out))
  (last: ∀(W:γ->Prop) b out,Q (out,b)->body W (S [] b out)) (h:Q (L.map (fun x=>(f x).1),L.any fun x=>(f x).2)):qX body g:=by
 have key: ∀(l:List Sx) b out,I l out->Q (out++l.map (fun x=>(f x).1),b||l.any fun x=>(f x).2)->kj body (l.length+1) (S l b out):=by
  intro l
  induction l with
  | nil=>intro b out _ hq;exact last _ b out (by simpa using hq)
  | cons x l ih=>
   intro b out hi hq
   refine step _ x l b out hi (ih _ _ (hI x l out hi) ?_)
   rw [List.map_cons,List.any_cons] at hq
   rw [List.append_assoc,Bool.or_assoc]
   exact hq
 subst hg
 exact ⟨L.length+1,key L false [] h0 (by simpa using h)⟩
theorem qX.readsB {α γ:Type} {body:(γ->Prop)->γ->Prop} {g:γ} (f:Sx->α×Bool) (S:List Sx->Bool->List α->γ) (I:List Sx->List α->Prop) (Q:List α×Bool->Prop) (L:List Sx) (hg:g=S L false []) (h0:I L [])
  (hI: ∀x l out,I (x::l) out->I l (out++[(f x).1]))
  (step: ∀(W:γ->Prop) x l out,I (x::l) out->W (S l (f x).2 (out++[(f x).1]))->body W (S (x::l) false out))
  (bad: ∀(W:γ->Prop) l out,Q (out,true)->body W (S l true out)) (last: ∀(W:γ->Prop) out,Q (out,false)->body W (S [] false out)) (h:Q (zQ f L)):qX body g:=by
 have key: ∀(l:List Sx) out,I l out->Q (out++(zQ f l).1,(zQ f l).2)->kj body (l.length+2) (S l false out):=by
  intro l
  induction l with
  | nil=>intro out _ hq;exact last _ out (by simpa [zQ] using hq)
  | cons x l ih=>
   intro out hi hq
   refine step _ x l out hi ?_
   rw [zQ] at hq
   cases c:(f x).2
   . refine ih _ (hI x l out hi) ?_
     rw [c,cond_false] at hq
     rw [List.append_assoc]
     exact hq
   . refine bad _ l _ ?_
     rw [c,cond_true] at hq
     exact hq
 subst hg
 exact ⟨L.length+2,key L [] h0 (by simpa using h)⟩
theorem XN (x:Sx):xx x=x.atom.size+3+qu x.list:=by cases x;rfl
theorem ku: ∀l:List Sx,3*l.length<=qu l
 | []=>Nat.zero_le _
 | x::l=>by have:=XN x;have:=ku l;simp only [qu,List.length_cons];omega
theorem bk_hd {l:List Sx} (h:qu l<=j6):xx (xG l)<=j6:=by
 cases l with
 | nil=>show xx sx0<=j6;rw [XN];decide
 | cons x l=>simp only [qu] at h;show xx x<=j6;omega
theorem vw {l:List Sx} (h:qu l<=j6):qu l.tail<=j6:=by
 cases l with
 | nil=>exact h
 | cons x l=>simp only [qu] at h;show qu l<=j6;omega
theorem Jl {l:List Sx} (h:qu l<=j6):qu (xG l).list<=j6:=by
 have:=bk_hd h
 rw [XN] at this
 omega
theorem qf {α:Type} {f:Sx->α×Bool} {x:Sx} {l:List Sx} {v:α} (h:f x=(v,false)):qw f (x::l,false)=(v,l,false):=by
 show ((f x).1,l,(f x).2)=_
 rw [h]
theorem wC {α:Type} {f:Sx->α×Bool} {g:α->Sx}: ∀{l:List α},(∀x∈l,f (g x)=(x,false))->zQ f (l.map g)=(l,false)
 | [],_=>rfl
 | x::l,h=>by
  rw [List.map_cons,zQ,h x (List.mem_cons_self ..),wC fun y hy=>h y (List.mem_cons_of_mem x hy)];rfl
theorem map_ok {α:Type} {f:Sx->α×Bool} {g:α->Sx} {l:List α} (h: ∀x∈l,f (g x)=(x,false)):((l.map g).map fun x=>(f x).1)=l/\((l.map g).any fun x=>(f x).2)=false:=by
 induction l with
 | nil=>exact ⟨rfl,rfl⟩
 | cons x l ih=>
  obtain ⟨h1,h2⟩:=ih fun y hy=>h y (List.mem_cons_of_mem x hy)
  have h3:=h x (List.mem_cons_self ..)
  exact ⟨by rw [List.map_cons,List.map_cons,h1,h3],by rw [List.map_cons,List.any_cons,h2,h3];rfl⟩
def Jw (n:Int):Prop:= -1099511627776<=n/\n<=1099511627776
theorem ju {n:Int} (h:Jw n):zp (qC n)=(n,false):=by
 obtain ⟨h1,h2⟩:=h
 have hn: ¬(n< -1099511627776∨1099511627776<n):=by omega
 have e:qC n=⟨false,wg n,[]⟩:=by unfold qC ki;rw [if_neg hn]
 have hl:=itoa_len (n:=n) ⟨by omega,by omega⟩
 have e2:nmG ⟨false,wg n,[]⟩=(n,0):=by
  unfold nmG nmB
  rw [ck_atom (by omega),if_pos rfl,if_neg (by simp),if_pos (by rw [Vf];exact can_itoa n),Vf]
  exact num_itoa hn
 unfold zp
 rw [e,e2]
 rfl
set_option maxRecDepth 100000
theorem u8_ints: ∀l:List Int,(∀x∈l,0<=x/\x<=255)->(l.map fun n=>((UInt8.ofNat n.toNat).toNat:Int))=l
 | [],_=>rfl
 | x::l,hl=>by
  have h1:=hl x (List.mem_cons_self ..)
  have e:((UInt8.ofNat x.toNat).toNat:Int)=x:=by rw [UInt8.toNat_ofNat'];omega
  rw [List.map_cons,e,u8_ints l fun y hy=>hl y (List.mem_cons_of_mem x hy)]
theorem Y0 {d:Dig} (h:wf_dig d):qqb (vR d)=d:=by
 refine digL_inj ?_
 have e:xm (qqb (vR d))=(xm d).map fun n=>((UInt8.ofNat n.toNat).toNat:Int):=rfl
 rw [e]
 exact u8_ints _ (digL_u8 h)
theorem digA_nil:qqb ⟨#[]⟩=dz:=rfl
theorem badS_dig (d:Dig):Yf (vR d)=false:=by
 unfold Yf
 rw [JV,decide_eq_true (show ((32:Nat):Int)=32 from rfl)]
 cases !decide (vR d=(⟨#[]⟩:ByteArray))<;>rfl
theorem dPx_atom {d:Dig} (h:wf_dig d):Zi (qY (vR d))=(d,false):=by
 show (qqb (vR d),Yf (vR d))=_
 rw [Y0 h,badS_dig]
theorem dRx_atom {d:Dig} (h:wf_dig d):dRx (qY (vR d))=(d,false):=by
 show (bif Yf (vR d)then (dz,true)else (qqb (vR d),false))=_
 rw [Y0 h,badS_dig];rfl
theorem Wz (d:Dig):d=dz/\Xa d=qY ⟨#[]⟩∨Xa d=qY (vR d):=by
 unfold Xa
 cases e:xb d dz
 . exact .inr rfl
 . exact .inl ⟨by rw [kY] at e;exact of_decide_eq_true e,rfl⟩
theorem dPx_back {d:Dig} (h:wf_dig d):Zi (Xa d)=(d,false):=by
 rcases Wz d with ⟨rfl,e⟩ | e<;>rw [e]
 . show (qqb ⟨#[]⟩,Yf ⟨#[]⟩)=_
   rw [digA_nil,badS_nil]
 . exact dPx_atom h
theorem dRx_back {d:Dig} (h:wf_dig d):dRx (Xa d)=(d,false):=by
 rcases Wz d with ⟨rfl,e⟩ | e<;>rw [e]
 . show (bif Yf ⟨#[]⟩then (dz,true)else (qqb ⟨#[]⟩,false))=_
   rw [digA_nil,badS_nil];rfl
 . exact dRx_atom h
def QK (x:Idn):Prop:=wf_dig x.patch/\Jw x.n
theorem zJ:QK iz:=by
 refine ⟨?_,by decide,by decide⟩
 unfold wf_dig
 simp only [iz,dz]
 decide
theorem jX {x:Idn} (h:QK x):zf (qI x)=(x,false):=by
 have e1:qw Zi ((qI x).list,false)=(x.patch,[qC x.n],false):=qf (dPx_back h.1)
 have e2:qw zp ([qC x.n],false)=(x.n,[],false):=qf (ju h.2)
 unfold zf
 rw [e1]
 dsimp only
 rw [e2]
theorem jQ {x:Idn} (h:QK x):jp (qI x)=(x,false):=by
 have e1:qw dRx ((qI x).list,false)=(x.patch,[qC x.n],false):=qf (dRx_back h.1)
 have e2:qw zp ([qC x.n],false)=(x.n,[],false):=qf (ju h.2)
 unfold jp
 rw [e1]
 dsimp only
 rw [e2]
 rfl
theorem kf {l:List Idn} (h: ∀x∈l,QK x):XS (qK l)=(l,false):=by
 obtain ⟨h1,h2⟩:=map_ok (f:=zf) (g:=qI) fun x hx=>jX (h x hx)
 exact Prod.ext h1 h2
theorem kz {l:List Idn} (h: ∀x∈l,QK x):oRx (qK l)=(l,false):=by
 have:=wC (f:=jp) (g:=qI) fun x hx=>jQ (h x hx)
 show ((zQ jp (l.map qI)).1, !true||(zQ jp (l.map qI)).2)=_
 rw [this];rfl
theorem lPx_back (l:List ByteArray):lPx (zY l)=(l,false):=by
 obtain ⟨h1, -⟩:=map_ok (f:=zG) (g:=qY) (l:=l) fun _ _=>rfl
 exact Prod.ext h1 rfl
theorem lRx_back (l:List ByteArray):lRx (zY l)=(l,false):=by
 have:=wC (f:=Vq) (g:=qY) (l:=l) fun _ _=>rfl
 show ((zQ Vq (l.map qY)).1, !true||(zQ Vq (l.map qY)).2)=_
 rw [this];rfl
theorem cP_1 (r:Q4):cP1 (qL 1) r=(⟨1,iz,(qw zp r).1,iz,⟨#[]⟩,0,⟨#[]⟩,iz,iz,[],[]⟩,(qw zp r).2.2):=rfl
theorem cP_2 (r:Q4):cP1 (qL 2) r=(⟨2,(qw zf r).1,0,(qw zf (qw zf r).2).1,(qw zG (qw zf (qw zf r).2).2).1,0,⟨#[]⟩,iz,iz,[],(qw XS (qw zG (qw zf (qw zf r).2).2).2).1⟩,(qw XS (qw zG (qw zf (qw zf r).2).2).2).2.2):=rfl
theorem cP_3 (r:Q4):cP1 (qL 3) r=(⟨3,(qw zf r).1,0,iz,⟨#[]⟩,(qw zp (qw zf r).2).1,⟨#[]⟩,iz,iz,[],(qw XS (qw zp (qw zf r).2).2).1⟩,(qw XS (qw zp (qw zf r).2).2).2.2):=rfl
theorem cP_4 (r:Q4):cP1 (qL 4) r=(⟨4,(qw zf r).1,0,iz,⟨#[]⟩,0,(qw zG (qw zf r).2).1,iz,iz,[],(qw XS (qw zG (qw zf r).2).2).1⟩,(qw XS (qw zG (qw zf r).2).2).2.2):=rfl
theorem cP_5 (r:Q4):cP1 (qL 5) r=(⟨5,(qw zf r).1,0,iz,⟨#[]⟩,0,⟨#[]⟩,(qw zf (qw zf r).2).1,(qw zf (qw zf (qw zf r).2).2).1,(qw lPx (qw zf (qw zf (qw zf r).2).2).2).1,[]⟩,(qw lPx (qw zf (qw zf (qw zf r).2).2).2).2.2):=rfl
theorem cP_6 (r:Q4):cP1 (qL 6) r=(⟨6,(qw zf r).1,0,iz,⟨#[]⟩,0,⟨#[]⟩,(qw zf (qw zf r).2).1,(qw zf (qw zf (qw zf r).2).2).1,[],(qw XS (qw zf (qw zf (qw zf r).2).2).2).1⟩,(qw XS (qw zf (qw zf (qw zf r).2).2).2).2.2):=rfl
theorem cP_7 (r:Q4):cP1 (qL 7) r=(⟨7,iz,0,iz,⟨#[]⟩,0,⟨#[]⟩,iz,iz,[],(qw XS r).1⟩,(qw XS r).2.2):=rfl
theorem cR_1 (r:Q4):XV (qL 1) r=(⟨1,iz,(qw zp r).1,iz,⟨#[]⟩,0,⟨#[]⟩,iz,iz,[],[]⟩,YJ (qw zp r).2):=rfl
theorem cR_2 (r:Q4):XV (qL 2) r=(⟨2,(qw jp r).1,0,(qw jp (qw jp r).2).1,(qw Vq (qw jp (qw jp r).2).2).1,0,⟨#[]⟩,iz,iz,[],(qw oRx (qw Vq (qw jp (qw jp r).2).2).2).1⟩,YJ (qw oRx (qw Vq (qw jp (qw jp r).2).2).2).2):=rfl
theorem cR_3 (r:Q4):XV (qL 3) r=(⟨3,(qw jp r).1,0,iz,⟨#[]⟩,(qw zp (qw jp r).2).1,⟨#[]⟩,iz,iz,[],(qw oRx (qw zp (qw jp r).2).2).1⟩,YJ (qw oRx (qw zp (qw jp r).2).2).2):=rfl
theorem cR_4 (r:Q4):XV (qL 4) r=(⟨4,(qw jp r).1,0,iz,⟨#[]⟩,0,(qw Vq (qw jp r).2).1,iz,iz,[],(qw oRx (qw Vq (qw jp r).2).2).1⟩,YJ (qw oRx (qw Vq (qw jp r).2).2).2):=rfl
theorem cR_5 (r:Q4):XV (qL 5) r=(⟨5,(qw jp r).1,0,iz,⟨#[]⟩,0,⟨#[]⟩,(qw jp (qw jp r).2).1,(qw jp (qw jp (qw jp r).2).2).1,(qw lRx (qw jp (qw jp (qw jp r).2).2).2).1,[]⟩,YJ (qw lRx (qw jp (qw jp (qw jp r).2).2).2).2):=rfl
theorem cR_6 (r:Q4):XV (qL 6) r=(⟨6,(qw jp r).1,0,iz,⟨#[]⟩,0,⟨#[]⟩,(qw jp (qw jp r).2).1,(qw jp (qw jp (qw jp r).2).2).1,[],(qw oRx (qw jp (qw jp (qw jp r).2).2).2).1⟩,YJ (qw oRx (qw jp (qw jp (qw jp r).2).2).2).2):=rfl
theorem cR_7 (r:Q4):XV (qL 7) r=(⟨7,iz,0,iz,⟨#[]⟩,0,⟨#[]⟩,iz,iz,[],(qw oRx r).1⟩,YJ (qw oRx r).2):=rfl
theorem yj {c:Chg} (h:VX c=true):c.file=iz/\c.typ=0/\c.parent=iz/\c.name=⟨#[]⟩/\c.mode=0/\c.data=⟨#[]⟩/\c.after=iz/\c.before=iz/\c.lines=[]/\c.over=[]:=by
 unfold VX at h
 simp only [Bool.cond_false_right,Bool.and_eq_true,decide_eq_true_eq,vZ] at h
 obtain ⟨h0,h1,h2,h3,h4,h5,h6,h7,h8,h9⟩:=h
 exact ⟨h0,h1,h2,h3,h4,h5,h6,h7,List.eq_nil_of_length_eq_zero (by omega),List.eq_nil_of_length_eq_zero (by omega)⟩
def KO (c:Chg):Prop:=Jw c.typ/\Jw c.mode/\QK c.file/\QK c.parent/\QK c.after/\QK c.before/\ ∀x∈c.over,QK x
theorem cPx_back {c:Chg} (hk:j8 c) (ht:zO c=true) (hg:KO c):JL (QQ c)=(c,false):=by
 rw [X3] at ht
 have p:=yj ht
 obtain ⟨kind,file,typ,parent,name,mode,data,after,before,lines,over⟩:=c
 obtain ⟨g1,g2,g3,g4,g5,g6,g7⟩:=hg
 have hk1:(1:Int)<=kind/\kind<=7:=hk
 have e0: ∀l,qw zp (qC kind::l,false)=(kind,l,false):=fun l=>qf (ju ⟨by omega,by omega⟩)
 have:kind=1∨kind=2∨kind=3∨kind=4∨kind=5∨kind=6∨kind=7:=by omega
 show cP1 (qL (qw zp (qC kind::zr kind.toNat _,false)).1) (qw zp (qC kind::zr kind.toNat _,false)).2=_
 rw [e0]
 dsimp only
 rcases this with rfl | rfl | rfl | rfl | rfl | rfl | rfl
 . have q:file=iz:=p.1;subst q
   have q:parent=iz:=p.2.2.1;subst q
   have q:name=⟨#[]⟩:=p.2.2.2.1;subst q
   have q:mode=0:=p.2.2.2.2.1;subst q
   have q:data=⟨#[]⟩:=p.2.2.2.2.2.1;subst q
   have q:after=iz:=p.2.2.2.2.2.2.1;subst q
   have q:before=iz:=p.2.2.2.2.2.2.2.1;subst q
   have q:lines=[]:=p.2.2.2.2.2.2.2.2.1;subst q
   have q:over=[]:=p.2.2.2.2.2.2.2.2.2;subst q
   have e1:qw zp (qC typ::[],false)=(typ,[],false):=qf (ju g1)
   show cP1 (qL 1) ([qC typ],false)=_
   rw [cP_1,e1]
 . have q:typ=0:=p.2.1;subst q
   have q:mode=0:=p.2.2.2.2.1;subst q
   have q:data=⟨#[]⟩:=p.2.2.2.2.2.1;subst q
   have q:after=iz:=p.2.2.2.2.2.2.1;subst q
   have q:before=iz:=p.2.2.2.2.2.2.2.1;subst q
   have q:lines=[]:=p.2.2.2.2.2.2.2.2.1;subst q
   have e1:qw zf (qI file::[qI parent,qY name,qK over],false)=(file,[qI parent,qY name,qK over],false):=qf (jX g3)
   have e2:qw zf (qI parent::[qY name,qK over],false)=(parent,[qY name,qK over],false):=qf (jX g4)
   have e3:qw zG (qY name::[qK over],false)=(name,[qK over],false):=qf (rfl)
   have e4:qw XS (qK over::[],false)=(over,[],false):=qf (kf g7)
   show cP1 (qL 2) ([qI file,qI parent,qY name,qK over],false)=_
   rw [cP_2,e1,e2,e3,e4]
 . have q:typ=0:=p.2.1;subst q
   have q:parent=iz:=p.2.2.1;subst q
   have q:name=⟨#[]⟩:=p.2.2.2.1;subst q
   have q:data=⟨#[]⟩:=p.2.2.2.2.2.1;subst q
   have q:after=iz:=p.2.2.2.2.2.2.1;subst q
   have q:before=iz:=p.2.2.2.2.2.2.2.1;subst q
   have q:lines=[]:=p.2.2.2.2.2.2.2.2.1;subst q
   have e1:qw zf (qI file::[qC mode,qK over],false)=(file,[qC mode,qK over],false):=qf (jX g3)
   have e2:qw zp (qC mode::[qK over],false)=(mode,[qK over],false):=qf (ju g2)
   have e3:qw XS (qK over::[],false)=(over,[],false):=qf (kf g7)
   show cP1 (qL 3) ([qI file,qC mode,qK over],false)=_
   rw [cP_3,e1,e2,e3]
 . have q:typ=0:=p.2.1;subst q
   have q:parent=iz:=p.2.2.1;subst q
   have q:name=⟨#[]⟩:=p.2.2.2.1;subst q
   have q:mode=0:=p.2.2.2.2.1;subst q
   have q:after=iz:=p.2.2.2.2.2.2.1;subst q
   have q:before=iz:=p.2.2.2.2.2.2.2.1;subst q
   have q:lines=[]:=p.2.2.2.2.2.2.2.2.1;subst q
   have e1:qw zf (qI file::[qY data,qK over],false)=(file,[qY data,qK over],false):=qf (jX g3)
   have e2:qw zG (qY data::[qK over],false)=(data,[qK over],false):=qf (rfl)
   have e3:qw XS (qK over::[],false)=(over,[],false):=qf (kf g7)
   show cP1 (qL 4) ([qI file,qY data,qK over],false)=_
   rw [cP_4,e1,e2,e3]
 . have q:typ=0:=p.2.1;subst q
   have q:parent=iz:=p.2.2.1;subst q
   have q:name=⟨#[]⟩:=p.2.2.2.1;subst q
   have q:mode=0:=p.2.2.2.2.1;subst q
   have q:data=⟨#[]⟩:=p.2.2.2.2.2.1;subst q
   have q:over=[]:=p.2.2.2.2.2.2.2.2.2;subst q
   have e1:qw zf (qI file::[qI after,qI before,zY lines],false)=(file,[qI after,qI before,zY lines],false):=qf (jX g3)
   have e2:qw zf (qI after::[qI before,zY lines],false)=(after,[qI before,zY lines],false):=qf (jX g5)
   have e3:qw zf (qI before::[zY lines],false)=(before,[zY lines],false):=qf (jX g6)
   have e4:qw lPx (zY lines::[],false)=(lines,[],false):=qf (lPx_back lines)
   show cP1 (qL 5) ([qI file,qI after,qI before,zY lines],false)=_
   rw [cP_5,e1,e2,e3,e4]
 . have q:typ=0:=p.2.1;subst q
   have q:parent=iz:=p.2.2.1;subst q
   have q:name=⟨#[]⟩:=p.2.2.2.1;subst q
   have q:mode=0:=p.2.2.2.2.1;subst q
   have q:data=⟨#[]⟩:=p.2.2.2.2.2.1;subst q
   have q:lines=[]:=p.2.2.2.2.2.2.2.2.1;subst q
   have e1:qw zf (qI file::[qI after,qI before,qK over],false)=(file,[qI after,qI before,qK over],false):=qf (jX g3)
   have e2:qw zf (qI after::[qI before,qK over],false)=(after,[qI before,qK over],false):=qf (jX g5)
   have e3:qw zf (qI before::[qK over],false)=(before,[qK over],false):=qf (jX g6)
   have e4:qw XS (qK over::[],false)=(over,[],false):=qf (kf g7)
   show cP1 (qL 6) ([qI file,qI after,qI before,qK over],false)=_
   rw [cP_6,e1,e2,e3,e4]
 . have q:file=iz:=p.1;subst q
   have q:typ=0:=p.2.1;subst q
   have q:parent=iz:=p.2.2.1;subst q
   have q:name=⟨#[]⟩:=p.2.2.2.1;subst q
   have q:mode=0:=p.2.2.2.2.1;subst q
   have q:data=⟨#[]⟩:=p.2.2.2.2.2.1;subst q
   have q:after=iz:=p.2.2.2.2.2.2.1;subst q
   have q:before=iz:=p.2.2.2.2.2.2.2.1;subst q
   have q:lines=[]:=p.2.2.2.2.2.2.2.2.1;subst q
   have e1:qw XS (qK over::[],false)=(over,[],false):=qf (kf g7)
   show cP1 (qL 7) ([qK over],false)=_
   rw [cP_7,e1]
theorem cRx_back {c:Chg} (hk:j8 c) (ht:zO c=true) (hg:KO c):cRx (QQ c)=(c,false):=by
 rw [X3] at ht
 have p:=yj ht
 obtain ⟨kind,file,typ,parent,name,mode,data,after,before,lines,over⟩:=c
 obtain ⟨g1,g2,g3,g4,g5,g6,g7⟩:=hg
 have hk1:(1:Int)<=kind/\kind<=7:=hk
 have e0: ∀l,qw zp (qC kind::l,false)=(kind,l,false):=fun l=>qf (ju ⟨by omega,by omega⟩)
 have:kind=1∨kind=2∨kind=3∨kind=4∨kind=5∨kind=6∨kind=7:=by omega
 show ((XV (qL (qw zp (qC kind::zr kind.toNat _,false)).1) (qw zp (qC kind::zr kind.toNat _,false)).2).1, !true||(XV (qL (qw zp (qC kind::zr kind.toNat _,false)).1) (qw zp (qC kind::zr kind.toNat _,false)).2).2)=_
 rw [e0]
 dsimp only
 rcases this with rfl | rfl | rfl | rfl | rfl | rfl | rfl
 . have q:file=iz:=p.1;subst q
   have q:parent=iz:=p.2.2.1;subst q
   have q:name=⟨#[]⟩:=p.2.2.2.1;subst q
   have q:mode=0:=p.2.2.2.2.1;subst q
   have q:data=⟨#[]⟩:=p.2.2.2.2.2.1;subst q
   have q:after=iz:=p.2.2.2.2.2.2.1;subst q
   have q:before=iz:=p.2.2.2.2.2.2.2.1;subst q
   have q:lines=[]:=p.2.2.2.2.2.2.2.2.1;subst q
   have q:over=[]:=p.2.2.2.2.2.2.2.2.2;subst q
   have e1:qw zp (qC typ::[],false)=(typ,[],false):=qf (ju g1)
   show ((XV (qL 1) ([qC typ],false)).1, !true||(XV (qL 1) ([qC typ],false)).2)=_
   rw [cR_1,e1];rfl
 . have q:typ=0:=p.2.1;subst q
   have q:mode=0:=p.2.2.2.2.1;subst q
   have q:data=⟨#[]⟩:=p.2.2.2.2.2.1;subst q
   have q:after=iz:=p.2.2.2.2.2.2.1;subst q
   have q:before=iz:=p.2.2.2.2.2.2.2.1;subst q
   have q:lines=[]:=p.2.2.2.2.2.2.2.2.1;subst q
   have e1:qw jp (qI file::[qI parent,qY name,qK over],false)=(file,[qI parent,qY name,qK over],false):=qf (jQ g3)
   have e2:qw jp (qI parent::[qY name,qK over],false)=(parent,[qY name,qK over],false):=qf (jQ g4)
   have e3:qw Vq (qY name::[qK over],false)=(name,[qK over],false):=qf (rfl)
   have e4:qw oRx (qK over::[],false)=(over,[],false):=qf (kz g7)
   show ((XV (qL 2) ([qI file,qI parent,qY name,qK over],false)).1, !true||(XV (qL 2) ([qI file,qI parent,qY name,qK over],false)).2)=_
   rw [cR_2,e1,e2,e3,e4];rfl
 . have q:typ=0:=p.2.1;subst q
   have q:parent=iz:=p.2.2.1;subst q
   have q:name=⟨#[]⟩:=p.2.2.2.1;subst q
   have q:data=⟨#[]⟩:=p.2.2.2.2.2.1;subst q
   have q:after=iz:=p.2.2.2.2.2.2.1;subst q
   have q:before=iz:=p.2.2.2.2.2.2.2.1;subst q
   have q:lines=[]:=p.2.2.2.2.2.2.2.2.1;subst q
   have e1:qw jp (qI file::[qC mode,qK over],false)=(file,[qC mode,qK over],false):=qf (jQ g3)
   have e2:qw zp (qC mode::[qK over],false)=(mode,[qK over],false):=qf (ju g2)
   have e3:qw oRx (qK over::[],false)=(over,[],false):=qf (kz g7)
   show ((XV (qL 3) ([qI file,qC mode,qK over],false)).1, !true||(XV (qL 3) ([qI file,qC mode,qK over],false)).2)=_
   rw [cR_3,e1,e2,e3];rfl
 . have q:typ=0:=p.2.1;subst q
   have q:parent=iz:=p.2.2.1;subst q
   have q:name=⟨#[]⟩:=p.2.2.2.1;subst q
   have q:mode=0:=p.2.2.2.2.1;subst q
   have q:after=iz:=p.2.2.2.2.2.2.1;subst q
   have q:before=iz:=p.2.2.2.2.2.2.2.1;subst q
   have q:lines=[]:=p.2.2.2.2.2.2.2.2.1;subst q
   have e1:qw jp (qI file::[qY data,qK over],false)=(file,[qY data,qK over],false):=qf (jQ g3)
   have e2:qw Vq (qY data::[qK over],false)=(data,[qK over],false):=qf (rfl)
   have e3:qw oRx (qK over::[],false)=(over,[],false):=qf (kz g7)
   show ((XV (qL 4) ([qI file,qY data,qK over],false)).1, !true||(XV (qL 4) ([qI file,qY data,qK over],false)).2)=_
   rw [cR_4,e1,e2,e3];rfl
 . have q:typ=0:=p.2.1;subst q
   have q:parent=iz:=p.2.2.1;subst q
   have q:name=⟨#[]⟩:=p.2.2.2.1;subst q
   have q:mode=0:=p.2.2.2.2.1;subst q
   have q:data=⟨#[]⟩:=p.2.2.2.2.2.1;subst q
   have q:over=[]:=p.2.2.2.2.2.2.2.2.2;subst q
   have e1:qw jp (qI file::[qI after,qI before,zY lines],false)=(file,[qI after,qI before,zY lines],false):=qf (jQ g3)
   have e2:qw jp (qI after::[qI before,zY lines],false)=(after,[qI before,zY lines],false):=qf (jQ g5)
   have e3:qw jp (qI before::[zY lines],false)=(before,[zY lines],false):=qf (jQ g6)
   have e4:qw lRx (zY lines::[],false)=(lines,[],false):=qf (lRx_back lines)
   show ((XV (qL 5) ([qI file,qI after,qI before,zY lines],false)).1, !true||(XV (qL 5) ([qI file,qI after,qI before,zY lines],false)).2)=_
   rw [cR_5,e1,e2,e3,e4];rfl
 . have q:typ=0:=p.2.1;subst q
   have q:parent=iz:=p.2.2.1;subst q
   have q:name=⟨#[]⟩:=p.2.2.2.1;subst q
   have q:mode=0:=p.2.2.2.2.1;subst q
   have q:data=⟨#[]⟩:=p.2.2.2.2.2.1;subst q
   have q:lines=[]:=p.2.2.2.2.2.2.2.2.1;subst q
   have e1:qw jp (qI file::[qI after,qI before,qK over],false)=(file,[qI after,qI before,qK over],false):=qf (jQ g3)
   have e2:qw jp (qI after::[qI before,qK over],false)=(after,[qI before,qK over],false):=qf (jQ g5)
   have e3:qw jp (qI before::[qK over],false)=(before,[qK over],false):=qf (jQ g6)
   have e4:qw oRx (qK over::[],false)=(over,[],false):=qf (kz g7)
   show ((XV (qL 6) ([qI file,qI after,qI before,qK over],false)).1, !true||(XV (qL 6) ([qI file,qI after,qI before,qK over],false)).2)=_
   rw [cR_6,e1,e2,e3,e4];rfl
 . have q:file=iz:=p.1;subst q
   have q:typ=0:=p.2.1;subst q
   have q:parent=iz:=p.2.2.1;subst q
   have q:name=⟨#[]⟩:=p.2.2.2.1;subst q
   have q:mode=0:=p.2.2.2.2.1;subst q
   have q:data=⟨#[]⟩:=p.2.2.2.2.2.1;subst q
   have q:after=iz:=p.2.2.2.2.2.2.1;subst q
   have q:before=iz:=p.2.2.2.2.2.2.2.1;subst q
   have q:lines=[]:=p.2.2.2.2.2.2.2.2.1;subst q
   have e1:qw oRx (qK over::[],false)=(over,[],false):=qf (kz g7)
   show ((XV (qL 7) ([qK over],false)).1, !true||(XV (qL 7) ([qK over],false)).2)=_
   rw [cR_7,e1];rfl
theorem rPx_back {a m:ByteArray} {t:Int} {ds:List Dig} {cs:List Chg} (ht:Jw t) (hd: ∀d∈ds,wf_dig d) (hc: ∀c∈cs,j8 c/\zO c=true/\KO c):kr (zR a m t (zk ds) cs).list=⟨a,m,t,ds,cs,false⟩:=by
 obtain ⟨h1,h2⟩:=map_ok (f:=Zi) (g:=fun d=>qY (vR d)) fun d h=>dPx_atom (hd d h)
 have h3:=wC (f:=JL) (g:=QQ) fun c h=>cPx_back (hc c h).1 (hc c h).2.1 (hc c h).2.2
 have e0:qw zG ((zR a m t (zk ds) cs).list,false)=(Q9,[qY a,qY m,qC t,ql (zk ds),ql (cs.map QQ)],false):=qf rfl
 have e1:qw zG ([qY a,qY m,qC t,ql (zk ds),ql (cs.map QQ)],false)=(a,[qY m,qC t,ql (zk ds),ql (cs.map QQ)],false):=qf rfl
 have e2:qw zG ([qY m,qC t,ql (zk ds),ql (cs.map QQ)],false)=(m,[qC t,ql (zk ds),ql (cs.map QQ)],false):=qf rfl
 have e3:qw zp ([qC t,ql (zk ds),ql (cs.map QQ)],false)=(t,[ql (zk ds),ql (cs.map QQ)],false):=qf (ju ht)
 have e4:qw qT ([ql (zk ds),ql (cs.map QQ)],false)=(zk ds,[ql (cs.map QQ)],false):=qf rfl
 have e5:qw qT ([ql (cs.map QQ)],false)=(cs.map QQ,[],false):=qf rfl
 unfold kr
 simp only [e0,e1,e2,e3,e4,e5]
 unfold zk
 simp only [h1,h2,h3]
 rfl
theorem rRx_back {a m:ByteArray} {t:Int} {ds:List Dig} {cs:List Chg} (ht:Jw t) (hd: ∀d∈ds,wf_dig d) (hc: ∀c∈cs,j8 c/\zO c=true/\KO c):rRx (zR a m t (zk ds) cs).list=⟨a,m,t,ds,cs,false⟩:=by
 have h1:=wC (f:=dRx) (g:=fun d=>qY (vR d)) fun d h=>dRx_atom (hd d h)
 have h3:=wC (f:=cRx) (g:=QQ) fun c h=>cRx_back (hc c h).1 (hc c h).2.1 (hc c h).2.2
 have e0:qw Vq ((zR a m t (zk ds) cs).list,false)=(Q9,[qY a,qY m,qC t,ql (zk ds),ql (cs.map QQ)],false):=qf rfl
 have e1:qw Vq ([qY a,qY m,qC t,ql (zk ds),ql (cs.map QQ)],false)=(a,[qY m,qC t,ql (zk ds),ql (cs.map QQ)],false):=qf rfl
 have e2:qw Vq ([qY m,qC t,ql (zk ds),ql (cs.map QQ)],false)=(m,[qC t,ql (zk ds),ql (cs.map QQ)],false):=qf rfl
 have e3:qw zp ([qC t,ql (zk ds),ql (cs.map QQ)],false)=(t,[ql (zk ds),ql (cs.map QQ)],false):=qf (ju ht)
 have e4:qw liRx ([ql (zk ds),ql (cs.map QQ)],false)=(zk ds,[ql (cs.map QQ)],false):=qf rfl
 have e5:qw liRx ([ql (cs.map QQ)],false)=(cs.map QQ,[],false):=qf rfl
 unfold rRx
 simp only [e0,e1,e2,e3,e4,e5]
 unfold zk
 simp only [h1,h3]
 rfl
def wfG (c:Chg):Prop:=wf_dig c.file.patch/\wf_dig c.parent.patch/\wf_dig c.after.patch/\wf_dig c.before.patch/\ ∀x∈c.over,wf_dig x.patch
theorem wfG_of {c:Chg} (h:VK c):wfG c:=by
 have ho:=(yV h).2
 unfold VK at h
 refine ⟨?_, ?_, ?_, ?_,fun x hx=>wf_idk_dig (ho x hx)⟩<;>(unfold wf_dig;simp only [h,and_self])
theorem refE_in {own:List Atm} {r:Rfn} (h:YW own r=0):Jw r.id.n:=by
 unfold YW at h
 by_cases h1:r.id.n<0
 . rw [decide_eq_true h1] at h;exact absurd h (show (7:Int)≠0 by decide)
 rw [decide_eq_false h1,cond_false] at h
 by_cases h2:100000<=r.id.n
 . rw [decide_eq_true h2] at h
   cases e:(bif Qt r.id then decide ((own.length:Int)<=r.id.n)else false)<;>rw [e] at h<;>exact absurd h (show (7:Int)≠0 by decide)
 . exact ⟨by omega,by omega⟩
theorem refs_in {c:Chg} {own:List Atm} (h:y7 c own=0): ∀r∈z7 c,Jw r.id.n:=by
 unfold y7 at h
 by_cases z:errs ((z7 c).map (YW own))=0
 . intro r hr
   exact refE_in (Y9.1 z _ (List.mem_map.2 ⟨r,hr,rfl⟩))
 . rw [decide_eq_false z] at h;exact absurd h z
theorem VE {f:Chg->Int} {r:Chg->List Atm->Int}: ∀{cs:List Chg} {own:List Atm},(wq f r cs own).2=0-> ∀c∈cs, ∃own,r c own=0
 | [],_,_=>fun c hc=>by cases hc
 | c::l,own,h=>by
  rw [wq] at h
  by_cases z:f c=0
  . rw [decide_eq_true z,Bool.not_true,cond_false] at h
    by_cases y:r c own=0
    . rw [decide_eq_true y,Bool.not_true,cond_false] at h
      intro d hd
      rcases List.mem_cons.1 hd with rfl | hd
      . exact ⟨own,y⟩
      . exact VE h d hd
    . rw [decide_eq_false y] at h;exact absurd h y
  . rw [decide_eq_false z] at h;exact absurd h z
theorem WQ {c:Chg} (h: ∀r∈ZJ c,Jw r.id.n): ∀x∈c.over,Jw x.n:=fun x hx=>h _ (List.mem_map.2 ⟨x,hx,rfl⟩)
theorem good_of {c:Chg} (hk:j8 c) (ht:zO c=true) (hw:wfG c) (h1:Jw c.typ) (h2:Jw c.mode) (hr: ∀r∈z7 c,Jw r.id.n):KO c:=by
 rw [X3] at ht
 have p:=yj ht
 obtain ⟨kind,file,typ,parent,name,mode,data,after,before,lines,over⟩:=c
 obtain ⟨w1,w2,w3,w4,w5⟩:=hw
 have hk1:(1:Int)<=kind/\kind<=7:=hk
 have:kind=1∨kind=2∨kind=3∨kind=4∨kind=5∨kind=6∨kind=7:=by omega
 rcases this with rfl | rfl | rfl | rfl | rfl | rfl | rfl
 . have q:file=iz:=p.1;subst q
   have q:parent=iz:=p.2.2.1;subst q
   have q:after=iz:=p.2.2.2.2.2.2.1;subst q
   have q:before=iz:=p.2.2.2.2.2.2.2.1;subst q
   have q:over=[]:=p.2.2.2.2.2.2.2.2.2;subst q
   exact ⟨h1,h2,zJ,zJ,zJ,zJ,fun x hx=>by cases hx⟩
 . have q:after=iz:=p.2.2.2.2.2.2.1;subst q
   have q:before=iz:=p.2.2.2.2.2.2.2.1;subst q
   have hr: ∀r∈rL12 (⟨2,file,typ,parent,name,mode,data,iz,iz,lines,over⟩:Chg) (!(zw parent ⟨dz, -1⟩)) [⟨file,Fd.file⟩],Jw r.id.n:=hr
   have hf:Jw file.n/\Jw parent.n/\ ∀r∈ZJ (⟨2,file,typ,parent,name,mode,data,iz,iz,lines,over⟩:Chg),Jw r.id.n:=by
    cases e:zw parent ⟨dz, -1⟩
    . rw [e] at hr
      have hr: ∀r∈[⟨file,Fd.file⟩]++[⟨parent,Fd.dir⟩]++ZJ (⟨2,file,typ,parent,name,mode,data,iz,iz,lines,over⟩:Chg),Jw r.id.n:=hr
      exact ⟨hr ⟨file,Fd.file⟩ (by simp),hr ⟨parent,Fd.dir⟩ (by simp),fun r h=>hr r (List.mem_append_right _ h)⟩
    . rw [e] at hr
      have hr: ∀r∈[⟨file,Fd.file⟩]++ZJ (⟨2,file,typ,parent,name,mode,data,iz,iz,lines,over⟩:Chg),Jw r.id.n:=hr
      rw [vZ] at e
      have e:=of_decide_eq_true e;subst e
      exact ⟨hr ⟨file,Fd.file⟩ (by simp),⟨by decide,by decide⟩,fun r h=>hr r (List.mem_append_right _ h)⟩
   exact ⟨h1,h2,⟨w1,hf.1⟩,⟨w2,hf.2.1⟩,zJ,zJ,fun x hx=>⟨w5 x hx,WQ hf.2.2 x hx⟩⟩
 . have q:parent=iz:=p.2.2.1;subst q
   have q:after=iz:=p.2.2.2.2.2.2.1;subst q
   have q:before=iz:=p.2.2.2.2.2.2.2.1;subst q
   have hr: ∀r∈[(⟨file,Fd.file⟩:Rfn)]++ZJ (⟨3,file,typ,iz,name,mode,data,iz,iz,lines,over⟩:Chg),Jw r.id.n:=hr
   exact ⟨h1,h2,⟨w1,hr ⟨file,Fd.file⟩ (by simp)⟩,zJ,zJ,zJ,fun x hx=>⟨w5 x hx,WQ (fun r h=>hr r (List.mem_append_right _ h)) x hx⟩⟩
 . have q:parent=iz:=p.2.2.1;subst q
   have q:after=iz:=p.2.2.2.2.2.2.1;subst q
   have q:before=iz:=p.2.2.2.2.2.2.2.1;subst q
   have hr: ∀r∈[(⟨file,Fd.data⟩:Rfn)]++ZJ (⟨4,file,typ,iz,name,mode,data,iz,iz,lines,over⟩:Chg),Jw r.id.n:=hr
   exact ⟨h1,h2,⟨w1,hr ⟨file,Fd.data⟩ (by simp)⟩,zJ,zJ,zJ,fun x hx=>⟨w5 x hx,WQ (fun r h=>hr r (List.mem_append_right _ h)) x hx⟩⟩
 . have q:parent=iz:=p.2.2.1;subst q
   have q:over=[]:=p.2.2.2.2.2.2.2.2.2;subst q
   have hr: ∀r∈([(⟨file,Fd.txt⟩:Rfn)]++[⟨after,Fd.fin (⟨5,file,typ,iz,name,mode,data,after,before,lines,[]⟩:Chg)⟩])++[⟨before,Fd.fin (⟨5,file,typ,iz,name,mode,data,after,before,lines,[]⟩:Chg)⟩]++ZJ (⟨5,file,typ,iz,name,mode,data,after,before,lines,[]⟩:Chg),Jw r.id.n:=hr
   exact ⟨h1,h2,⟨w1,hr ⟨file,Fd.txt⟩ (by simp)⟩,zJ,⟨w3,hr ⟨after,Fd.fin (⟨5,file,typ,iz,name,mode,data,after,before,lines,[]⟩:Chg)⟩ (by simp)⟩,⟨w4,hr ⟨before,Fd.fin (⟨5,file,typ,iz,name,mode,data,after,before,lines,[]⟩:Chg)⟩ (by simp)⟩,fun x hx=>by cases hx⟩
 . have q:parent=iz:=p.2.2.1;subst q
   have hr: ∀r∈([(⟨file,Fd.txt⟩:Rfn)]++[⟨after,Fd.fin (⟨6,file,typ,iz,name,mode,data,after,before,lines,over⟩:Chg)⟩])++[⟨before,Fd.fin (⟨6,file,typ,iz,name,mode,data,after,before,lines,over⟩:Chg)⟩]++ZJ (⟨6,file,typ,iz,name,mode,data,after,before,lines,over⟩:Chg),Jw r.id.n:=hr
   exact ⟨h1,h2,⟨w1,hr ⟨file,Fd.txt⟩ (by simp)⟩,zJ,⟨w3,hr ⟨after,Fd.fin (⟨6,file,typ,iz,name,mode,data,after,before,lines,over⟩:Chg)⟩ (by simp)⟩,⟨w4,hr ⟨before,Fd.fin (⟨6,file,typ,iz,name,mode,data,after,before,lines,over⟩:Chg)⟩ (by simp)⟩,fun x hx=>⟨w5 x hx,WQ (fun r h=>hr r (List.mem_append_right _ h)) x hx⟩⟩
 . have q:file=iz:=p.1;subst q
   have q:parent=iz:=p.2.2.1;subst q
   have q:after=iz:=p.2.2.2.2.2.2.1;subst q
   have q:before=iz:=p.2.2.2.2.2.2.2.1;subst q
   have hr: ∀r∈[]++ZJ (⟨7,iz,typ,iz,name,mode,data,iz,iz,lines,over⟩:Chg),Jw r.id.n:=hr
   exact ⟨h1,h2,zJ,zJ,zJ,zJ,fun x hx=>⟨w5 x hx,WQ (fun r h=>hr r (List.mem_append_right _ h)) x hx⟩⟩
theorem typ_zero {c:Chg} (hk:j8 c) (h:zO c=true) (h1:c.kind≠1):c.typ=0:=by
 rw [X3] at h
 have p:=yj h
 obtain ⟨kind,file,typ,parent,name,mode,data,after,before,lines,over⟩:=c
 have hk1:(1:Int)<=kind/\kind<=7:=hk
 have:kind=1∨kind=2∨kind=3∨kind=4∨kind=5∨kind=6∨kind=7:=by omega
 rcases this with rfl | rfl | rfl | rfl | rfl | rfl | rfl
 . exact absurd rfl h1
 all_goals exact p.2.1
theorem fields_nums {c:Chg} (h:zM c=0):Jw c.typ/\Jw c.mode:=by
 have hk:=jv h
 have ht:=yI h
 have hty:Jw c.typ:=by
  unfold zM fP10 at h
  cases ek:(bif decide (c.kind<1)then true else decide (7<c.kind))
  rotate_left
  . rw [ek] at h;cases h
  rw [ek,cond_false,ht,Bool.not_true,cond_false] at h
  unfold fP9 at h
  by_cases k1:c.kind=1
  . rw [decide_eq_true k1,cond_true] at h
    by_cases h1:c.typ<1
    . rw [decide_eq_true h1] at h;cases h
    rw [decide_eq_false h1,cond_false] at h
    by_cases h2:4<c.typ
    . rw [decide_eq_true h2] at h;cases h
    . exact ⟨by omega,by omega⟩
  . have:=typ_zero hk ht k1
    rw [this];exact ⟨by decide,by decide⟩
 refine ⟨hty, ?_⟩
 unfold zM fP10 at h
 cases ek:(bif decide (c.kind<1)then true else decide (7<c.kind))
 rotate_left
 . rw [ek] at h;cases h
 rw [ek,cond_false,ht,Bool.not_true,cond_false] at h
 unfold fP9 at h
 cases e1:(bif decide (c.kind=1)then (bif decide (c.typ<1)then true else decide (4<c.typ))else false)
 rotate_left
 . rw [e1] at h;cases h
 rw [e1,cond_false] at h
 unfold fP8 at h
 cases e2:(bif decide (c.kind=2)then !(kK c.name)else false)
 rotate_left
 . rw [e2] at h;cases h
 rw [e2,cond_false] at h
 unfold fP7 at h
 by_cases h1:c.mode<0
 . rw [decide_eq_true h1] at h;cases h
 rw [decide_eq_false h1,cond_false] at h
 by_cases h2:511<c.mode
 . rw [decide_eq_true h2] at h;cases h
 . exact ⟨by omega,by omega⟩
theorem Kx {a m:ByteArray} {t:Int} {ds:List Dig} {cs:List Chg} (h:xF jq a m t ds cs=0):Jw t:=by
 unfold xF at h
 cases c1:kK a
 . rw [c1] at h;cases h
 rw [c1,Bool.not_true,cond_false] at h
 cases c2:decide (1000< (m.size:Int))
 rotate_left
 . rw [c2] at h;cases h
 rw [c2,cond_false] at h
 by_cases h1:t<0
 . rw [decide_eq_true h1] at h;cases h
 rw [decide_eq_false h1,cond_false] at h
 by_cases h2:1099511627776<t
 . rw [decide_eq_true h2] at h;cases h
 . exact ⟨by omega,by omega⟩
theorem valid_back {a m:ByteArray} {t:Int} {ds:List Dig} {cs:List Chg} (hd: ∀d∈ds,wf_dig d) (hw: ∀c∈cs,wfG c) (h:(zH a m t ds cs).2.2=0):
  kr (zR a m t (zk ds) cs).list=⟨a,m,t,ds,cs,false⟩/\rRx (zR a m t (zk ds) cs).list=⟨a,m,t,ds,cs,false⟩:=by
 obtain ⟨h1,h2, -, -⟩:=exP_ok h
 have hc: ∀c∈cs,j8 c/\zO c=true/\KO c:=fun c hc=>by
  have z:=chgsG_ok h2 c hc
  obtain ⟨own,y⟩:=VE h2 c hc
  have hk:=jv z
  have ht:=yI z
  obtain ⟨n1,n2⟩:=fields_nums z
  exact ⟨hk,ht,good_of hk ht (hw c hc) n1 n2 (refs_in y)⟩
 exact ⟨rPx_back (Kx h1) hd hc,rRx_back (Kx h1) hd hc⟩
end Go.Proofs.YtbglndogddddoaaGreatDoor
namespace Go.Proofs.YtbglndogddddoaaGreatDoor
open Go.RowKit
attribute [local irreducible] qW qb
set_option maxRecDepth 100000
def H99:List (Nat×Hint):=[]
def J99:List (Nat×Hint):=[]
abbrev S99:List Sh:=[.pt 0 0]
abbrev L99:List Lf:=[.sl .sexp, .bool]
abbrev O99:List ObSh:=[.cells [.leaf, .leaf]]
def F99 (g:prodL L99) (K:Kn):Prop:=
 bif decide ((g.1.length:Int)=0)then (
  K (.ag [.bool false, .str (⟨#[]⟩:ByteArray), .nil]) [some (.cells [.sl false .sexp g.1, .bool true])])
 else (
  At g.1 0 fun u1=>
 (0:Int)<=1/\1<=(g.1.length:Int)/\
 K (.ag [.bool u1.isList, .str u1.atom, .sl false .sexp u1.list]) [some (.cells [.sl false .sexp (g.1.drop ((1:Int).toNat)), .bool g.2.1])])
theorem F99_eq (g:prodL L99) (K X:Kn):F99 g K=qW D (qJ [] []) (qv []) H99 J99 29 [.cell 2 85] (qq Tryz.f99) (argsT S99 L99 g) (qZ S99 O99 L99 g) (settleD (qZ S99 O99 L99 g).length 0 K) X 0:=by kernel_rfl
theorem F99_ok (g:prodL L99) (K X:Kn) (h:F99 g K):FCalls Tryz.prog 99 (argsT S99 L99 g) (qZ S99 O99 L99 g) K X 0:=
 FCalls.settleD (qz (Γ:=qJ [] []) (mu:=qv []) (H:=H99) (J:=J99) qh (vN vC) qj rfl Tryz.func99 (c:=qq Tryz.f99) rfl Tryz.ntmps99 (rs:=[.cell 2 85]) Tryz.results99 (by unfold qk;rw [Tryz.func99];kernel_rfl) (Nat.le_of_ble_eq_true (by kernel_rfl)) (X:=X) (c0:=0) (Eq.mp (F99_eq g K X) h))
end Go.Proofs.YtbglndogddddoaaGreatDoor
namespace Go.Proofs.YtbglndogddddoaaGreatDoor
open Go.RowKit
set_option maxRecDepth 100000
def pre99 (_:prodL L99):Prop:=True
def Qy:Raw:=⟨S99,O99,L99,0,fun g K _=>pre99 g/\K (.ag (enc .sexp (xG g.1))) [some (.cells [.sl false .sexp (JW (g.1,g.2.1)).1, .bool (JW (g.1,g.2.1)).2])]⟩
theorem K7:Qy.Ok Tryz.prog 99:=fun g K X h=>FCalls.weak (F99_ok g (xp K) X (by
 obtain ⟨l,b,⟨⟩⟩:=g
 obtain ⟨-,h⟩:=h
 unfold F99
 cases l with
 | nil=>exact wkX0 h
 | cons x l=>
  show bif decide ((((x::l).length:Nat):Int)=0)then _ else _
  rw [decide_eq_false (by rw [List.length_cons];omega),cond_false]
  exact ⟨Int.le_refl 0,x,rfl,by decide,by show (1:Int)<=(((x::l).length:Nat):Int);rw [List.length_cons];omega,wkX h⟩))
end Go.Proofs.YtbglndogddddoaaGreatDoor
namespace Go.Proofs.YtbglndogddddoaaGreatDoor
open Go.RowKit
attribute [local irreducible] qW qb
set_option maxRecDepth 100000
def H51:List (Nat×Hint):=[]
def J51:List (Nat×Hint):=[]
abbrev S51:List Sh:=[.pt 0 0]
abbrev L51:List Lf:=[.sl .sexp, .bool]
abbrev O51:List ObSh:=[.cells [.leaf, .leaf]]
def F51 (g:prodL L51) (K:Kn):Prop:=
 pre99 (g.1,g.2.1,())/\
 K (.str ((xG g.1).atom)) [some (.cells [.sl false .sexp ((JW (g.1,g.2.1)).1), .bool ((JW (g.1,g.2.1)).2)])]
theorem F51_eq (g:prodL L51) (K X:Kn):F51 g K=qW D (qJ [(99,Qy)] []) (qv [(99,Qy)]) H51 J51 6 [.tmp 2] (qq Tryz.f51) (argsT S51 L51 g) (qZ S51 O51 L51 g) (settleD (qZ S51 O51 L51 g).length 0 K) X 0:=by kernel_rfl
theorem F51_ok (g:prodL L51) (K X:Kn) (h:F51 g K):FCalls Tryz.prog 51 (argsT S51 L51 g) (qZ S51 O51 L51 g) K X 0:=
 FCalls.settleD (qz (Γ:=qJ [(99,Qy)] []) (mu:=qv [(99,Qy)]) (H:=H51) (J:=J51) qh (qV (rs:=[(99,Qy)]) (l:=[]) (by intro p hp;simp only [List.mem_cons,List.not_mem_nil,or_false] at hp;subst hp;exact K7) (fun p hp=>by cases hp)) qj rfl Tryz.func51 (c:=qq Tryz.f51) rfl Tryz.ntmps51 (rs:=[.tmp 2]) Tryz.results51 (by unfold qk;rw [Tryz.func51];kernel_rfl) (Nat.le_of_ble_eq_true (by kernel_rfl)) (X:=X) (c0:=0) (Eq.mp (F51_eq g K X) h))
def H52:List (Nat×Hint):=[]
def J52:List (Nat×Hint):=[(3,⟨[],[(3, .leaf)],[.cells [.leaf, .leaf]],[.int .i64, .sl .sexp, .bool]⟩)]
abbrev S52:List Sh:=[.pt 0 0]
abbrev L52:List Lf:=[.sl .sexp, .bool]
abbrev O52:List ObSh:=[.cells [.leaf, .leaf]]
def F52_J2 (K:Kn) (n_1:Int) (o01_1:List Sx) (o02_1:Bool):Prop:=
 K (.int .i64 n_1) [some (.cells [.sl false .sexp o01_1, .bool o02_1])]
def F52 (g:prodL L52) (K:Kn):Prop:=
 pre99 (g.1,g.2.1,())/\
 sp100.pre ((xG g.1).isList,(xG g.1).atom,(xG g.1).list,())/\
 bif (JW (g.1,g.2.1)).2 then (
  F52_J2 K ((nmG ⟨((xG g.1).isList),((xG g.1).atom),((xG g.1).list)⟩).1) ((JW (g.1,g.2.1)).1) true)
 else (
  F52_J2 K ((nmG ⟨((xG g.1).isList),((xG g.1).atom),((xG g.1).list)⟩).1) ((JW (g.1,g.2.1)).1) (!decide ((nmG ⟨((xG g.1).isList),((xG g.1).atom),((xG g.1).list)⟩).2=0)))
theorem F52_eq (g:prodL L52) (K X:Kn):F52 g K=qW D (qJ [(99,Qy)] [(100,true,sp100)]) (qv [(99,Qy)]) H52 J52 23 [.tmp 2] (qq Tryz.f52) (argsT S52 L52 g) (qZ S52 O52 L52 g) (settleD (qZ S52 O52 L52 g).length 0 K) X 0:=by kernel_rfl
theorem F52_ok (g:prodL L52) (K X:Kn) (h:F52 g K):FCalls Tryz.prog 52 (argsT S52 L52 g) (qZ S52 O52 L52 g) K X 0:=
 FCalls.settleD (qz (Γ:=qJ [(99,Qy)] [(100,true,sp100)]) (mu:=qv [(99,Qy)]) (H:=H52) (J:=J52) qh (qV (rs:=[(99,Qy)]) (l:=[(100,true,sp100)]) (by intro p hp;simp only [List.mem_cons,List.not_mem_nil,or_false] at hp;subst hp;exact K7) (by intro p hp;simp only [List.mem_cons,List.not_mem_nil,or_false] at hp;subst hp;exact sp100_ok)) qj rfl Tryz.func52 (c:=qq Tryz.f52) rfl Tryz.ntmps52 (rs:=[.tmp 2]) Tryz.results52 (by unfold qk;rw [Tryz.func52];kernel_rfl) (Nat.le_of_ble_eq_true (by kernel_rfl)) (X:=X) (c0:=0) (Eq.mp (F52_eq g K X) h))
def H53:List (Nat×Hint):=[]
def J53:List (Nat×Hint):=[]
abbrev S53:List Sh:=[.pt 0 0]
abbrev L53:List Lf:=[.sl .sexp, .bool]
abbrev O53:List ObSh:=[.cells [.leaf, .leaf]]
def F53 (g:prodL L53) (K:Kn):Prop:=
 pre99 (g.1,g.2.1,())/\
 K (.sl false .sexp ((xG g.1).list)) [some (.cells [.sl false .sexp ((JW (g.1,g.2.1)).1), .bool ((JW (g.1,g.2.1)).2)])]
theorem F53_eq (g:prodL L53) (K X:Kn):F53 g K=qW D (qJ [(99,Qy)] []) (qv [(99,Qy)]) H53 J53 6 [.tmp 2] (qq Tryz.f53) (argsT S53 L53 g) (qZ S53 O53 L53 g) (settleD (qZ S53 O53 L53 g).length 0 K) X 0:=by kernel_rfl
theorem F53_ok (g:prodL L53) (K X:Kn) (h:F53 g K):FCalls Tryz.prog 53 (argsT S53 L53 g) (qZ S53 O53 L53 g) K X 0:=
 FCalls.settleD (qz (Γ:=qJ [(99,Qy)] []) (mu:=qv [(99,Qy)]) (H:=H53) (J:=J53) qh (qV (rs:=[(99,Qy)]) (l:=[]) (by intro p hp;simp only [List.mem_cons,List.not_mem_nil,or_false] at hp;subst hp;exact K7) (fun p hp=>by cases hp)) qj rfl Tryz.func53 (c:=qq Tryz.f53) rfl Tryz.ntmps53 (rs:=[.tmp 2]) Tryz.results53 (by unfold qk;rw [Tryz.func53];kernel_rfl) (Nat.le_of_ble_eq_true (by kernel_rfl)) (X:=X) (c0:=0) (Eq.mp (F53_eq g K X) h))
end Go.Proofs.YtbglndogddddoaaGreatDoor
namespace Go.Proofs.YtbglndogddddoaaGreatDoor
open Go.RowKit
set_option maxRecDepth 100000
def Vc (g:prodL L51):Prop:=True
def Qk:Raw:=⟨S51,O51,L51,0,fun g K _=>Vc g/\K (.str (qw zG (g.1,g.2.1)).1) [some (.cells [.sl false .sexp (qw zG (g.1,g.2.1)).2.1, .bool (qw zG (g.1,g.2.1)).2.2])]⟩
theorem rw51_ok:Qk.Ok Tryz.prog 51:=fun g K X h=>F51_ok g K X (by
 have h:=h.2
 rw [j4 fun _=>rfl] at h
 exact ⟨trivial,h⟩)
def WU (g:prodL L53):Prop:=True
def wh:Raw:=⟨S53,O53,L53,0,fun g K _=>WU g/\K (.sl false .sexp (qw qT (g.1,g.2.1)).1) [some (.cells [.sl false .sexp (qw qT (g.1,g.2.1)).2.1, .bool (qw qT (g.1,g.2.1)).2.2])]⟩
theorem Xt:wh.Ok Tryz.prog 53:=fun g K X h=>F53_ok g K X (by
 have h:=h.2
 rw [j4 fun _=>rfl] at h
 exact ⟨trivial,h⟩)
def Ki (g:prodL L52):Prop:=qu g.1<=j6
def Qw:Raw:=⟨S52,O52,L52,0,fun g K _=>Ki g/\K (.int .i64 (qw zp (g.1,g.2.1)).1) [some (.cells [.sl false .sexp (qw zp (g.1,g.2.1)).2.1, .bool (qw zp (g.1,g.2.1)).2.2])]⟩
theorem rw52_ok:Qw.Ok Tryz.prog 52:=fun g K X h=>F52_ok g K X (by
 refine ⟨trivial,by show xx ⟨(xG g.1).isList,(xG g.1).atom,(xG g.1).list⟩<=j6;rw [xh];exact bk_hd h.1, ?_⟩
 simp only [xh]
 exact orBt (J:=fun b=>F52_J2 K _ _ b) h.2)
end Go.Proofs.YtbglndogddddoaaGreatDoor
namespace Go.Proofs.YtbglndogddddoaaGreatDoor
open Go.RowKit
attribute [local irreducible] qW qb
set_option maxRecDepth 100000
def H54:List (Nat×Hint):=[]
def J54:List (Nat×Hint):=[(4,⟨[((2,[]),none),((3,[]),none)],[(2, .pt 1 0),(3, .pt 2 0),(4, .leaf)],[.cells [.leaf, .leaf], .el, .el],[.str, .sl .sexp, .bool, .el .dig, .el .dig]⟩)]
abbrev S54:List Sh:=[.pt 0 0]
abbrev L54:List Lf:=[.sl .sexp, .bool]
abbrev O54:List ObSh:=[.cells [.leaf, .leaf]]
def F54_J2 (K:Kn) (s_1:ByteArray) (o01_1:List Sx) (o02_1:Bool) (t_1 d_1:Dig):Prop:=
 K (.ag (enc .dig (⟨qH s_1 0 d_1.b0,qH s_1 1 d_1.b1,qH s_1 2 d_1.b2,qH s_1 3 d_1.b3,qH s_1 4 d_1.b4,qH s_1 5 d_1.b5,qH s_1 6 d_1.b6,qH s_1 7 d_1.b7,qH s_1 8 d_1.b8,qH s_1 9 d_1.b9,qH s_1 10 d_1.b10,qH s_1 11 d_1.b11,qH s_1 12 d_1.b12,qH s_1 13 d_1.b13,qH s_1 14 d_1.b14,qH s_1 15 d_1.b15,qH s_1 16 d_1.b16,qH s_1 17 d_1.b17,qH s_1 18 d_1.b18,qH s_1 19 d_1.b19,qH s_1 20 d_1.b20,qH s_1 21 d_1.b21,qH s_1 22 d_1.b22,qH s_1 23 d_1.b23,qH s_1 24 d_1.b24,qH s_1 25 d_1.b25,qH s_1 26 d_1.b26,qH s_1 27 d_1.b27,qH s_1 28 d_1.b28,qH s_1 29 d_1.b29,qH s_1 30 d_1.b30,qH s_1 31 d_1.b31⟩:Dig))) [some (.cells [.sl false .sexp o01_1, .bool o02_1])]
def F54 (g:prodL L54) (K:Kn):Prop:=
 Vc (g.1,g.2.1,())/\
 bif (qw zG (g.1,g.2.1)).2.2 then (
  F54_J2 K ((qw zG (g.1,g.2.1)).1) ((qw zG (g.1,g.2.1)).2.1) true dz dz)
 else (
  bif !decide ((qw zG (g.1,g.2.1)).1=(⟨#[]⟩:ByteArray))then (
   F54_J2 K ((qw zG (g.1,g.2.1)).1) ((qw zG (g.1,g.2.1)).2.1) (!decide ((((qw zG (g.1,g.2.1)).1).size:Int)=32)) dz dz)
  else (
   F54_J2 K ((qw zG (g.1,g.2.1)).1) ((qw zG (g.1,g.2.1)).2.1) false dz dz))
theorem F54_eq (g:prodL L54) (K X:Kn):F54 g K=qW D (qJ [(51,Qk)] []) (qv [(51,Qk)]) H54 J54 27 [.cell 2 32] (qq Tryz.f54) (argsT S54 L54 g) (qZ S54 O54 L54 g) (settleD (qZ S54 O54 L54 g).length 0 K) X 0:=by kernel_rfl
theorem F54_ok (g:prodL L54) (K X:Kn) (h:F54 g K):FCalls Tryz.prog 54 (argsT S54 L54 g) (qZ S54 O54 L54 g) K X 0:=
 FCalls.settleD (qz (Γ:=qJ [(51,Qk)] []) (mu:=qv [(51,Qk)]) (H:=H54) (J:=J54) qh (qV (rs:=[(51,Qk)]) (l:=[]) (by intro p hp;simp only [List.mem_cons,List.not_mem_nil,or_false] at hp;subst hp;exact rw51_ok) (fun p hp=>by cases hp)) qj rfl Tryz.func54 (c:=qq Tryz.f54) rfl Tryz.ntmps54 (rs:=[.cell 2 32]) Tryz.results54 (by unfold qk;rw [Tryz.func54];kernel_rfl) (Nat.le_of_ble_eq_true (by kernel_rfl)) (X:=X) (c0:=0) (Eq.mp (F54_eq g K X) h))
end Go.Proofs.YtbglndogddddoaaGreatDoor
namespace Go.Proofs.YtbglndogddddoaaGreatDoor
open Go.RowKit
set_option maxRecDepth 100000
def pre54 (g:prodL L54):Prop:=True
def Yw:Raw:=⟨S54,O54,L54,0,fun g K _=>pre54 g/\K (.ag (enc .dig (qw Zi (g.1,g.2.1)).1)) [some (.cells [.sl false .sexp (qw Zi (g.1,g.2.1)).2.1, .bool (qw Zi (g.1,g.2.1)).2.2])]⟩
theorem rw54_ok:Yw.Ok Tryz.prog 54:=fun g K X h=>F54_ok g K X (by
 refine ⟨trivial, ?_⟩
 rw [j4 (f:=zG) fun _=>rfl]
 exact or3t (J:=fun b=>F54_J2 K _ _ b dz dz) h.2)
end Go.Proofs.YtbglndogddddoaaGreatDoor
namespace Go.Proofs.YtbglndogddddoaaGreatDoor
open Go.RowKit
attribute [local irreducible] qW qb
set_option maxRecDepth 100000
def H101:List (Nat×Hint):=[]
def J101:List (Nat×Hint):=[(4,⟨[((2,[]),none),((4,[]),none)],[(2, .pt 1 0),(4, .pt 2 0)],[.cells [.leaf, .leaf], .el, .el],[.sl .sexp, .bool, .el .idk, .el .idk]⟩)]
abbrev S101:List Sh:=[.pt 0 0]
abbrev Ya:List Lf:=[.sl .sexp, .bool]
abbrev O101:List ObSh:=[.cells [.leaf, .leaf]]
def K4 (K:Kn) (o01_1:List Sx) (o02_1:Bool) (t_1 x_1:Idn):Prop:=
 K (.ag (enc .idk x_1)) [some (.cells [.sl false .sexp o01_1, .bool o02_1])]
def F101 (g:prodL Ya) (K:Kn):Prop:=
 WU (g.1,g.2.1,())/\
 pre54 ((qw qT (g.1,g.2.1)).1,false,())/\
 Ki ((qw Zi ((qw qT (g.1,g.2.1)).1,false)).2.1,(qw Zi ((qw qT (g.1,g.2.1)).1,false)).2.2,())/\
 bif (qw qT (g.1,g.2.1)).2.2 then (
  K4 K ((qw qT (g.1,g.2.1)).2.1) true iz (⟨(qw Zi ((qw qT (g.1,g.2.1)).1,false)).1,(qw zp ((qw Zi ((qw qT (g.1,g.2.1)).1,false)).2)).1⟩:Idn))
 else (
  K4 K ((qw qT (g.1,g.2.1)).2.1) ((qw zp ((qw Zi ((qw qT (g.1,g.2.1)).1,false)).2)).2.2) iz (⟨(qw Zi ((qw qT (g.1,g.2.1)).1,false)).1,(qw zp ((qw Zi ((qw qT (g.1,g.2.1)).1,false)).2)).1⟩:Idn))
theorem F101_eq (g:prodL Ya) (K X:Kn):F101 g K=qW D (qJ [(52,Qw),(53,wh),(54,Yw)] []) (qv [(52,Qw),(53,wh),(54,Yw)]) H101 J101 23 [.cell 2 36] (qq Tryz.f101) (argsT S101 Ya g) (qZ S101 O101 Ya g) (settleD (qZ S101 O101 Ya g).length 0 K) X 0:=by kernel_rfl
theorem F101_ok (g:prodL Ya) (K X:Kn) (h:F101 g K):FCalls Tryz.prog 101 (argsT S101 Ya g) (qZ S101 O101 Ya g) K X 0:=
 FCalls.settleD (qz (Γ:=qJ [(52,Qw),(53,wh),(54,Yw)] []) (mu:=qv [(52,Qw),(53,wh),(54,Yw)]) (H:=H101) (J:=J101) qh (qV (rs:=[(52,Qw),(53,wh),(54,Yw)]) (l:=[]) (by intro p hp;simp only [List.mem_cons,List.not_mem_nil,or_false] at hp;rcases hp with rfl | rfl | rfl<;>first | exact rw52_ok | exact Xt | exact rw54_ok) (fun p hp=>by cases hp)) qj rfl Tryz.func101 (c:=qq Tryz.f101) rfl Tryz.ntmps101 (rs:=[.cell 2 36]) Tryz.results101 (by unfold qk;rw [Tryz.func101];kernel_rfl) (Nat.le_of_ble_eq_true (by kernel_rfl)) (X:=X) (c0:=0) (Eq.mp (F101_eq g K X) h))
end Go.Proofs.YtbglndogddddoaaGreatDoor
namespace Go.Proofs.YtbglndogddddoaaGreatDoor
open Go.RowKit
set_option maxRecDepth 100000
def JO (g:prodL Ya):Prop:=qu g.1<=j6
def kb:Raw:=⟨S101,O101,Ya,0,fun g K _=>JO g/\K (.ag (enc .idk (qw zf (g.1,g.2.1)).1)) [some (.cells [.sl false .sexp (qw zf (g.1,g.2.1)).2.1, .bool (qw zf (g.1,g.2.1)).2.2])]⟩
theorem rw101_ok:kb.Ok Tryz.prog 101:=fun g K X h=>F101_ok g K X (by
 have hb:qu (xG g.1).list<=j6:=Jl h.1
 refine ⟨trivial,trivial,vw hb, ?_⟩
 rw [j4 (f:=qT) fun _=>rfl]
 exact orBt (J:=fun b=>K4 K _ b _ _) h.2)
end Go.Proofs.YtbglndogddddoaaGreatDoor
namespace Go.Proofs.YtbglndogddddoaaGreatDoor
open Go.RowKit
attribute [local irreducible] qW qb
set_option maxRecDepth 100000
def H102:List (Nat×Hint):=[(3,⟨[((3,[]),none),((4,[]),some .idk)],[(0, .pt 0 0),(3, .pt 1 0),(4, .oa .idk 2)],[.cells [.leaf, .leaf], .cells [.leaf, .leaf], .arr .idk],[.sl .sexp, .bool, .sl .sexp, .bool, .sl .idk]⟩)]
def J102:List (Nat×Hint):=[(6,⟨[((4,[]),none)],[(4, .oa .idk 1)],[.cells [.leaf, .leaf], .arr .idk],[.sl .sexp, .bool, .sl .idk]⟩)]
abbrev S102:List Sh:=[.pt 0 0]
abbrev Yg:List Lf:=[.sl .sexp, .bool]
abbrev O102:List ObSh:=[.cells [.leaf, .leaf]]
def qqa (K:Kn) (o01_5:List Sx) (o02_5:Bool) (out_5:List Idn):Prop:=
 K (.sl false .idk out_5) [some (.cells [.sl false .sexp o01_5, .bool o02_5])]
def Zy (K:Kn) (W4:prodL [.sl .sexp, .bool, .sl .sexp, .bool, .sl .idk]->Prop) (o01_3:List Sx) (o02_3:Bool) (in1_3:List Sx) (in2_3:Bool) (out_3:List Idn):Prop:=
 bif decide (0< (in1_3.length:Int))then (
  JO (in1_3,in2_3,())/\
 qP (out_3.length+[((qw zf (in1_3,in2_3)).1)].length) 40 (
 W4 (o01_3,o02_3,(qw zf (in1_3,in2_3)).2.1,(qw zf (in1_3,in2_3)).2.2,out_3++[((qw zf (in1_3,in2_3)).1)],())))
 else (
  bif o02_3 then (
  qqa K o01_3 true out_3)
 else (
  qqa K o01_3 in2_3 out_3))
def F102_L4 (K:Kn) (g:prodL [.sl .sexp, .bool, .sl .sexp, .bool, .sl .idk]):Prop:=
 qX (γ:=prodL [.sl .sexp, .bool, .sl .sexp, .bool, .sl .idk]) (fun V y=>Zy K V y.1 y.2.1 y.2.2.1 y.2.2.2.1 y.2.2.2.2.1) g
def F102 (g:prodL Yg) (K:Kn):Prop:=
 WU (g.1,g.2.1,())/\
 F102_L4 K ((qw qT (g.1,g.2.1)).2.1,(qw qT (g.1,g.2.1)).2.2,(qw qT (g.1,g.2.1)).1,false,[],())
theorem F102_eq (g:prodL Yg) (K X:Kn):F102 g K=qW D (qJ [(53,wh),(101,kb)] []) (qv [(53,wh),(101,kb)]) H102 J102 28 [.tmp 2] (qq Tryz.f102) (argsT S102 Yg g) (qZ S102 O102 Yg g) (settleG (qZ S102 O102 Yg g).length 0 K) X 0:=by kernel_rfl
theorem F102_ok (g:prodL Yg) (K X:Kn) (h:F102 g K):FCalls Tryz.prog 102 (argsT S102 Yg g) (qZ S102 O102 Yg g) K X 0:=
 FCalls.settleG (qz (Γ:=qJ [(53,wh),(101,kb)] []) (mu:=qv [(53,wh),(101,kb)]) (H:=H102) (J:=J102) qh (qV (rs:=[(53,wh),(101,kb)]) (l:=[]) (by intro p hp;simp only [List.mem_cons,List.not_mem_nil,or_false] at hp;rcases hp with rfl | rfl<;>first | exact Xt | exact rw101_ok) (fun p hp=>by cases hp)) qj rfl Tryz.func102 (c:=qq Tryz.f102) rfl Tryz.ntmps102 (rs:=[.tmp 2]) Tryz.results102 (by unfold qk;rw [Tryz.func102];kernel_rfl) (Nat.le_of_ble_eq_true (by kernel_rfl)) (X:=X) (c0:=0) (Eq.mp (F102_eq g K X) h))
end Go.Proofs.YtbglndogddddoaaGreatDoor
namespace Go.Proofs.YtbglndogddddoaaGreatDoor
open Go.RowKit
set_option maxRecDepth 100000
def pre102 (g:prodL Yg):Prop:=qu g.1<=j6
def KP:Raw:=⟨S102,O102,Yg,0,fun g K _=>pre102 g/\K (.sl false .idk (qw XS (g.1,g.2.1)).1) [some (.cells [.sl false .sexp (qw XS (g.1,g.2.1)).2.1, .bool (qw XS (g.1,g.2.1)).2.2])]⟩
theorem rw102_ok:KP.Ok Tryz.prog 102:=fun g K X h=>F102_ok g K X (by
 obtain ⟨l,b,⟨⟩⟩:=g
 obtain ⟨hb,h⟩:=h
 have hb:qu (xG l).list<=j6:=Jl hb
 have hlim:j6=1073741824:=rfl
 refine ⟨trivial, ?_⟩
 rw [j4 (f:=qT) fun _=>rfl]
 unfold F102_L4
 refine qX.reads zf (fun q b' out=>((JW (l,b)).1,(JW (l,b)).2,q,b',out,())) (fun q out=>qu q<=j6/\out.length+q.length<=1073741824) (fun r=>K (.sl false .idk r.1) [some (.cells [.sl false .sexp (JW (l,b)).1, .bool ((JW (l,b)).2||r.2)])]) (xG l).list rfl
  ⟨hb,by have:=ku (xG l).list;simp only [List.length_nil];omega⟩ (fun x q out hi=> ?_) (fun W x q b' out hi hW=> ?_) (fun W b' out hq=> ?_) h
 . obtain ⟨h1,h2⟩:=hi
   simp only [qu,List.length_cons] at h1 h2
   exact ⟨by omega,by simp only [List.length_append,List.length_singleton];omega⟩
 . obtain ⟨h1,h2⟩:=hi
   show Zy K W _ _ (x::q) b' out
   unfold Zy
   rw [decide_eq_true (show (0:Int) < (((x::q).length:Nat):Int)by rw [List.length_cons];omega),cond_true]
   rw [List.length_cons] at h2
   exact ⟨h1,by simp only [List.length_singleton];omega,hW⟩
 . show Zy K W _ _ [] b' out
   unfold Zy
   show bif decide ((0:Int) <0)then _ else _
   rw [decide_eq_false (by omega),cond_false]
   exact orBt (J:=fun b=>qqa K _ b _) hq)
end Go.Proofs.YtbglndogddddoaaGreatDoor
namespace Go.Proofs.YtbglndogddddoaaGreatDoor
open Go.RowKit
attribute [local irreducible] qW qb
set_option maxRecDepth 100000
def H55:List (Nat×Hint):=[(19,⟨[((2,[]),none),((3,[]),none),((4,[]),none),((4,[137]),none)],[(0, .pt 0 0),(2, .pt 1 0),(3, .pt 2 0),(4, .pt 3 0),(52, .leaf),(53, .leaf),(54, .leaf)],[.cells [.leaf, .leaf], .el, .cells [.leaf, .leaf], .elx 137 .str 4, .arr .str],[.sl .sexp, .int .i64, .int .i64, .sl .sexp, .bool, .el .chg, .sl .sexp, .bool, .el .chg, .sl .str]⟩)]
def J55:List (Nat×Hint):=[(4,⟨[((2,[]),none),((3,[]),none),((4,[]),none),((4,[137]),some .str)],[(0, .pt 0 0),(2, .pt 1 0),(3, .pt 2 0),(4, .pt 3 0),(19, .leaf)],[.cells [.leaf, .leaf], .el, .cells [.leaf, .leaf], .elx 137 .str 4, .arr .str],[.bool, .sl .sexp, .bool, .el .chg, .sl .sexp, .bool, .el .chg, .sl .str]⟩),(5,⟨[((2,[]),none),((3,[]),none),((4,[]),none),((4,[137]),none)],[(0, .pt 0 0),(2, .pt 1 0),(3, .pt 2 0),(4, .pt 3 0)],[.cells [.leaf, .leaf], .el, .cells [.leaf, .leaf], .elx 137 .str 4, .arr .str],[.sl .sexp, .bool, .el .chg, .sl .sexp, .bool, .el .chg, .sl .str]⟩),(16,⟨[((2,[]),none),((3,[]),none),((4,[]),none),((4,[137]),none)],[(0, .pt 0 0),(2, .pt 1 0),(3, .pt 2 0),(4, .pt 3 0),(42, .leaf)],[.cells [.leaf, .leaf], .el, .cells [.leaf, .leaf], .elx 137 .str 4, .arr .str],[.bool, .sl .sexp, .bool, .el .chg, .sl .sexp, .bool, .el .chg, .sl .str]⟩),(17,⟨[((2,[]),none),((3,[]),none),((4,[]),none),((4,[137]),none)],[(0, .pt 0 0),(2, .pt 1 0),(3, .pt 2 0),(4, .pt 3 0)],[.cells [.leaf, .leaf], .el, .cells [.leaf, .leaf], .elx 137 .str 4, .arr .str],[.sl .sexp, .bool, .el .chg, .sl .sexp, .bool, .el .chg, .sl .str]⟩),(25,⟨[((2,[]),none),((3,[]),none),((4,[]),none),((4,[137]),none)],[(0, .pt 0 0),(2, .pt 1 0),(3, .pt 2 0),(4, .pt 3 0)],[.cells [.leaf, .leaf], .el, .cells [.leaf, .leaf], .elx 137 .str 4, .arr .str],[.sl .sexp, .bool, .el .chg, .sl .sexp, .bool, .el .chg, .sl .str]⟩),(26,⟨[((2,[]),none),((4,[]),none),((4,[137]),none)],[(2, .pt 1 0),(4, .pt 2 0)],[.cells [.leaf, .leaf], .el, .elx 137 .str 3, .arr .str],[.sl .sexp, .bool, .el .chg, .el .chg, .sl .str]⟩)]
abbrev S55:List Sh:=[.pt 0 0]
abbrev L55:List Lf:=[.sl .sexp, .bool]
abbrev O55:List ObSh:=[.cells [.leaf, .leaf]]
def F55_J14 (K:Kn) (o01_13:List Sx) (o02_13:Bool) (t_13 c_13:Chg) (c2_13:List ByteArray):Prop:=
 K (.ag (enc .chg (⟨c_13.kind,c_13.file,c_13.typ,c_13.parent,c_13.name,c_13.mode,c_13.data,c_13.after,c_13.before,c2_13,c_13.over⟩:Chg))) [some (.cells [.sl false .sexp o01_13, .bool o02_13])]
def Zv (K:Kn) (o01_12:List Sx) (o02_12:Bool) (t_12:Chg) (in1_12:List Sx) (in2_12:Bool) (c_12:Chg) (c2_12:List ByteArray):Prop:=
 vr (γ:=prodL [.sl .sexp, .bool, .el .chg, .el .chg, .sl .str]) (fun y=>F55_J14 K y.1 y.2.1 y.2.2.1 y.2.2.2.1 y.2.2.2.2.1) (fun V15=>
  bif o02_12 then (
   V15 (o01_12,true,t_12,(⟨c_12.kind,c_12.file,c_12.typ,c_12.parent,c_12.name,c_12.mode,c_12.data,c_12.after,c_12.before,[],c_12.over⟩:Chg),c2_12,()))
  else (
   V15 (o01_12,in2_12,t_12,(⟨c_12.kind,c_12.file,c_12.typ,c_12.parent,c_12.name,c_12.mode,c_12.data,c_12.after,c_12.before,[],c_12.over⟩:Chg),c2_12,())))
def ZM (K:Kn) (V17:prodL [.sl .sexp, .bool, .el .chg, .sl .sexp, .bool, .el .chg, .sl .str]->Prop) (W10:prodL [.sl .sexp, .int .i64, .int .i64, .sl .sexp, .bool, .el .chg, .sl .sexp, .bool, .el .chg, .sl .str]->Prop) (t_9:List Sx) (t2_9 t3_9:Int) (o01_9:List Sx) (o02_9:Bool) (t4_9:Chg) (in1_9:List Sx) (in2_9:Bool) (c_9:Chg) (c2_9:List ByteArray):Prop:=
 bif decide (t3_9<t2_9)then (
    At t_9 t3_9 fun u11=>
   qP (c2_9.length+[u11.atom].length) 16 (
   W10 (t_9,t2_9,IntKind.i64.wrap (t3_9+1),o01_9,o02_9,t4_9,in1_9,in2_9,(⟨c_9.kind,c_9.file,c_9.typ,c_9.parent,c_9.name,c_9.mode,c_9.data,c_9.after,c_9.before,[],c_9.over⟩:Chg),c2_9++[u11.atom],())))
   else (
    V17 (o01_9,o02_9,t4_9,in1_9,in2_9,(⟨c_9.kind,c_9.file,c_9.typ,c_9.parent,c_9.name,c_9.mode,c_9.data,c_9.after,c_9.before,[],c_9.over⟩:Chg),c2_9,()))
def F55_L10 (K:Kn) (V17:prodL [.sl .sexp, .bool, .el .chg, .sl .sexp, .bool, .el .chg, .sl .str]->Prop) (g:prodL [.sl .sexp, .int .i64, .int .i64, .sl .sexp, .bool, .el .chg, .sl .sexp, .bool, .el .chg, .sl .str]):Prop:=
 qX (γ:=prodL [.sl .sexp, .int .i64, .int .i64, .sl .sexp, .bool, .el .chg, .sl .sexp, .bool, .el .chg, .sl .str]) (fun V y=>ZM K V17 V y.1 y.2.1 y.2.2.1 y.2.2.2.1 y.2.2.2.2.1 y.2.2.2.2.2.1 y.2.2.2.2.2.2.1 y.2.2.2.2.2.2.2.1 y.2.2.2.2.2.2.2.2.1 y.2.2.2.2.2.2.2.2.2.1) g
def XD (K:Kn) (o01_8:List Sx) (o02_8:Bool) (t_8:Chg) (in1_8:List Sx) (in2_8:Bool) (c_8:Chg) (c2_8:List ByteArray):Prop:=
 vr (γ:=prodL [.sl .sexp, .bool, .el .chg, .sl .sexp, .bool, .el .chg, .sl .str]) (fun y=>Zv K y.1 y.2.1 y.2.2.1 y.2.2.2.1 y.2.2.2.2.1 y.2.2.2.2.2.1 y.2.2.2.2.2.2.1) (fun V17=>
  bif decide (c_8.kind=5)then (
   WU (in1_8,in2_8,())/\
   F55_L10 K V17 ((qw qT (in1_8,in2_8)).1,((((qw qT (in1_8,in2_8)).1).length:Nat):Int),0,o01_8,o02_8,t_8,(qw qT (in1_8,in2_8)).2.1,(qw qT (in1_8,in2_8)).2.2,(⟨c_8.kind,c_8.file,c_8.typ,c_8.parent,c_8.name,c_8.mode,c_8.data,c_8.after,c_8.before,[],c_8.over⟩:Chg),c2_8,()))
  else (
   bif decide (2<=c_8.kind)then (
    pre102 (in1_8,in2_8,())/\
    V17 (o01_8,o02_8,t_8,(qw XS (in1_8,in2_8)).2.1,(qw XS (in1_8,in2_8)).2.2,(⟨c_8.kind,c_8.file,c_8.typ,c_8.parent,c_8.name,c_8.mode,c_8.data,c_8.after,c_8.before,[],(qw XS (in1_8,in2_8)).1⟩:Chg),c2_8,()))
   else (
    V17 (o01_8,o02_8,t_8,in1_8,in2_8,(⟨c_8.kind,c_8.file,c_8.typ,c_8.parent,c_8.name,c_8.mode,c_8.data,c_8.after,c_8.before,[],c_8.over⟩:Chg),c2_8,()))))
def F55_J6 (K:Kn) (V19:prodL [.sl .sexp, .bool, .el .chg, .sl .sexp, .bool, .el .chg, .sl .str]->Prop) (t_5:Bool) (o01_5:List Sx) (o02_5:Bool) (t2_5:Chg) (in1_5:List Sx) (in2_5:Bool) (c_5:Chg) (c2_5:List ByteArray):Prop:=
 bif t_5 then (
       JO (in1_5,in2_5,())/\
       JO ((qw zf (in1_5,in2_5)).2.1,(qw zf (in1_5,in2_5)).2.2,())/\
       V19 (o01_5,o02_5,t2_5,(qw zf ((qw zf (in1_5,in2_5)).2)).2.1,(qw zf ((qw zf (in1_5,in2_5)).2)).2.2,(⟨c_5.kind,c_5.file,c_5.typ,c_5.parent,c_5.name,c_5.mode,c_5.data,(qw zf (in1_5,in2_5)).1,(qw zf ((qw zf (in1_5,in2_5)).2)).1,[],c_5.over⟩:Chg),c2_5,()))
      else (
       V19 (o01_5,o02_5,t2_5,in1_5,in2_5,(⟨c_5.kind,c_5.file,c_5.typ,c_5.parent,c_5.name,c_5.mode,c_5.data,c_5.after,c_5.before,[],c_5.over⟩:Chg),c2_5,()))
def Qz (K:Kn) (o01_4:List Sx) (o02_4:Bool) (t_4:Chg) (in1_4:List Sx) (in2_4:Bool) (c_4:Chg) (c2_4:List ByteArray):Prop:=
 vr (γ:=prodL [.sl .sexp, .bool, .el .chg, .sl .sexp, .bool, .el .chg, .sl .str]) (fun y=>XD K y.1 y.2.1 y.2.2.1 y.2.2.2.1 y.2.2.2.2.1 y.2.2.2.2.2.1 y.2.2.2.2.2.2.1) (fun V19=>
  bif decide (c_4.kind=1)then (
   Ki (in1_4,in2_4,())/\
   V19 (o01_4,o02_4,t_4,(qw zp (in1_4,in2_4)).2.1,(qw zp (in1_4,in2_4)).2.2,(⟨c_4.kind,c_4.file,(qw zp (in1_4,in2_4)).1,c_4.parent,c_4.name,c_4.mode,c_4.data,c_4.after,c_4.before,[],c_4.over⟩:Chg),c2_4,()))
  else (
   bif decide (c_4.kind=2)then (
    JO (in1_4,in2_4,())/\
    Vc ((qw zf (in1_4,in2_4)).2.1,(qw zf (in1_4,in2_4)).2.2,())/\
    V19 (o01_4,o02_4,t_4,(qw zG ((qw zf (in1_4,in2_4)).2)).2.1,(qw zG ((qw zf (in1_4,in2_4)).2)).2.2,(⟨c_4.kind,c_4.file,c_4.typ,(qw zf (in1_4,in2_4)).1,(qw zG ((qw zf (in1_4,in2_4)).2)).1,c_4.mode,c_4.data,c_4.after,c_4.before,[],c_4.over⟩:Chg),c2_4,()))
   else (
    bif decide (c_4.kind=3)then (
     Ki (in1_4,in2_4,())/\
     V19 (o01_4,o02_4,t_4,(qw zp (in1_4,in2_4)).2.1,(qw zp (in1_4,in2_4)).2.2,(⟨c_4.kind,c_4.file,c_4.typ,c_4.parent,c_4.name,(qw zp (in1_4,in2_4)).1,c_4.data,c_4.after,c_4.before,[],c_4.over⟩:Chg),c2_4,()))
    else (
     bif decide (c_4.kind=4)then (
      Vc (in1_4,in2_4,())/\
      V19 (o01_4,o02_4,t_4,(qw zG (in1_4,in2_4)).2.1,(qw zG (in1_4,in2_4)).2.2,(⟨c_4.kind,c_4.file,c_4.typ,c_4.parent,c_4.name,c_4.mode,(qw zG (in1_4,in2_4)).1,c_4.after,c_4.before,[],c_4.over⟩:Chg),c2_4,()))
     else (
      vr (γ:=prodL [.bool, .sl .sexp, .bool, .el .chg, .sl .sexp, .bool, .el .chg, .sl .str]) (fun y=>F55_J6 K V19 y.1 y.2.1 y.2.2.1 y.2.2.2.1 y.2.2.2.2.1 y.2.2.2.2.2.1 y.2.2.2.2.2.2.1 y.2.2.2.2.2.2.2.1) (fun V7=>
       bif decide (c_4.kind=5)then (
        V7 (true,o01_4,o02_4,t_4,in1_4,in2_4,(⟨c_4.kind,c_4.file,c_4.typ,c_4.parent,c_4.name,c_4.mode,c_4.data,c_4.after,c_4.before,[],c_4.over⟩:Chg),c2_4,()))
       else (
        V7 (decide (c_4.kind=6),o01_4,o02_4,t_4,in1_4,in2_4,(⟨c_4.kind,c_4.file,c_4.typ,c_4.parent,c_4.name,c_4.mode,c_4.data,c_4.after,c_4.before,[],c_4.over⟩:Chg),c2_4,()))))))))
def Wq (K:Kn) (V21:prodL [.sl .sexp, .bool, .el .chg, .sl .sexp, .bool, .el .chg, .sl .str]->Prop) (t_1:Bool) (o01_1:List Sx) (o02_1:Bool) (t2_1:Chg) (in1_1:List Sx) (in2_1:Bool) (c_1:Chg) (c2_1:List ByteArray):Prop:=
 bif t_1 then (
   JO (in1_1,in2_1,())/\
   V21 (o01_1,o02_1,t2_1,(qw zf (in1_1,in2_1)).2.1,(qw zf (in1_1,in2_1)).2.2,(⟨c_1.kind,(qw zf (in1_1,in2_1)).1,c_1.typ,c_1.parent,c_1.name,c_1.mode,c_1.data,c_1.after,c_1.before,[],c_1.over⟩:Chg),c2_1,()))
  else (
   V21 (o01_1,o02_1,t2_1,in1_1,in2_1,(⟨c_1.kind,c_1.file,c_1.typ,c_1.parent,c_1.name,c_1.mode,c_1.data,c_1.after,c_1.before,[],c_1.over⟩:Chg),c2_1,()))
def F55 (g:prodL L55) (K:Kn):Prop:=
 WU (g.1,g.2.1,())/\
 Ki ((qw qT (g.1,g.2.1)).1,false,())/\
 vr (γ:=prodL [.sl .sexp, .bool, .el .chg, .sl .sexp, .bool, .el .chg, .sl .str]) (fun y=>Qz K y.1 y.2.1 y.2.2.1 y.2.2.2.1 y.2.2.2.2.1 y.2.2.2.2.2.1 y.2.2.2.2.2.2.1) (fun V21=>
  vr (γ:=prodL [.bool, .sl .sexp, .bool, .el .chg, .sl .sexp, .bool, .el .chg, .sl .str]) (fun y=>Wq K V21 y.1 y.2.1 y.2.2.1 y.2.2.2.1 y.2.2.2.2.1 y.2.2.2.2.2.1 y.2.2.2.2.2.2.1 y.2.2.2.2.2.2.2.1) (fun V3=>
   bif decide (2<=(qw zp ((qw qT (g.1,g.2.1)).1,false)).1)then (
    V3 (decide ((qw zp ((qw qT (g.1,g.2.1)).1,false)).1<=6),(qw qT (g.1,g.2.1)).2.1,(qw qT (g.1,g.2.1)).2.2,cz,(qw zp ((qw qT (g.1,g.2.1)).1,false)).2.1,(qw zp ((qw qT (g.1,g.2.1)).1,false)).2.2,(⟨(qw zp ((qw qT (g.1,g.2.1)).1,false)).1,iz,0,iz,(⟨#[]⟩:ByteArray),0,(⟨#[]⟩:ByteArray),iz,iz,[],[]⟩:Chg),[],()))
   else (
    V3 (false,(qw qT (g.1,g.2.1)).2.1,(qw qT (g.1,g.2.1)).2.2,cz,(qw zp ((qw qT (g.1,g.2.1)).1,false)).2.1,(qw zp ((qw qT (g.1,g.2.1)).1,false)).2.2,(⟨(qw zp ((qw qT (g.1,g.2.1)).1,false)).1,iz,0,iz,(⟨#[]⟩:ByteArray),0,(⟨#[]⟩:ByteArray),iz,iz,[],[]⟩:Chg),[],()))))
theorem F55_eq (g:prodL L55) (K X:Kn):F55 g K=qW D (qJ [(51,Qk),(52,Qw),(53,wh),(101,kb),(102,KP)] []) (qv [(51,Qk),(52,Qw),(53,wh),(101,kb),(102,KP)]) H55 J55 83 [.cell 2 50] (qq Tryz.f55) (argsT S55 L55 g) (qZ S55 O55 L55 g) (settleG (qZ S55 O55 L55 g).length 0 K) X 0:=by kernel_rfl
theorem F55_ok (g:prodL L55) (K X:Kn) (h:F55 g K):FCalls Tryz.prog 55 (argsT S55 L55 g) (qZ S55 O55 L55 g) K X 0:=
 FCalls.settleG (qz (Γ:=qJ [(51,Qk),(52,Qw),(53,wh),(101,kb),(102,KP)] []) (mu:=qv [(51,Qk),(52,Qw),(53,wh),(101,kb),(102,KP)]) (H:=H55) (J:=J55) qh (qV (rs:=[(51,Qk),(52,Qw),(53,wh),(101,kb),(102,KP)]) (l:=[]) (by intro p hp;simp only [List.mem_cons,List.not_mem_nil,or_false] at hp;rcases hp with rfl | rfl | rfl | rfl | rfl<;>first | exact rw51_ok | exact rw52_ok | exact Xt | exact rw101_ok | exact rw102_ok) (fun p hp=>by cases hp)) qj rfl Tryz.func55 (c:=qq Tryz.f55) rfl Tryz.ntmps55 (rs:=[.cell 2 50]) Tryz.results55 (by unfold qk;rw [Tryz.func55];kernel_rfl) (Nat.le_of_ble_eq_true (by kernel_rfl)) (X:=X) (c0:=0) (Eq.mp (F55_eq g K X) h))
end Go.Proofs.YtbglndogddddoaaGreatDoor
namespace Go.Proofs.YtbglndogddddoaaGreatDoor
open Go.RowKit
set_option maxRecDepth 100000
abbrev KCh (K:Kn) (l:List Sx) (b:Bool):Chg×Bool->Prop:=fun r=>K (.ag (enc .chg r.1)) [some (.cells [.sl false .sexp l, .bool (b||r.2)])]
theorem Qi {K:Kn} {l q:List Sx} {b p:Bool} {t c:Chg} {ls:List ByteArray} (h:KCh K l b (⟨c.kind,c.file,c.typ,c.parent,c.name,c.mode,c.data,c.after,c.before,ls,c.over⟩,p)):Zv K l b t q p c ls:=by
 unfold Zv vr
 exact orBt (J:=fun b=>F55_J14 K l b t ⟨c.kind,c.file,c.typ,c.parent,c.name,c.mode,c.data,c.after,c.before,[],c.over⟩ ls) h
theorem xd {K:Kn} {l:List Sx} {b:Bool} {t:Chg} {kind typ mode:Int} {file parent after before:Idn} {name data:ByteArray} {over:List Idn} {r:Q4} (hb:qu r.1<=j6) (h:KCh K l b (cP3 ⟨kind,file,typ,parent,name,mode,data,after,before,[],over⟩ r)):
  XD K l b t r.1 r.2 ⟨kind,file,typ,parent,name,mode,data,after,before,[],over⟩ []:=by
 unfold XD vr
 unfold cP3 at h
 dsimp only at h ⊢
 cases e1:decide (kind=5)
 . rw [e1,cond_false] at h
   rw [cond_false]
   cases e2:decide (2<=kind)
   . rw [e2,cond_false] at h
     rw [cond_false]
     exact Qi h
   . rw [e2,cond_true] at h
     rw [cond_true]
     exact ⟨hb,Qi h⟩
 . rw [e1,cond_true] at h
   rw [cond_true]
   refine ⟨trivial, ?_⟩
   rw [j4 (f:=lPx) fun _=>rfl] at h
   rw [show (r.1,r.2)=r from rfl,j4 (f:=qT) fun _=>rfl]
   have hs:qu (xG r.1).list<=j6:=Jl hb
   have hlim:j6=1073741824:=rfl
   have hlen:=ku (xG r.1).list
   unfold F55_L10
   refine qX.map (xG r.1).list (fun x=>x.atom) (fun n out=>((xG r.1).list,(((xG r.1).list.length:Nat):Int),n,l,b,t,(JW r).1,(JW r).2,⟨kind,file,typ,parent,name,mode,data,after,before,[],over⟩,out,())) (by omega) rfl (fun W n hn out ho hW=> ?_) fun W=> ?_
   . show ZM K (fun y=>Zv K y.1 y.2.1 y.2.2.1 y.2.2.2.1 y.2.2.2.2.1 y.2.2.2.2.2.1 y.2.2.2.2.2.2.1) W (xG r.1).list (xG r.1).list.length n l b t _ _ _ out
     unfold ZM
     rw [zq hn,cond_true]
     exact zX hn ⟨by simp only [List.length_singleton,ho];omega,hW⟩
   . show ZM K (fun y=>Zv K y.1 y.2.1 y.2.2.1 y.2.2.2.1 y.2.2.2.2.1 y.2.2.2.2.2.1 y.2.2.2.2.2.2.1) W (xG r.1).list (xG r.1).list.length (xG r.1).list.length l b t _ _ _ _
     unfold ZM
     rw [qG,cond_false]
     exact Qi h
theorem KD {K:Kn} {l:List Sx} {b d:Bool} {t:Chg} {kind typ mode:Int} {file parent after before:Idn} {name data:ByteArray} {over:List Idn} {r:Q4} (hb:qu r.1<=j6)
  (h:KCh K l b (bif d then cP3 ⟨kind,file,typ,parent,name,mode,data,(qw zf r).1,(qw zf (qw zf r).2).1,[],over⟩ (qw zf (qw zf r).2).2 else cP3 ⟨kind,file,typ,parent,name,mode,data,after,before,[],over⟩ r)):
  F55_J6 K (fun y=>XD K y.1 y.2.1 y.2.2.1 y.2.2.2.1 y.2.2.2.2.1 y.2.2.2.2.2.1 y.2.2.2.2.2.2.1) d l b t r.1 r.2 ⟨kind,file,typ,parent,name,mode,data,after,before,[],over⟩ []:=by
 unfold F55_J6
 cases d
 . exact xd hb h
 . exact ⟨hb,vw hb,xd (vw (vw hb)) h⟩
theorem X8 {K:Kn} {l:List Sx} {b:Bool} {t:Chg} {kind typ mode:Int} {file parent after before:Idn} {name data:ByteArray} {over:List Idn} {r:Q4} (hb:qu r.1<=j6) (h:KCh K l b (cP2 ⟨kind,file,typ,parent,name,mode,data,after,before,[],over⟩ r)):
  Qz K l b t r.1 r.2 ⟨kind,file,typ,parent,name,mode,data,after,before,[],over⟩ []:=by
 unfold Qz vr
 unfold cP2 at h
 dsimp only at h ⊢
 cases e1:decide (kind=1)
 rotate_left
 . rw [e1,cond_true] at h;exact ⟨hb,xd (vw hb) h⟩
 rw [e1,cond_false] at h
 rw [cond_false]
 cases e2:decide (kind=2)
 rotate_left
 . rw [e2,cond_true] at h;exact ⟨hb,trivial,xd (vw (vw hb)) h⟩
 rw [e2,cond_false] at h
 rw [cond_false]
 cases e3:decide (kind=3)
 rotate_left
 . rw [e3,cond_true] at h;exact ⟨hb,xd (vw hb) h⟩
 rw [e3,cond_false] at h
 rw [cond_false]
 cases e4:decide (kind=4)
 rotate_left
 . rw [e4,cond_true] at h;exact ⟨trivial,xd (vw hb) h⟩
 rw [e4,cond_false] at h
 rw [cond_false]
 cases e5:decide (kind=5)
 . rw [e5] at h;exact KD hb h
 . rw [e5] at h;exact KD hb h
def pre55 (g:prodL L55):Prop:=qu g.1<=j6
def rw55:Raw:=⟨S55,O55,L55,0,fun g K _=>pre55 g/\K (.ag (enc .chg (qw JL (g.1,g.2.1)).1)) [some (.cells [.sl false .sexp (qw JL (g.1,g.2.1)).2.1, .bool (qw JL (g.1,g.2.1)).2.2])]⟩
theorem F55_J2_is {K:Kn} {l:List Sx} {b d:Bool} {t:Chg} {k:Int} {r:Q4} (hb:qu r.1<=j6) (h:KCh K l b (bif d then cP2 ⟨k,(qw zf r).1,0,iz,⟨#[]⟩,0,⟨#[]⟩,iz,iz,[],[]⟩ (qw zf r).2 else cP2 (qL k) r)):
  Wq K (fun y=>Qz K y.1 y.2.1 y.2.2.1 y.2.2.2.1 y.2.2.2.2.1 y.2.2.2.2.2.1 y.2.2.2.2.2.2.1) d l b t r.1 r.2 (qL k) []:=by
 unfold Wq
 cases d
 . exact X8 hb h
 . exact ⟨hb,X8 (vw hb) h⟩
theorem rw55_ok:rw55.Ok Tryz.prog 55:=fun g K X h=>F55_ok g K X (by
 obtain ⟨hb,h⟩:=h
 have hs:qu (xG g.1).list<=j6:=Jl hb
 refine ⟨trivial,hs, ?_⟩
 unfold vr
 rw [j4 (f:=qT) fun _=>rfl]
 have h:KCh K (JW (g.1,g.2.1)).1 (JW (g.1,g.2.1)).2 (cP1 (qL (qw zp ((xG g.1).list,false)).1) (qw zp ((xG g.1).list,false)).2):=h
 unfold cP1 at h
 have hJ: ∀d,KCh K (JW (g.1,g.2.1)).1 (JW (g.1,g.2.1)).2 (bif d then cP2 ⟨(qw zp ((xG g.1).list,false)).1,(qw zf (qw zp ((xG g.1).list,false)).2).1,0,iz,⟨#[]⟩,0,⟨#[]⟩,iz,iz,[],[]⟩ (qw zf (qw zp ((xG g.1).list,false)).2).2 else cP2 (qL (qw zp ((xG g.1).list,false)).1) (qw zp ((xG g.1).list,false)).2)->
   Wq K (fun y=>Qz K y.1 y.2.1 y.2.2.1 y.2.2.2.1 y.2.2.2.2.1 y.2.2.2.2.2.1 y.2.2.2.2.2.2.1) d (JW (g.1,g.2.1)).1 (JW (g.1,g.2.1)).2 cz (qw zp ((xG g.1).list,false)).2.1 (qw zp ((xG g.1).list,false)).2.2 (qL (qw zp ((xG g.1).list,false)).1) []:=fun d h=>F55_J2_is (vw hs) h
 exact QM (J:=fun d=>Wq K (fun y=>Qz K y.1 y.2.1 y.2.2.1 y.2.2.2.1 y.2.2.2.2.1 y.2.2.2.2.2.1 y.2.2.2.2.2.2.1) d _ _ cz _ _ (qL _) []) (f:=fun d=>bif d then cP2 ⟨(qw zp ((xG g.1).list,false)).1,(qw zf (qw zp ((xG g.1).list,false)).2).1,0,iz,⟨#[]⟩,0,⟨#[]⟩,iz,iz,[],[]⟩ (qw zf (qw zp ((xG g.1).list,false)).2).2 else cP2 (qL (qw zp ((xG g.1).list,false)).1) (qw zp ((xG g.1).list,false)).2) (K:=KCh K (JW (g.1,g.2.1)).1 (JW (g.1,g.2.1)).2) hJ h)
end Go.Proofs.YtbglndogddddoaaGreatDoor
namespace Go.Proofs.YtbglndogddddoaaGreatDoor
open Go.RowKit
attribute [local irreducible] qW qb
set_option maxRecDepth 100000
def H30:List (Nat×Hint):=[(8,⟨[((2,[]),none),((6,[]),none),((7,[]),none),((8,[]),none),((7,[3]),some .dig)],[(0, .leaf),(2, .pt 0 0),(6, .pt 1 0),(7, .pt 2 0),(8, .pt 3 0)],[.cells [.leaf, .leaf, .leaf, .nil, .nil], .cells [.leaf, .leaf], .cells [.leaf, .leaf, .leaf, .oa .dig 4, .nil], .cells [.leaf, .leaf], .arr .dig],[.str, .str, .str, .int .i64, .sl .sexp, .bool, .str, .str, .int .i64, .sl .sexp, .bool, .sl .dig]⟩),(11,⟨[((2,[]),none),((6,[]),none),((7,[]),none),((8,[]),none),((9,[]),none),((7,[3]),none),((7,[4]),some .chg)],[(0, .leaf),(2, .pt 0 0),(6, .pt 1 0),(7, .pt 2 0),(8, .pt 3 0),(9, .pt 4 0)],[.cells [.leaf, .leaf, .leaf, .nil, .nil], .cells [.leaf, .leaf], .cells [.leaf, .leaf, .leaf, .oa .dig 5, .oa .chg 6], .cells [.leaf, .leaf], .cells [.leaf, .leaf], .arr .dig, .arr .chg],[.str, .str, .str, .int .i64, .sl .sexp, .bool, .str, .str, .int .i64, .sl .sexp, .bool, .sl .sexp, .bool, .sl .dig, .sl .chg]⟩)]
def J30:List (Nat×Hint):=[(3,⟨[((2,[]),none),((4,[]),none)],[(0, .leaf),(2, .pt 0 0),(4, .pt 1 0),(23, .leaf)],[.cells [.leaf, .leaf, .leaf, .nil, .nil], .cells [.leaf, .leaf, .leaf]],[.str, .bool, .str, .str, .int .i64, .bool, .str, .sl .sexp]⟩),(13,⟨[((2,[]),none),((6,[]),none),((7,[]),none),((8,[]),none),((9,[]),none),((7,[3]),none),((7,[4]),none)],[(0, .leaf),(2, .pt 0 0),(6, .pt 1 0),(7, .pt 2 0),(8, .pt 3 0),(9, .pt 4 0)],[.cells [.leaf, .leaf, .leaf, .nil, .nil], .cells [.leaf, .leaf], .cells [.leaf, .leaf, .leaf, .oa .dig 5, .oa .chg 6], .cells [.leaf, .leaf], .cells [.leaf, .leaf], .arr .dig, .arr .chg],[.str, .str, .str, .int .i64, .sl .sexp, .bool, .str, .str, .int .i64, .sl .sexp, .bool, .sl .sexp, .bool, .sl .dig, .sl .chg]⟩),(14,⟨[((2,[]),none),((7,[]),none),((7,[3]),none),((7,[4]),none)],[(0, .leaf),(2, .pt 0 0),(7, .pt 1 0),(71, .leaf)],[.cells [.leaf, .leaf, .leaf, .nil, .nil], .cells [.leaf, .leaf, .leaf, .oa .dig 2, .oa .chg 3], .arr .dig, .arr .chg],[.str, .bool, .str, .str, .int .i64, .str, .str, .int .i64, .sl .dig, .sl .chg]⟩),(17,⟨[((2,[]),none),((7,[]),none),((7,[3]),none),((7,[4]),none)],[(2, .pt 0 0),(7, .pt 1 0),(84, .leaf)],[.cells [.leaf, .leaf, .leaf, .nil, .nil], .cells [.leaf, .leaf, .leaf, .oa .dig 2, .oa .chg 3], .arr .dig, .arr .chg],[.bool, .str, .str, .int .i64, .str, .str, .int .i64, .sl .dig, .sl .chg]⟩)]
abbrev S30:List Sh:=[.leaf]
abbrev L30:List Lf:=[.str]
def F30_J15 (K:Kn) (t_14:Bool) (t1_14 t2_14:ByteArray) (t3_14:Int) (p1_14 p2_14:ByteArray) (p3_14:Int) (p_14:List Dig) (p4_14:List Chg):Prop:=
 bif t_14 then (
  K (.tu [.ag [.str (⟨#[]⟩:ByteArray), .str (⟨#[]⟩:ByteArray), .int .i64 0, .nil, .nil], .int .i64 12]) [])
 else (
  K (.tu [.ag [.str p1_14, .str p2_14, .int .i64 p3_14, .sl false .dig p_14, .sl false .chg p4_14], .int .i64 0]) [])
def kP (K:Kn) (s_12:ByteArray) (t_12:Bool) (t1_12 t2_12:ByteArray) (t3_12:Int) (p1_12 p2_12:ByteArray) (p3_12:Int) (p_12:List Dig) (p4_12:List Chg):Prop:=
 bif t_12 then (
  K (.tu [.ag [.str (⟨#[]⟩:ByteArray), .str (⟨#[]⟩:ByteArray), .int .i64 0, .nil, .nil], .int .i64 12]) [])
 else (
  Wo.pre (p1_12,p2_12,p3_12,p_12,p4_12,())/\
 bif !decide ((zH p1_12 p2_12 p3_12 p_12 p4_12).2.2=0)then (
  F30_J15 K true t1_12 t2_12 t3_12 p1_12 p2_12 p3_12 p_12 p4_12)
 else (
  F30_J15 K (!decide ((zH p1_12 p2_12 p3_12 p_12 p4_12).2.1=s_12)) t1_12 t2_12 t3_12 p1_12 p2_12 p3_12 p_12 p4_12))
def Xr (K:Kn) (s_11 t1_11 t2_11:ByteArray) (t3_11:Int) (r1_11:List Sx) (r2_11:Bool) (p1_11 p2_11:ByteArray) (p3_11:Int) (deps1_11:List Sx) (deps2_11:Bool) (changes1_11:List Sx) (changes2_11:Bool) (p_11:List Dig) (p4_11:List Chg):Prop:=
 bif r2_11 then (
  kP K s_11 true t1_11 t2_11 t3_11 p1_11 p2_11 p3_11 p_11 p4_11)
 else (
  bif deps2_11 then (
   kP K s_11 true t1_11 t2_11 t3_11 p1_11 p2_11 p3_11 p_11 p4_11)
  else (
   kP K s_11 changes2_11 t1_11 t2_11 t3_11 p1_11 p2_11 p3_11 p_11 p4_11))
def yX (K:Kn) (W10:prodL [.str, .str, .str, .int .i64, .sl .sexp, .bool, .str, .str, .int .i64, .sl .sexp, .bool, .sl .sexp, .bool, .sl .dig, .sl .chg]->Prop) (s_9 t1_9 t2_9:ByteArray) (t3_9:Int) (r1_9:List Sx) (r2_9:Bool) (p1_9 p2_9:ByteArray) (p3_9:Int) (deps1_9:List Sx) (deps2_9:Bool) (changes1_9:List Sx) (changes2_9:Bool) (p_9:List Dig) (p4_9:List Chg):Prop:=
 bif decide (0< (changes1_9.length:Int))then (
  bif !changes2_9 then (
  pre55 (changes1_9,changes2_9,())/\
 qP (p4_9.length+[((qw JL (changes1_9,changes2_9)).1)].length) 264 (
 W10 (s_9,t1_9,t2_9,t3_9,r1_9,r2_9,p1_9,p2_9,p3_9,deps1_9,deps2_9,(qw JL (changes1_9,changes2_9)).2.1,(qw JL (changes1_9,changes2_9)).2.2,p_9,p4_9++[((qw JL (changes1_9,changes2_9)).1)],())))
 else (
  Xr K s_9 t1_9 t2_9 t3_9 r1_9 r2_9 p1_9 p2_9 p3_9 deps1_9 deps2_9 changes1_9 changes2_9 p_9 p4_9))
 else (
  Xr K s_9 t1_9 t2_9 t3_9 r1_9 r2_9 p1_9 p2_9 p3_9 deps1_9 deps2_9 changes1_9 changes2_9 p_9 p4_9)
def F30_L10 (K:Kn) (g:prodL [.str, .str, .str, .int .i64, .sl .sexp, .bool, .str, .str, .int .i64, .sl .sexp, .bool, .sl .sexp, .bool, .sl .dig, .sl .chg]):Prop:=
 qX (γ:=prodL [.str, .str, .str, .int .i64, .sl .sexp, .bool, .str, .str, .int .i64, .sl .sexp, .bool, .sl .sexp, .bool, .sl .dig, .sl .chg]) (fun V y=>yX K V y.1 y.2.1 y.2.2.1 y.2.2.2.1 y.2.2.2.2.1 y.2.2.2.2.2.1 y.2.2.2.2.2.2.1 y.2.2.2.2.2.2.2.1 y.2.2.2.2.2.2.2.2.1 y.2.2.2.2.2.2.2.2.2.1 y.2.2.2.2.2.2.2.2.2.2.1 y.2.2.2.2.2.2.2.2.2.2.2.1 y.2.2.2.2.2.2.2.2.2.2.2.2.1 y.2.2.2.2.2.2.2.2.2.2.2.2.2.1 y.2.2.2.2.2.2.2.2.2.2.2.2.2.2.1) g
def Wd (K:Kn) (W6:prodL [.str, .str, .str, .int .i64, .sl .sexp, .bool, .str, .str, .int .i64, .sl .sexp, .bool, .sl .dig]->Prop) (s_5 t1_5 t2_5:ByteArray) (t3_5:Int) (r1_5:List Sx) (r2_5:Bool) (p1_5 p2_5:ByteArray) (p3_5:Int) (deps1_5:List Sx) (deps2_5:Bool) (p_5:List Dig):Prop:=
 bif decide (0< (deps1_5.length:Int))then (
  pre54 (deps1_5,deps2_5,())/\
 qP (p_5.length+[((qw Zi (deps1_5,deps2_5)).1)].length) 32 (
 W6 (s_5,t1_5,t2_5,t3_5,r1_5,r2_5,p1_5,p2_5,p3_5,(qw Zi (deps1_5,deps2_5)).2.1,(qw Zi (deps1_5,deps2_5)).2.2,p_5++[((qw Zi (deps1_5,deps2_5)).1)],())))
 else (
  WU (r1_5,r2_5,())/\
 F30_L10 K (s_5,t1_5,t2_5,t3_5,(qw qT (r1_5,r2_5)).2.1,(qw qT (r1_5,r2_5)).2.2,p1_5,p2_5,p3_5,deps1_5,deps2_5,(qw qT (r1_5,r2_5)).1,false,p_5,[],()))
def F30_L6 (K:Kn) (g:prodL [.str, .str, .str, .int .i64, .sl .sexp, .bool, .str, .str, .int .i64, .sl .sexp, .bool, .sl .dig]):Prop:=
 qX (γ:=prodL [.str, .str, .str, .int .i64, .sl .sexp, .bool, .str, .str, .int .i64, .sl .sexp, .bool, .sl .dig]) (fun V y=>Wd K V y.1 y.2.1 y.2.2.1 y.2.2.2.1 y.2.2.2.2.1 y.2.2.2.2.2.1 y.2.2.2.2.2.2.1 y.2.2.2.2.2.2.2.1 y.2.2.2.2.2.2.2.2.1 y.2.2.2.2.2.2.2.2.2.1 y.2.2.2.2.2.2.2.2.2.2.1 y.2.2.2.2.2.2.2.2.2.2.2.1) g
def Vu (K:Kn) (s_1:ByteArray) (t_1:Bool) (t1_1 t2_1:ByteArray) (t3_1:Int) (x1_1:Bool) (x2_1:ByteArray) (x3_1:List Sx):Prop:=
 bif t_1 then (
  K (.tu [.ag [.str (⟨#[]⟩:ByteArray), .str (⟨#[]⟩:ByteArray), .int .i64 0, .nil, .nil], .int .i64 12]) [])
 else (
  Vc (x3_1,false,())/\
 Vc ((qw zG (x3_1,false)).2.1,(qw zG (x3_1,false)).2.2,())/\
 Vc ((qw zG ((qw zG (x3_1,false)).2)).2.1,(qw zG ((qw zG (x3_1,false)).2)).2.2,())/\
 Ki ((qw zG ((qw zG ((qw zG (x3_1,false)).2)).2)).2.1,(qw zG ((qw zG ((qw zG (x3_1,false)).2)).2)).2.2,())/\
 WU ((qw zp ((qw zG ((qw zG ((qw zG (x3_1,false)).2)).2)).2)).2.1,(qw zp ((qw zG ((qw zG ((qw zG (x3_1,false)).2)).2)).2)).2.2,())/\
 F30_L6 K (s_1,t1_1,t2_1,t3_1,(qw qT ((qw zp ((qw zG ((qw zG ((qw zG (x3_1,false)).2)).2)).2)).2)).2.1,(qw qT ((qw zp ((qw zG ((qw zG ((qw zG (x3_1,false)).2)).2)).2)).2)).2.2,(qw zG ((qw zG (x3_1,false)).2)).1,(qw zG ((qw zG ((qw zG (x3_1,false)).2)).2)).1,(qw zp ((qw zG ((qw zG ((qw zG (x3_1,false)).2)).2)).2)).1,(qw qT ((qw zp ((qw zG ((qw zG ((qw zG (x3_1,false)).2)).2)).2)).2)).1,false,[],()))
def F30 (g:prodL L30) (K:Kn):Prop:=
 sp50.pre (g.1,())/\
 bif !decide ((jH g.1).2=0)then (
  Vu K g.1 true (⟨#[]⟩:ByteArray) (⟨#[]⟩:ByteArray) 0 (((jH g.1).1).isList) (((jH g.1).1).atom) (((jH g.1).1).list))
 else (
  Vu K g.1 (decide (65536< (g.1.size:Int))) (⟨#[]⟩:ByteArray) (⟨#[]⟩:ByteArray) 0 (((jH g.1).1).isList) (((jH g.1).1).atom) (((jH g.1).1).list))
theorem F30_eq (g:prodL L30) (K X:Kn):F30 g K=qW D (qJ [(51,Qk),(52,Qw),(53,wh),(54,Yw),(55,rw55)] [(13,true,Wo),(50,false,sp50)]) (qv [(51,Qk),(52,Qw),(53,wh),(54,Yw),(55,rw55)]) H30 J30 87 [.cell 2 25, .tmp 3] (qq Tryz.f30) (argsT S30 L30 g) [] (settle0 K) X:=by kernel_rfl
theorem F30_ok (g:prodL L30) (K X:Kn) (h:F30 g K):FCalls Tryz.prog 30 (argsT S30 L30 g) [] K X:=
 FCalls.settle0 (qz (Γ:=qJ [(51,Qk),(52,Qw),(53,wh),(54,Yw),(55,rw55)] [(13,true,Wo),(50,false,sp50)]) (mu:=qv [(51,Qk),(52,Qw),(53,wh),(54,Yw),(55,rw55)]) (H:=H30) (J:=J30) qh (qV (rs:=[(51,Qk),(52,Qw),(53,wh),(54,Yw),(55,rw55)]) (l:=[(13,true,Wo),(50,false,sp50)]) (by intro p hp;simp only [List.mem_cons,List.not_mem_nil,or_false] at hp;rcases hp with rfl | rfl | rfl | rfl | rfl<;>first | exact rw51_ok | exact rw52_ok | exact Xt | exact rw54_ok | exact rw55_ok) (by intro p hp;simp only [List.mem_cons,List.not_mem_nil,or_false] at hp;rcases hp with rfl | rfl<;>first | exact XG | exact sp50_ok)) qj rfl Tryz.func30 (c:=qq Tryz.f30) rfl Tryz.ntmps30 Tryz.results30 (by unfold qk;rw [Tryz.func30];kernel_rfl) (Nat.le_of_ble_eq_true (by kernel_rfl)) (c0:=0) (Eq.mp (F30_eq g K X) h))
end Go.Proofs.YtbglndogddddoaaGreatDoor
namespace Go.Proofs.YtbglndogddddoaaGreatDoor
open Go.RowKit
set_option maxRecDepth 100000
abbrev KDr (K:Kn) (d:Dr):Prop:=K (.tu [.ag [.str d.a, .str d.m, .int .i64 d.t, .sl false .dig d.ds, .sl false .chg d.cs], .int .i64 d.e]) []
theorem wk_drZ {K:Kn} (h:KDr K drZ):xp K (.tu [.ag [.str (⟨#[]⟩:ByteArray), .str (⟨#[]⟩:ByteArray), .int .i64 0, .nil, .nil], .int .i64 12]) []:=
 ⟨_,za.tu (qt.cons (za.ag (qt.cons (za.refl _) (qt.cons (za.refl _) (qt.cons (za.refl _) (qt.cons (za.nil .dig) (qt.cons (za.nil .chg) qt.nil)))))) (qt.cons (za.refl _) qt.nil)),h⟩
theorem lim_dc {s:ByteArray} (h:s.size<=1048576):qu (jH s).1.list<=j6:=by
 have:=dcT_bk s
 rw [XN] at this
 have e:j6=1073741824:=rfl
 omega
theorem F30_J13_is {K:Kn} {s t1 t2 a m:ByteArray} {t3 t:Int} {b:Bool} {ds:List Dig} {cs:List Chg} (hp:b=false->xP a m t ds cs) (h:KDr K (Jg s ⟨a,m,t,ds,cs,b⟩ (zH a m t ds cs).2)):kP (xp K) s b t1 t2 t3 a m t ds cs:=by
 unfold kP
 unfold Jg at h
 cases b
 rotate_left
 . exact wk_drZ h
 dsimp only at h
 rw [cond_false] at h
 refine ⟨hp rfl, ?_⟩
 cases e:decide ((zH a m t ds cs).2.2=0)
 . rw [e,Bool.not_false,cond_true] at h
   exact wk_drZ h
 . rw [e,Bool.not_true,cond_false] at h
   rw [Bool.not_true,cond_false]
   unfold F30_J15
   cases e2:decide ((zH a m t ds cs).2.1=s)
   . rw [e2] at h;exact wk_drZ h
   . rw [e2] at h;exact xp.same h
theorem Zz {K:Kn} {s t1 t2 a m:ByteArray} {t3 t:Int} {r1 d1 c1:List Sx} {r2 d2 c2:Bool} {ds:List Dig} {cs:List Chg} (hp:(r2||(d2||c2))=false->xP a m t ds cs) (h:KDr K (Jg s ⟨a,m,t,ds,cs,r2||(d2||c2)⟩ (zH a m t ds cs).2)):
  Xr (xp K) s t1 t2 t3 r1 r2 a m t d1 d2 c1 c2 ds cs:=by
 unfold Xr
 exact or4t (J:=fun b=>kP (xp K) s b t1 t2 t3 a m t ds cs) (F30_J13_is hp h)
theorem F30_L10_is {K:Kn} {s t1 t2 a m:ByteArray} {t3 t:Int} {r1 d1 q:List Sx} {r2 d2:Bool} {ds:List Dig} (hb:qu q<=j6) (hp:((r2||(d2||(zQ JL q).2))=false->xP a m t ds (zQ JL q).1))
  (h:KDr K (Jg s ⟨a,m,t,ds,(zQ JL q).1,r2||(d2||(zQ JL q).2)⟩ (zH a m t ds (zQ JL q).1).2)):
  F30_L10 (xp K) (s,t1,t2,t3,r1,r2,a,m,t,d1,d2,q,false,ds,[],()):=by
 have hlim:j6=1073741824:=rfl
 unfold F30_L10
 refine qX.readsB JL (fun q b out=>(s,t1,t2,t3,r1,r2,a,m,t,d1,d2,q,b,ds,out,())) (fun q out=>qu q<=j6/\out.length+q.length<=1073741824)
  (fun r=>((r2||(d2||r.2))=false->xP a m t ds r.1)/\KDr K (Jg s ⟨a,m,t,ds,r.1,r2||(d2||r.2)⟩ (zH a m t ds r.1).2)) q rfl
  ⟨hb,by have:=ku q;simp only [List.length_nil];omega⟩ (fun x q out hi=> ?_) (fun W x q out hi hW=> ?_) (fun W q out hq=> ?_) (fun W out hq=> ?_) ⟨hp,h⟩
 . obtain ⟨h1,h2⟩:=hi
   simp only [qu,List.length_cons] at h1 h2
   exact ⟨by omega,by simp only [List.length_append,List.length_singleton];omega⟩
 . obtain ⟨h1,h2⟩:=hi
   show yX (xp K) W s t1 t2 t3 r1 r2 a m t d1 d2 (x::q) false ds out
   unfold yX
   rw [decide_eq_true (show (0:Int) < (((x::q).length:Nat):Int)by rw [List.length_cons];omega),cond_true,Bool.not_false,cond_true]
   rw [List.length_cons] at h2
   exact ⟨h1,by simp only [List.length_singleton];omega,hW⟩
 . show yX (xp K) W s t1 t2 t3 r1 r2 a m t d1 d2 q true ds out
   unfold yX
   cases decide ((0:Int) < ((q.length:Nat):Int))
   . exact Zz (r1:=r1) (d1:=d1) (c1:=q) hq.1 hq.2
   . exact Zz (r1:=r1) (d1:=d1) (c1:=q) hq.1 hq.2
 . show yX (xp K) W s t1 t2 t3 r1 r2 a m t d1 d2 [] false ds out
   unfold yX
   show bif decide ((0:Int) <0)then _ else _
   rw [decide_eq_false (by omega),cond_false]
   exact Zz hq.1 hq.2
theorem F30_L6_is {K:Kn} {s t1 t2 a m:ByteArray} {t3 t:Int} {r:Q4} {q:List Sx} (hb:qu q<=j6) (hr:qu r.1<=j6) (hp:(((qw qT r).2.2||((q.any fun x=>(Zi x).2)||(zQ JL (qw qT r).1).2))=false->xP a m t (q.map fun x=>(Zi x).1) (zQ JL (qw qT r).1).1)) (h:KDr K (Jg s ⟨a,m,t,(q.map fun x=>(Zi x).1),(zQ JL (qw qT r).1).1,((qw qT r).2.2||((q.any fun x=>(Zi x).2)||(zQ JL (qw qT r).1).2))⟩ (zH a m t (q.map fun x=>(Zi x).1) (zQ JL (qw qT r).1).1).2)):
  F30_L6 (xp K) (s,t1,t2,t3,r.1,r.2,a,m,t,q,false,[],()):=by
 have hlim:j6=1073741824:=rfl
 unfold F30_L6
 refine qX.reads Zi (fun q b out=>(s,t1,t2,t3,r.1,r.2,a,m,t,q,b,out,())) (fun q out=>qu q<=j6/\out.length+q.length<=1073741824) (fun y=>(((qw qT r).2.2||(y.2||(zQ JL (qw qT r).1).2))=false->xP a m t y.1 (zQ JL (qw qT r).1).1)/\KDr K (Jg s ⟨a,m,t,y.1,(zQ JL (qw qT r).1).1,((qw qT r).2.2||(y.2||(zQ JL (qw qT r).1).2))⟩ (zH a m t y.1 (zQ JL (qw qT r).1).1).2)) q rfl
  ⟨hb,by have:=ku q;simp only [List.length_nil];omega⟩ (fun x q out hi=> ?_) (fun W x q b out hi hW=> ?_) (fun W b out hq=> ?_) ⟨hp,h⟩
 . obtain ⟨h1,h2⟩:=hi
   simp only [qu,List.length_cons] at h1 h2
   exact ⟨by omega,by simp only [List.length_append,List.length_singleton];omega⟩
 . obtain ⟨h1,h2⟩:=hi
   show Wd (xp K) W s t1 t2 t3 r.1 r.2 a m t (x::q) b out
   unfold Wd
   rw [decide_eq_true (show (0:Int) < (((x::q).length:Nat):Int)by rw [List.length_cons];omega),cond_true]
   rw [List.length_cons] at h2
   exact ⟨trivial,by simp only [List.length_singleton];omega,hW⟩
 . show Wd (xp K) W s t1 t2 t3 r.1 r.2 a m t [] b out
   unfold Wd
   show bif decide ((0:Int) <0)then _ else _
   rw [decide_eq_false (by omega),cond_false]
   exact ⟨trivial,F30_L10_is (Jl hr) hq.1 hq.2⟩
def badD (s:ByteArray):Bool:=bif !decide ((jH s).2=0)then true else decide (65536< ((s.size:Nat):Int))
def QH (s:ByteArray):Dr:=bif badD s then drZ else Jg s (kr (jH s).1.list) (zH (kr (jH s).1.list).a (kr (jH s).1.list).m (kr (jH s).1.list).t (kr (jH s).1.list).ds (kr (jH s).1.list).cs).2
def xR (p:Rp):Prop:=xP p.a p.m p.t p.ds p.cs
def preP (s:ByteArray):Prop:=s.size<=1048576/\(badD s=false->(kr (jH s).1.list).bad=false->xR (kr (jH s).1.list))
theorem F30_J2_is {K:Kn} {s:ByteArray} (hs:s.size<=1048576) {b:Bool} (hp:b=false->(kr (jH s).1.list).bad=false->xR (kr (jH s).1.list))
  (h:KDr K (bif b then drZ else Jg s (kr (jH s).1.list) (zH (kr (jH s).1.list).a (kr (jH s).1.list).m (kr (jH s).1.list).t (kr (jH s).1.list).ds (kr (jH s).1.list).cs).2)):Vu (xp K) s b ⟨#[]⟩ ⟨#[]⟩ 0 (jH s).1.isList (jH s).1.atom (jH s).1.list:=by
 unfold Vu
 cases b
 rotate_left
 . exact wk_drZ h
 rw [cond_false] at h
 have hp:=hp rfl
 have hb:=lim_dc hs
 generalize (jH s).1.list=l at hb h hp ⊢
 have h3:qu (qw zG (qw zG (qw zG (l,false)).2).2).2.1<=j6:=vw (vw (vw hb))
 have h4:qu (qw zp (qw zG (qw zG (qw zG (l,false)).2).2).2).2.1<=j6:=vw h3
 have h5:qu (qw qT (qw zp (qw zG (qw zG (qw zG (l,false)).2).2).2).2).2.1<=j6:=vw h4
 exact ⟨trivial,trivial,trivial,h3,trivial,F30_L6_is (r:=(qw qT (qw zp (qw zG (qw zG (qw zG (l,false)).2).2).2).2).2) (Jl h4) h5 hp h⟩
theorem F30_is {s:ByteArray} {K:Kn} (hp:preP s) (h:KDr K (QH s)):F30 (s,()) (xp K):=by
 unfold F30
 refine ⟨Nat.le_trans hp.1 (by decide), ?_⟩
 exact QM (J:=fun b=>Vu (xp K) s b ⟨#[]⟩ ⟨#[]⟩ 0 (jH s).1.isList (jH s).1.atom (jH s).1.list) (f:=fun b=>b) (K:=fun b=>(b=false->(kr (jH s).1.list).bad=false->xR (kr (jH s).1.list))/\
  KDr K (bif b then drZ else Jg s (kr (jH s).1.list) (zH (kr (jH s).1.list).a (kr (jH s).1.list).m (kr (jH s).1.list).t (kr (jH s).1.list).ds (kr (jH s).1.list).cs).2)) (fun b hb=>F30_J2_is hp.1 hb.1 hb.2) ⟨hp.2,h⟩
def sp30:Sp:=⟨S30,L30,fun g=>preP g.1,fun g=> .tu [.ag [.str (QH g.1).a, .str (QH g.1).m, .int .i64 (QH g.1).t, .sl false .dig (QH g.1).ds, .sl false .chg (QH g.1).cs], .int .i64 (QH g.1).e],fun _=>none⟩
theorem sp30_ok:sp30.Ok Tryz.prog 30 false:=
 ⟨fun g K X hp h=>FCalls.weak (F30_ok g (xp K) X (F30_is hp h)),fun _ _ _=>rfl,fun _=>rfl,fun h=>(by cases h)⟩
end Go.Proofs.YtbglndogddddoaaGreatDoor
namespace Go.Proofs.YtbglndogddddoaaGreatDoor
open Go.RowKit
attribute [local irreducible] qW qb
set_option maxRecDepth 100000
def H63:List (Nat×Hint):=[]
def J63:List (Nat×Hint):=[]
abbrev S63:List Sh:=[.leaf, .leaf]
abbrev L63:List Lf:=[.el .chg, .el .chg]
def F63 (g:prodL L63) (K:Kn):Prop:=
 bif decide (g.1.kind=g.2.1.kind)then (
  bif zw g.1.file g.2.1.file then (
   bif decide (g.1.typ=g.2.1.typ)then (
    bif zw g.1.parent g.2.1.parent then (
     bif decide (g.1.name=g.2.1.name)then (
      bif decide (g.1.mode=g.2.1.mode)then (
       bif decide (g.1.data=g.2.1.data)then (
        bif zw g.1.after g.2.1.after then (
         bif zw g.1.before g.2.1.before then (
          sp109.pre (g.1.lines,g.2.1.lines,())/\
          bif decide (g.1.lines=g.2.1.lines)then (
           sp110.pre (g.1.over,g.2.1.over,())/\
           K (.bool (decide (g.1.over=g.2.1.over))) [])
          else (
           K (.bool false) []))
         else (
          K (.bool false) []))
        else (
         K (.bool false) []))
       else (
        K (.bool false) []))
      else (
       K (.bool false) []))
     else (
      K (.bool false) []))
    else (
     K (.bool false) []))
   else (
    K (.bool false) []))
  else (
   K (.bool false) []))
 else (
  K (.bool false) [])
theorem F63_eq (g:prodL L63) (K X:Kn):F63 g K=qW D (qJ [] [(109,true,sp109),(110,true,sp110)]) (qv []) H63 J63 80 [.tmp 4] (qq Tryz.f63) (argsT S63 L63 g) [] (settle0 K) X:=by kernel_rfl
theorem F63_ok (g:prodL L63) (K X:Kn) (h:F63 g K):FCalls Tryz.prog 63 (argsT S63 L63 g) [] K X:=
 FCalls.settle0 (qz qh (vN (vV sp109_ok (vV sp110_ok vC))) qj rfl Tryz.func63 (c:=qq Tryz.f63) rfl Tryz.ntmps63 Tryz.results63 (by unfold qk;rw [Tryz.func63];kernel_rfl) (Nat.le_of_ble_eq_true (by kernel_rfl)) (c0:=0) (Eq.mp (F63_eq g K X) h))
end Go.Proofs.YtbglndogddddoaaGreatDoor
namespace Go.Proofs.YtbglndogddddoaaGreatDoor
open Go.RowKit
set_option maxRecDepth 100000
theorem idEq_self (x:Idn):zw x x=true:=by rw [vZ];exact decide_eq_true rfl
def sp63:Sp:=⟨S63,L63,fun g=>g.1=g.2.1/\Yk g.1.lines.length/\Yk g.1.over.length,fun _=> .bool true,fun _=>none⟩
theorem sp63_ok:sp63.Ok Tryz.prog 63 true:=
 ⟨fun g K X hp h=>F63_ok g K X (by
  obtain ⟨c,c',⟨⟩⟩:=g
  obtain ⟨e,h1,h2⟩:=hp
  have e:c=c':=e
  subst e
  unfold F63
  simp only [idEq_self,decide_true,cond_true]
  exact ⟨h1,h2,h⟩),fun _ _ _=>rfl,fun _=>rfl,fun _ _=>⟨rfl,rfl⟩⟩
end Go.Proofs.YtbglndogddddoaaGreatDoor
namespace Go.Proofs.YtbglndogddddoaaGreatDoor
open Go.RowKit
attribute [local irreducible] qW qb
set_option maxRecDepth 100000
def H32:List (Nat×Hint):=[(4,⟨[((2,[]),none),((3,[]),none)],[(2, .pt 0 0),(3, .pt 1 0),(5, .leaf)],[.cells [.leaf, .leaf, .leaf, .leaf, .leaf], .cells [.leaf, .leaf, .leaf, .leaf, .leaf]],[.int .i64, .str, .str, .int .i64, .sl .dig, .sl .chg, .str, .str, .int .i64, .sl .dig, .sl .chg]⟩)]
def J32:List (Nat×Hint):=[(2,⟨[((2,[]),none),((3,[]),none)],[(2, .pt 0 0),(3, .pt 1 0),(41, .leaf)],[.cells [.leaf, .leaf, .leaf, .leaf, .leaf], .cells [.leaf, .leaf, .leaf, .leaf, .leaf]],[.bool, .str, .str, .int .i64, .sl .dig, .sl .chg, .str, .str, .int .i64, .sl .dig, .sl .chg]⟩)]
abbrev S32:List Sh:=[.ag [.leaf, .leaf, .leaf, .leaf, .leaf], .ag [.leaf, .leaf, .leaf, .leaf, .leaf]]
abbrev L32:List Lf:=[.str, .str, .int .i64, .sl .dig, .sl .chg, .str, .str, .int .i64, .sl .dig, .sl .chg]
def F32_B4 (K:Kn) (W4:prodL [.int .i64, .str, .str, .int .i64, .sl .dig, .sl .chg, .str, .str, .int .i64, .sl .dig, .sl .chg]->Prop) (i_3:Int) (a1_3 a2_3:ByteArray) (a3_3:Int) (a4_3:List Dig) (a5_3:List Chg) (b1_3 b2_3:ByteArray) (b3_3:Int) (b4_3:List Dig) (b5_3:List Chg):Prop:=
 bif decide (i_3< (a5_3.length:Int))then (
  At a5_3 i_3 fun u5=>
 At b5_3 i_3 fun u6=>
 sp63.pre (u5,u6,())/\
 W4 (IntKind.i64.wrap (i_3+1),a1_3,a2_3,a3_3,a4_3,a5_3,b1_3,b2_3,b3_3,b4_3,b5_3,()))
 else (
  K (.bool true) [])
def F32_L4 (K:Kn) (g:prodL [.int .i64, .str, .str, .int .i64, .sl .dig, .sl .chg, .str, .str, .int .i64, .sl .dig, .sl .chg]):Prop:=
 qX (γ:=prodL [.int .i64, .str, .str, .int .i64, .sl .dig, .sl .chg, .str, .str, .int .i64, .sl .dig, .sl .chg]) (fun V y=>F32_B4 K V y.1 y.2.1 y.2.2.1 y.2.2.2.1 y.2.2.2.2.1 y.2.2.2.2.2.1 y.2.2.2.2.2.2.1 y.2.2.2.2.2.2.2.1 y.2.2.2.2.2.2.2.2.1 y.2.2.2.2.2.2.2.2.2.1 y.2.2.2.2.2.2.2.2.2.2.1) g
def Jb (K:Kn) (t_1:Bool) (a1_1 a2_1:ByteArray) (a3_1:Int) (a4_1:List Dig) (a5_1:List Chg) (b1_1 b2_1:ByteArray) (b3_1:Int) (b4_1:List Dig) (b5_1:List Chg):Prop:=
 bif t_1 then (
  K (.bool false) [])
 else (
  F32_L4 K (0,a1_1,a2_1,a3_1,a4_1,a5_1,b1_1,b2_1,b3_1,b4_1,b5_1,()))
def F32 (g:prodL L32) (K:Kn):Prop:=
 bif !decide (g.1=g.2.2.2.2.2.1)then (
  Jb K true g.1 g.2.1 g.2.2.1 g.2.2.2.1 g.2.2.2.2.1 g.2.2.2.2.2.1 g.2.2.2.2.2.2.1 g.2.2.2.2.2.2.2.1 g.2.2.2.2.2.2.2.2.1 g.2.2.2.2.2.2.2.2.2.1)
 else (
  bif !decide (g.2.1=g.2.2.2.2.2.2.1)then (
   Jb K true g.1 g.2.1 g.2.2.1 g.2.2.2.1 g.2.2.2.2.1 g.2.2.2.2.2.1 g.2.2.2.2.2.2.1 g.2.2.2.2.2.2.2.1 g.2.2.2.2.2.2.2.2.1 g.2.2.2.2.2.2.2.2.2.1)
  else (
   bif !decide (g.2.2.1=g.2.2.2.2.2.2.2.1)then (
    Jb K true g.1 g.2.1 g.2.2.1 g.2.2.2.1 g.2.2.2.2.1 g.2.2.2.2.2.1 g.2.2.2.2.2.2.1 g.2.2.2.2.2.2.2.1 g.2.2.2.2.2.2.2.2.1 g.2.2.2.2.2.2.2.2.2.1)
   else (
    sp62.pre (g.2.2.2.1,g.2.2.2.2.2.2.2.2.1,())/\
    bif !(decide (g.2.2.2.1=g.2.2.2.2.2.2.2.2.1))then (
     Jb K true g.1 g.2.1 g.2.2.1 g.2.2.2.1 g.2.2.2.2.1 g.2.2.2.2.2.1 g.2.2.2.2.2.2.1 g.2.2.2.2.2.2.2.1 g.2.2.2.2.2.2.2.2.1 g.2.2.2.2.2.2.2.2.2.1)
    else (
     Jb K (!decide ((g.2.2.2.2.1.length:Int)=(g.2.2.2.2.2.2.2.2.2.1.length:Int))) g.1 g.2.1 g.2.2.1 g.2.2.2.1 g.2.2.2.2.1 g.2.2.2.2.2.1 g.2.2.2.2.2.2.1 g.2.2.2.2.2.2.2.1 g.2.2.2.2.2.2.2.2.1 g.2.2.2.2.2.2.2.2.2.1))))
theorem F32_eq (g:prodL L32) (K X:Kn):F32 g K=qW D (qJ [] [(62,true,sp62),(63,true,sp63)]) (qv []) H32 J32 61 [.tmp 4] (qq Tryz.f32) (argsT S32 L32 g) [] (settle0 K) X:=by kernel_rfl
theorem F32_ok (g:prodL L32) (K X:Kn) (h:F32 g K):FCalls Tryz.prog 32 (argsT S32 L32 g) [] K X:=
 FCalls.settle0 (qz qh (vN (vV sp62_ok (vV sp63_ok vC))) qj rfl Tryz.func32 (c:=qq Tryz.f32) rfl Tryz.ntmps32 Tryz.results32 (by unfold qk;rw [Tryz.func32];kernel_rfl) (Nat.le_of_ble_eq_true (by kernel_rfl)) (c0:=0) (Eq.mp (F32_eq g K X) h))
end Go.Proofs.YtbglndogddddoaaGreatDoor
namespace Go.Proofs.YtbglndogddddoaaGreatDoor
open Go.RowKit
set_option maxRecDepth 100000
def preS (a m:ByteArray) (t:Int) (ds:List Dig) (cs:List Chg):Prop:=Yk ds.length/\cs.length<=4294967296/\ ∀c∈cs,Yk c.lines.length/\Yk c.over.length
theorem F32_is {a m:ByteArray} {t:Int} {ds:List Dig} {cs:List Chg} {K:Kn} (hp:preS a m t ds cs) (h:K (.bool true) []):F32 (a,m,t,ds,cs,a,m,t,ds,cs,()) K:=by
 obtain ⟨h1,h2,h3⟩:=hp
 unfold F32
 simp only [decide_true,Bool.not_true,cond_false]
 refine ⟨h1, ?_⟩
 unfold Jb
 rw [cond_false]
 unfold F32_L4
 refine qX.countTo cs.length (fun n=>((n:Int),a,m,t,ds,cs,a,m,t,ds,cs,())) (fun _=>True) rfl (fun n hn _ W hW=> ?_) trivial
 show F32_B4 K W n a m t ds cs a m t ds cs
 unfold F32_B4
 by_cases hlt:n<cs.length
 . rw [zq hlt,cond_true]
   obtain ⟨k1,k2⟩:=h3 _ (List.getElem_mem hlt)
   refine zX hlt (zX hlt ⟨⟨rfl,k1,k2⟩, ?_⟩)
   rw [jw hlt h2]
   exact hW hlt trivial
 . have:n=cs.length:=by omega
   subst this
   rw [qG,cond_false]
   exact h
theorem F32_is' {a m a' m':ByteArray} {t t':Int} {ds ds':List Dig} {cs cs':List Chg} {K:Kn} (e1:a'=a) (e2:m'=m) (e3:t'=t) (e4:ds'=ds) (e5:cs'=cs) (hp:preS a m t ds cs) (h:K (.bool true) []):F32 (a,m,t,ds,cs,a',m',t',ds',cs',()) K:=by
 subst e1 e2 e3 e4 e5
 exact F32_is hp h
def sp32:Sp:=⟨S32,L32,fun g=>(g.2.2.2.2.2.1=g.1/\g.2.2.2.2.2.2.1=g.2.1/\g.2.2.2.2.2.2.2.1=g.2.2.1/\g.2.2.2.2.2.2.2.2.1=g.2.2.2.1/\g.2.2.2.2.2.2.2.2.2.1=g.2.2.2.2.1)/\preS g.1 g.2.1 g.2.2.1 g.2.2.2.1 g.2.2.2.2.1,fun _=> .bool true,fun _=>none⟩
theorem sp32_ok:sp32.Ok Tryz.prog 32 true:=
 ⟨fun g K X hp h=>F32_ok g K X (by
  obtain ⟨⟨e1,e2,e3,e4,e5⟩,hp⟩:=hp
  exact F32_is' e1 e2 e3 e4 e5 hp h),fun _ _ _=>rfl,fun _=>rfl,fun _ _=>⟨rfl,rfl⟩⟩
theorem preS_of {a m:ByteArray} {t:Int} {ds:List Dig} {cs:List Chg} (h:xP a m t ds cs):preS a m t ds cs:=by
 obtain ⟨-, -, -,h4,h5, -⟩:=h
 have hl:=Vp h5
 refine ⟨by unfold Yk;omega,by omega,fun c hc=> ?_⟩
 have hc:=VC h5 hc
 have:=jf hc
 exact ⟨by unfold Yk;omega,by unfold Yk;omega⟩
structure Fine (p:Rp):Prop where
 x:xP p.a p.m p.t p.ds p.cs
 d: ∀d∈p.ds,wf_dig d
 w: ∀c∈p.cs,wfG c
 o: ∀c∈p.cs, ∀x∈c.over,wf_idk x
 n:atN p.cs<=100000
end Go.Proofs.YtbglndogddddoaaGreatDoor
namespace Go.Proofs.YtbglndogddddoaaGreatDoor
open Go.RowKit
attribute [local irreducible] qW qb
set_option maxRecDepth 100000
def H9:List (Nat×Hint):=[]
def J9:List (Nat×Hint):=[(6,⟨[((1,[]),none),((5,[]),none)],[(1, .pt 0 0),(3, .leaf),(4, .leaf),(5, .pt 1 0),(30, .leaf)],[.cells [.leaf, .leaf, .leaf, .leaf, .leaf], .el],[.str, .int .i64, .bool, .str, .str, .int .i64, .sl .dig, .sl .chg, .el .dig]⟩)]
abbrev S9:List Sh:=[.ag [.leaf, .leaf, .leaf, .leaf, .leaf]]
abbrev L9:List Lf:=[.str, .str, .int .i64, .sl .dig, .sl .chg]
def F9_J2 (K:Kn) (s_1:ByteArray) (e_1:Int) (t_1:Bool) (p1_1 p2_1:ByteArray) (p3_1:Int) (p4_1:List Dig) (p5_1:List Chg) (d_1:Dig):Prop:=
 bif t_1 then (
  K (.bool false) [])
 else (
  bif !decide (e_1=0)then (
  bif decide (s_1=(⟨#[]⟩:ByteArray))then (
   bif xb d_1 dz then (
    sp12.pre (())/\
    K (.bool true) [])
   else (
    K (.bool false) []))
  else (
   K (.bool false) []))
 else (
  sp30.pre (s_1,())/\
 bif decide ((QH s_1).e=0)then (
  sp32.pre ((QH s_1).a,(QH s_1).m,(QH s_1).t,(QH s_1).ds,(QH s_1).cs,p1_1,p2_1,p3_1,p4_1,p5_1,())/\
  sp33.pre (s_1,())/\
  bif xb d_1 (Xb s_1)then (
   sp12.pre (())/\
   K (.bool true) [])
  else (
   K (.bool false) []))
 else (
  K (.bool false) [])))
def F9 (g:prodL L9) (K:Kn):Prop:=
 sp11.pre (g.1,g.2.1,g.2.2.1,g.2.2.2.1,g.2.2.2.2.1,())/\
 bif Jt g.1 g.2.1 g.2.2.1 g.2.2.2.1 g.2.2.2.2.1 then (
  sp12.pre (())/\
  K (.bool true) [])
 else (
  Wo.pre (g.1,g.2.1,g.2.2.1,g.2.2.2.1,g.2.2.2.2.1,())/\
 sp15.pre (g.1,g.2.1,g.2.2.1,g.2.2.2.1,g.2.2.2.2.1,())/\
 sp19.pre (g.1,g.2.1,g.2.2.1,g.2.2.2.1,g.2.2.2.2.1,())/\
 bif !decide ((zH g.1 g.2.1 g.2.2.1 g.2.2.2.1 g.2.2.2.2.1).2.2=(zH g.1 g.2.1 g.2.2.1 g.2.2.2.1 g.2.2.2.2.1).2.2)then (
  F9_J2 K ((zH g.1 g.2.1 g.2.2.1 g.2.2.2.1 g.2.2.2.2.1).2.1) ((zH g.1 g.2.1 g.2.2.1 g.2.2.2.1 g.2.2.2.2.1).2.2) true g.1 g.2.1 g.2.2.1 g.2.2.2.1 g.2.2.2.2.1 ((Yb g.1 g.2.1 g.2.2.1 g.2.2.2.1 g.2.2.2.2.1).1))
 else (
  F9_J2 K ((zH g.1 g.2.1 g.2.2.1 g.2.2.2.1 g.2.2.2.2.1).2.1) ((zH g.1 g.2.1 g.2.2.1 g.2.2.2.1 g.2.2.2.2.1).2.2) (!decide ((Yb g.1 g.2.1 g.2.2.1 g.2.2.2.1 g.2.2.2.2.1).2=(zH g.1 g.2.1 g.2.2.1 g.2.2.2.1 g.2.2.2.2.1).2.2)) g.1 g.2.1 g.2.2.1 g.2.2.2.1 g.2.2.2.2.1 ((Yb g.1 g.2.1 g.2.2.1 g.2.2.2.1 g.2.2.2.2.1).1)))
theorem F9_eq (g:prodL L9) (K X:Kn):F9 g K=qW D (qJ [] [(11,true,sp11),(12,true,sp12),(13,true,Wo),(15,true,sp15),(19,true,sp19),(30,false,sp30),(32,true,sp32),(33,true,sp33)]) (qv []) H9 J9 64 [.tmp 2] (qq Tryz.f9) (argsT S9 L9 g) [] (settle0 K) X:=by kernel_rfl
theorem F9_ok (g:prodL L9) (K X:Kn) (h:F9 g K):FCalls Tryz.prog 9 (argsT S9 L9 g) [] K X:=
 FCalls.settle0 (qz qh (vN (vV sp11_ok (vV sp12_ok (vV XG (vV sp15_ok (vV sp19_ok (vV sp30_ok (vV sp32_ok (vV sp33_ok vC))))))))) qj rfl Tryz.func9 (c:=qq Tryz.f9) rfl Tryz.ntmps9 Tryz.results9 (by unfold qk;rw [Tryz.func9];kernel_rfl) (Nat.le_of_ble_eq_true (by kernel_rfl)) (c0:=0) (Eq.mp (F9_eq g K X) h))
end Go.Proofs.YtbglndogddddoaaGreatDoor
namespace Go.Proofs.YtbglndogddddoaaGreatDoor
open Go.RowKit
set_option maxRecDepth 100000
theorem finD_acc {s:ByteArray} {p:Rp} {x:ByteArray×Int} (h1:p.bad=false) (h2:x=(s,0)):Jg s p x=⟨p.a,p.m,p.t,p.ds,p.cs,0⟩:=by
 unfold Jg
 rw [h1,h2]
 dsimp only
 rw [decide_eq_true rfl,decide_eq_true rfl];rfl
theorem read_of {s a m:ByteArray} {t:Int} {ds:List Dig} {cs:List Chg} (hd: ∀d∈ds,wf_dig d) (hw: ∀c∈cs,wfG c) (he:(zH a m t ds cs).2=(s,0)):
  (jH s).2=0/\s.size<=65536/\kr (jH s).1.list=⟨a,m,t,ds,cs,false⟩/\rRx (jH s).1.list=⟨a,m,t,ds,cs,false⟩:=by
 have h0:(zH a m t ds cs).2.2=0:=by rw [he]
 have h1:(zH a m t ds cs).2.1=s:=by rw [he]
 obtain ⟨-, -,h3,h4⟩:=exP_ok h0
 rw [exP_eq h0] at h1
 have h1:(wB (zR a m t (zk ds) cs)).1=s:=h1
 by_cases hk:JT (zR a m t (zk ds) cs)=0
 rotate_left
 . rw [en_no hk] at h3;exact absurd h3 hk
 rw [h1] at h4
 rw [en_ok hk] at h1
 have h1:yo (zR a m t (zk ds) cs)=s:=h1
 have hz:=dcT_enc hk
 rw [h1] at hz
 obtain ⟨b1,b2⟩:=valid_back hd hw h0
 rw [hz]
 exact ⟨rfl,by omega,b1,b2⟩
theorem decP_of {s:ByteArray} (h1:(jH s).2=0) (h2:s.size<=65536):QH s=Jg s (kr (jH s).1.list) (zH (kr (jH s).1.list).a (kr (jH s).1.list).m (kr (jH s).1.list).t (kr (jH s).1.list).ds (kr (jH s).1.list).cs).2:=by
 unfold QH badD
 rw [decide_eq_true h1,decide_eq_false (show¬65536< ((s.size:Nat):Int)by omega)];rfl
theorem exP_err {a m:ByteArray} {t:Int} {ds:List Dig} {cs:List Chg} (h: ¬(zH a m t ds cs).2.2=0):(zH a m t ds cs).2.1=⟨#[]⟩:=by
 unfold zH at h ⊢
 by_cases z:xF jq a m t ds cs=0
 rotate_left
 . rw [decide_eq_false z];rfl
 rw [decide_eq_true z,Bool.not_true,cond_false] at h ⊢
 unfold Zt at h ⊢
 by_cases y:(QJ cs).2=0
 rotate_left
 . rw [decide_eq_false y];rfl
 rw [decide_eq_true y,Bool.not_true,cond_false] at h ⊢
 unfold exP5 at h ⊢
 cases e:(bif !decide ((wB (zR a m t (zk ds) cs)).2=0)then true else decide (65536< ((wB (zR a m t (zk ds) cs)).1.size:Int)))
 . rw [e] at h;exact absurd rfl h
 . rfl
theorem Wj (d:Dig):xb d d=true:=by rw [kY];exact decide_eq_true rfl
theorem patchRoundTrip.calls (g:prodL L9) (hw:YZ L9 g) (hb:wL L9 g<=1048576):FCalls Tryz.prog 9 (argsT S9 L9 g) [] (fun r _=>r= .bool true) fun _ _=>False:=by
 obtain ⟨a,m,t,ds,cs,⟨⟩⟩:=g
 obtain ⟨ht,hd,hc, -⟩:=hw
 have hb:a.size+1+(m.size+1+(1+((ds.map (bk .dig)).sum+1+((cs.map (bk .chg)).sum+1+0))))<=1048576:=hb
 obtain ⟨h1,h2,h3,h4,h5⟩:=pat_in (a:=a) (m:=m) (t:=t) (ds:=ds) (cs:=cs) (B:=1048576) (by omega) (Nat.le_refl _) ht hd hc
 refine F9_ok (a,m,t,ds,cs,()) _ _ ?_
 unfold F9
 refine ⟨⟨h1,h2⟩, ?_⟩
 show bif Jt a m t ds cs then _ else _
 cases eg:Jt a m t ds cs
 rotate_left
 . exact ⟨trivial,rfl⟩
 refine ⟨h1,h1,h1, ?_⟩
 dsimp only
 rw [decide_eq_true rfl,Bool.not_true,cond_false]
 by_cases z:(zH a m t ds cs).2.2=0
 rotate_left
 . have e1:Yb a m t ds cs=(dz,(zH a m t ds cs).2.2):=by unfold Yb;rw [decide_eq_false z];rfl
   rw [e1,exP_err z]
   dsimp only
   rw [decide_eq_true rfl,Bool.not_true]
   unfold F9_J2
   rw [cond_false,decide_eq_false z,Bool.not_false,cond_true,decide_eq_true rfl,cond_true,Wj,cond_true]
   exact ⟨trivial,rfl⟩
 have e1:Yb a m t ds cs=(Xb (zH a m t ds cs).2.1,0):=by unfold Yb;rw [decide_eq_true z];rfl
 have he:(zH a m t ds cs).2=((zH a m t ds cs).2.1,0):=Prod.ext rfl z
 obtain ⟨r1,r2,r3, -⟩:=read_of hd (fun c h=>wfG_of (hc c h)) he
 have hdec:=decP_of r1 r2
 have f:=finD_acc (s:=(zH a m t ds cs).2.1) (p:=(⟨a,m,t,ds,cs,false⟩:Rp)) rfl he
 rw [r3,f] at hdec
 rw [e1,z]
 dsimp only
 rw [decide_eq_true rfl,Bool.not_true]
 generalize (zH a m t ds cs).2.1=s at r1 r2 r3 hdec
 unfold F9_J2
 rw [cond_false,decide_eq_true rfl,Bool.not_true,cond_false]
 refine ⟨⟨by show s.size<=_;omega,fun _ _=>by show xR (kr (jH s).1.list);rw [r3];exact h1⟩, ?_⟩
 rw [hdec]
 dsimp only
 rw [decide_eq_true rfl,cond_true]
 refine ⟨⟨⟨rfl,rfl,rfl,rfl,rfl⟩,preS_of h1⟩,by show s.size<=_;omega, ?_⟩
 rw [Wj,cond_true]
 exact ⟨trivial,rfl⟩
end Go.Proofs.YtbglndogddddoaaGreatDoor
namespace Go.Proofs.YtbglndogddddoaaGreatDoor
open Go.RowKit Go.ChangeShapes
def elsF (e:El):Bool:=(lvs e).all fun l=>match l with | .fd=>false | _=>true
def DR:TD:=D.filter fun p=>match p.2.el with | some e=>elsF e | none=>true
theorem Vw {t:TypeId} {te:TI}: ∀(l:TD),qR l t=some te->(t,te)∈l
 | [],h=>by cases h
 | (j,x)::r,h=>by
  simp only [qR] at h
  split at h
  . rename_i e;subst e;injection h with h;subst h;exact List.mem_cons_self
  . exact List.mem_cons_of_mem _ (Vw r h)
theorem J8 {t:TypeId} {te:TI}: ∀(l:TD),(l.map (·.1)).Nodup->(t,te)∈l->qR l t=some te
 | [],_,h=>by cases h
 | (j,x)::r,hn,h=>by
  simp only [List.map_cons,List.nodup_cons] at hn
  rcases List.mem_cons.1 h with h | h
  . cases h;simp [qR]
  . have:j≠t:=by rintro rfl;exact hn.1 (List.mem_map.2 ⟨_,h,rfl⟩)
    simp only [qR]
    rw [if_neg (Ne.symm this)]
    exact J8 r hn.2 h
theorem DR_ok:zv Tryz.prog DR:=fun t ti h=>
 qh t ti (J8 D (of_decide_eq_true (by kernel_rfl:decide ((D.map (·.1)).Nodup)=true)) (List.mem_filter.1 (Vw DR h)).1)
theorem kinds_ok:XM DR:=by
 have key:DR.all (fun p=>match p.2.el with | some e=>decide (wo DR 8 p.1=some (lvs e)) | none=>true)=true:=by kernel_rfl
 intro t te e ht he
 have:=List.all_eq_true.1 key _ (Vw DR ht)
 simp only [he] at this
 exact ⟨8,of_decide_eq_true this⟩
theorem the_kids:Kids Tryz.prog (· <Tryz.prog.types.size):=kids_rows (by kernel_rfl) (by kernel_rfl)
theorem the_full: ∀t e,t<Tryz.prog.types.size->Tryz.prog.underlying t=some (.slice e)->0<Tryz.prog.cellsOf e:=slices_full_of Tryz.prog (by kernel_rfl)
theorem the_knob:ownKnob Tryz.prog.godebug=none:=by kernel_rfl
theorem bulk_le {H:Type} {l:List (DataW H)} (hk:Rows.uptoSmall H l=true):Rows.uptoBulkAll l<=1048576:=by
 simpa [Rows.uptoSmall] using hk
theorem returns_row {H:Type} {enc:TypeId×Value->H} {a:Assume} {C:Checked} {os:Os} {f:FuncId} {fn:Func} {s:OpenSpec} {F:Stop.Interp} {conds:List PathCond} {apart fresh handsOn again:Bool} {laid:List (String×DataW Unit)}
  (own:ownKnob C.prog.godebug=none) (started:os.Started) (noInit:C.prog.inits.idxOf? f=none) (hfn:C.prog.funcs[f]? =some fn)
  (witness: ∃(w:World) (tape:Tape) (i:Input),w.os=os/\(w.forCall tape i).Shaped C.prog/\i.vars=[]/\Input.okWide C.prog (w.forCall tape i) .any w.heap.size f i/\
   s.preRow enc C.prog fn conds apart laid (w.forCall tape i).memory i.args/\a.holds C.prog (lone (Frame.enter C.prog f i.args .normal) [] (w.forCall tape i)))
  (contract: ∀(W:World) (base:Nat) (args:Array Value) (ds gs:List (DataW H)) (before:List MemPlace),
   (∀(j:Nat) t v,fn.params[j]? =some t->args[j]? =some v->Value.okWide C.prog W .any base t v)->
   DataW.Whole enc C.prog fn.params.toList s.vars apart W args.toList ds gs before->
   (∀k,s.cond=some k->k H (ds++gs)=true)->laidMetH C.prog laid W->
   Calls C.prog f args W fun e W'=> ∃v,e= .returned v/\(s.at F).post enc C.prog fn apart fresh handsOn again W args v W'):
  ReturnsInHanded a C os f .any (s.preRow enc C.prog fn conds apart laid) ((s.at F).post enc C.prog fn apart fresh handsOn again):=by
 refine returnsInHanded_of_calls own started noInit witness ?_
 intro w tape i _ _ _ hok hpre hholds
 obtain ⟨_,_,_,fn',hfn',_,_,_,_,hval⟩:=hok
 have e:fn'=fn:=Option.some.inj (hfn'.symm.trans hfn)
 subst e
 obtain ⟨⟨hp,hl⟩,_⟩:=hpre
 obtain ⟨ds,gs,before,hw,hc,hkk⟩:=OpenSpec.pre_parts hp
 have hw':=DataW.Whole.of_heap (w':=w.forCall tape i) (by rfl) hw
 refine (contract (w.forCall tape i) w.heap.size i.args ds gs before hval hw' hkk (hl.of_heap (by rfl))).mono fun e W' ⟨v,he,hp⟩=> ?_
 subst he
 exact ChangeSpec.post_blind hp
def laidAll:List (String×DataW Unit):=Rows.patchDecodeUptoRow.laid
theorem door_met (os:Os) (args:Array Value):laidMetH Tryz.prog laidAll ((World.doorLaid Tryz.prog 400 os).forCall (fun _ _=>0) ⟨#[],args,[]⟩).memory:=
 laidMetH_of_parts3 (fuel:=8) (laidMet_of_run' 8 (by kernel_rfl) (by kernel_rfl)) (by kernel_rfl) (by kernel_rfl)
theorem gPow:Tryz.prog.globalNamed "internal/strconv.uint64pow10" =some 3:=by kernel_rfl
theorem gRng:Tryz.prog.globalNamed "strconv.ErrRange" =some 2:=by kernel_rfl
theorem tPow:(Tryz.prog.globals[3]?).map (·.type)=some 255:=by kernel_rfl
theorem tRng:(Tryz.prog.globals[2]?).map (·.type)=some 176:=by kernel_rfl
theorem Kk {P:Program} {w:World} {n:String} {g:Nat} {cs:Array Value} (hg:P.globalNamed n=some g) (h:w.var? P n=some cs): ∃E fr,w.heap[g]? =some (.cells cs E fr):=by
 simp only [World.var?,hg,Option.bind_some] at h
 split at h
 . rename_i c E fr e
   simp only [Option.some.injEq] at h
   subst h
   exact ⟨_,_,e⟩
 . cases h
theorem laid_rd {W:World} (h:laidMetH Tryz.prog laidAll W):LaidG (RdB W):=by
 rw [MakeChecks.laidMetH_plain _ _ _ (by kernel_rfl)] at h
 obtain ⟨ps,⟨_,_,_,_,_,_,_,_,_,_,⟨_,_,_,_,_,_,_,_,_,_,⟨g2,t2,cs2,f2,p2,q2,hg2,ht2,hv2,hd2,⟨g3,t3,cs3,f3,p3,q3,hg3,ht3,hv3,hd3,_⟩,_⟩,_⟩,_⟩,_,_⟩:=h
 obtain rfl:=Option.some.inj (gPow.symm.trans hg2)
 obtain rfl:=Option.some.inj (gRng.symm.trans hg3)
 obtain rfl:=Option.some.inj (tPow.symm.trans ht2)
 obtain rfl:=Option.some.inj (tRng.symm.trans ht3)
 obtain ⟨E2,fr2,b2⟩:=Kk hg2 hv2
 obtain ⟨E3,fr3,b3⟩:=Kk hg3 hv3
 refine ⟨?_, ?_⟩
 . obtain ⟨xs,m,rfl,hx1,hlen,hn,hel⟩:=DataW.trod_array Tryz.underlying255 hd2
   have c1:Tryz.prog.cellsOf 137=1:=by kernel_rfl
   have c2:Tryz.prog.cellsOf 255=20:=by kernel_rfl
   rw [c2] at hlen
   simp only [Prod.mk.injEq] at hx1
   have hl:(.agg (xs.map (·.1)):DataW Unit)= .agg ((List.range 20).map fun i=> .lit (.int .u64 ((10^i:Nat):Int))):=hx1.1.symm.trans (by kernel_rfl)
   injection hl with hl
   have hsz:cs2.size=20:=by simpa using hlen
   have key: ∀j,j<20->cs2[j]? =some (.int .u64 ((10^j:Nat):Int)):=fun j hj=>by
    have h1:=hel j hj
    rw [c1,Nat.mul_one] at h1
    obtain ⟨y,hy⟩: ∃y,xs[j]? =some y:=⟨xs[j],List.getElem?_eq_getElem (by omega)⟩
    rw [hy] at h1
    obtain ⟨n,e1,e2,_⟩:=DataW.trod_int Tryz.underlying137 h1
    have h2:=congrArg (·[j]?) hl
    simp only [List.getElem?_map,hy,Option.map_some,e2,List.getElem?_range hj] at h2
    simp only [Option.some.injEq,DataW.lit.injEq,Lit.int.injEq,true_and] at h2
    subst h2
    have h3:=congrArg (·[0]?) e1
    simp only [List.getElem?_take,List.getElem?_drop,Nat.add_zero,List.getElem?_cons_zero] at h3
    simpa using h3
   exact ⟨.mk 3 QP cs2 E2 fr2 b2 (fun n h=>by have:=congrArg List.length h;simp [QP] at this) (by simp [QP,hsz]) (fun j u x hu hx _=>by
    have hj:j<20:=by have:=(List.getElem?_eq_some_iff.1 hu).1;simpa [QP] using this
    rw [key j hj] at hx
    simp [QP,hj] at hu hx
    subst hu;subst hx
    exact .int _ _), .ex 3 20 cs2 E2 fr2 b2 hsz (by decide)⟩
 . obtain ⟨_,u,v,e,_⟩:=iface_of_trod Tryz.underlying176 hd3
   obtain ⟨l⟩:=cs3
   simp only at e
   subst e
   exact ⟨u,v, .mk 2 _ _ E3 fr3 b3 (fun n h=>by simp at h) (by simp) (fun j t x hu hx _=>by
    match j,hu,hx with
    | 0,hu,hx=>simp at hu hx;subst hu;subst hx;exact .cst _ rfl
    | j+1,hu,hx=>simp at hu)⟩
theorem door_shaped (os:Os) (args:Array Value):((World.doorLaid Tryz.prog 400 os).forCall (fun _ _=>0) ⟨#[],args,[]⟩).Shaped Tryz.prog:=
 World.shaped_of_RefB (by kernel_rfl) (by kernel_rfl)
theorem witness_row {H:Type} {enc:TypeId×Value->H} {os:Os} {f:FuncId} {fn:Func} {s:OpenSpec} {apart:Bool} (args:Array Value)
  (hok:Input.okWideB Tryz.prog ((World.doorLaid Tryz.prog 400 os).forCall (fun _ _=>0) ⟨#[],args,[]⟩) f ⟨#[],args,[]⟩=true)
  {x:List (DataW H)×List (DataW H)×List MemPlace} (hx:DataW.whole enc Tryz.prog ((World.doorLaid Tryz.prog 400 os).forCall (fun _ _=>0) ⟨#[],args,[]⟩).memory fn.params.toList s.vars apart args.toList 12=some x)
  (hkk: ∀k,s.cond=some k->k H (x.1++x.2.1)=true)
  (hsz:s.bare.sizedB enc Tryz.prog fn apart ((World.doorLaid Tryz.prog 400 os).forCall (fun _ _=>0) ⟨#[],args,[]⟩).memory args 12=true):
  ∃(w:World) (tape:Tape) (i:Input),w.os=os/\(w.forCall tape i).Shaped Tryz.prog/\i.vars=[]/\Input.okWide Tryz.prog (w.forCall tape i) .any w.heap.size f i/\
   s.preRow enc Tryz.prog fn [] apart laidAll (w.forCall tape i).memory i.args/\({}:Assume).holds Tryz.prog (lone (Frame.enter Tryz.prog f i.args .normal) [] (w.forCall tape i)):=
 ⟨World.doorLaid Tryz.prog 400 os,fun _ _=>0,⟨#[],args,[]⟩,rfl,door_shaped os args,(Input.okWide_of_okWideB (base:=0) hok).1,(Input.okWide_of_okWideB hok).2,OpenSpec.preRow_of_cond 12 hx rfl hkk hsz (door_met os args),by
  simp only [Assume.holds]
  exact ⟨by simp,by simp,fun _=>Modest.zero,by simp,by simp⟩⟩
end Go.Proofs.YtbglndogddddoaaGreatDoor
