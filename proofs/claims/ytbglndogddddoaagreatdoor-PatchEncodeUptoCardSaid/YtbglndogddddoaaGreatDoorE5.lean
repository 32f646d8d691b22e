import Derived.Shelf.Strconv.Itoa3
import Derived.Shelf.Strconv.AtoiAll
import Derived.Ground.NamesProg
import Derived.RecoverIn
import Derived.WalkKit
import Derived.Lib.AtoiAllCases
import Derived.Shelf.Strings.Builder1
import Derived.Lib.Bytealg
import Derived.Shelf.RegionOpenPlain
import Derived.Lib.Walk
import Derived.Lib.BytesEntry
import Derived.BigCall
import Derived.BigGuard
import Derived.Deep.Draws
import Derived.Test.YtbglndogddddoaaGreatDoorE4
set_option linter.unusedVariables false
set_option linter.unusedSimpArgs false
set_option linter.unusedSectionVars false
namespace Go.Proofs.YtbglndogddddoaaGreatDoor
open Go.RowKit Go.Shelf
def laysItoa_ren:Go.Shelf.Ren:=⟨fun | 171=>209 | 243=>228 | 246=>236 | 283=>240 | 284=>241 | 285=>242 | 286=>243 | 129=>148 | 317=>244 | 318=>245 | 319=>246 | 320=>247 | 337=>248 | 338=>249 | n=>n,fun | 3=>3 | 9=>9 | 2=>2 | 4=>4 | 171=>250 | 0=>0 | 53=>137 | 37=>69 | 5=>5 | 173=>252 | 212=>255 | 51=>100 | 20=>20 | 213=>256 | 46=>118 | 232=>31 | 233=>257 | n=>n,fun | 17=>3 | 18=>4 | 19=>5 | n=>n⟩
theorem laysItoa:Go.Proofs.LaysM.n171 Tryz.prog laysItoa_ren:={
 mixed:=by kernel_rfl
 f129:=Tryz.func148.trans (congrArg some (by kernel_rfl))
 f171:=Tryz.func209.trans (congrArg some (by kernel_rfl))
 f243:=Tryz.func228.trans (congrArg some (by kernel_rfl))
 f246:=Tryz.func236.trans (congrArg some (by kernel_rfl))
 f283:=Tryz.func240.trans (congrArg some (by kernel_rfl))
 f284:=Tryz.func241.trans (congrArg some (by kernel_rfl))
 f285:=Tryz.func242.trans (congrArg some (by kernel_rfl))
 f286:=Tryz.func243.trans (congrArg some (by kernel_rfl))
 f317:=Tryz.func244.trans (congrArg some (by kernel_rfl))
 f318:=Tryz.func245.trans (congrArg some (by kernel_rfl))
 f319:=Tryz.func246.trans (congrArg some (by kernel_rfl))
 f320:=Tryz.func247.trans (congrArg some (by kernel_rfl))
 f337:=Tryz.func248.trans (congrArg some (by kernel_rfl))
 f338:=Tryz.func249.trans (congrArg some (by kernel_rfl))
 t0:=Tryz.underlying0
 a0:=Tryz.isAgg0
 z0:=Tryz.sizeOf0
 v0:=Tryz.zeroValue0
 t2:=Tryz.underlying2
 a2:=Tryz.isAgg2
 z2:=Tryz.sizeOf2
 v2:=Tryz.zeroValue2
 t3:=Tryz.underlying3
 a3:=Tryz.isAgg3
 z3:=Tryz.sizeOf3
 v3:=Tryz.zeroValue3
 t4:=Tryz.underlying4
 a4:=Tryz.isAgg4
 z4:=Tryz.sizeOf4
 v4:=Tryz.zeroValue4
 t5:=Tryz.underlying5
 a5:=Tryz.isAgg5
 z5:=Tryz.sizeOf5
 v5:=Tryz.zeroValue5
 t9:=Tryz.underlying9
 a9:=Tryz.isAgg9
 z9:=Tryz.sizeOf9
 v9:=Tryz.zeroValue9
 t20:=Tryz.underlying20
 a20:=Tryz.isAgg20
 z20:=Tryz.sizeOf20
 v20:=Tryz.zeroValue20
 t37:=Tryz.underlying69
 a37:=Tryz.isAgg69
 z37:=Tryz.sizeOf69
 v37:=Tryz.zeroValue69
 t46:=Tryz.underlying118
 a46:=Tryz.isAgg118
 z46:=Tryz.sizeOf118
 v46:=Tryz.zeroValue118
 t51:=Tryz.underlying100
 a51:=Tryz.isAgg100
 z51:=Tryz.sizeOf100
 v51:=Tryz.zeroValue100
 t53:=Tryz.underlying137
 a53:=Tryz.isAgg137
 z53:=Tryz.sizeOf137
 v53:=Tryz.zeroValue137
 t171:=Tryz.underlying250
 a171:=Tryz.isAgg250
 z171:=Tryz.sizeOf250
 v171:=Tryz.zeroValue250
 t173:=Tryz.underlying252
 a173:=Tryz.isAgg252
 z173:=Tryz.sizeOf252
 v173:=Tryz.zeroValue252
 t212:=Tryz.underlying255
 a212:=Tryz.isAgg255
 z212:=Tryz.sizeOf255
 v212:=Tryz.zeroValue255
 t213:=Tryz.underlying256
 a213:=Tryz.isAgg256
 z213:=Tryz.sizeOf256
 t232:=Tryz.underlying31
 a232:=Tryz.isAgg31
 z232:=Tryz.sizeOf31
 v232:=Tryz.zeroValue31
 t233:=Tryz.underlying257
 a233:=Tryz.isAgg257
 z233:=Tryz.sizeOf257
 v233:=Tryz.zeroValue257
 g17:=by kernel_rfl
 g18:=by kernel_rfl
 g19:=by kernel_rfl
 i0:=by kernel_rfl
 i2:=by kernel_rfl
 i3:=by kernel_rfl
 i4:=by kernel_rfl
 i5:=by kernel_rfl
 i9:=by kernel_rfl
 i20:=by kernel_rfl
 i37:=by kernel_rfl
 i46:=by kernel_rfl
 i51:=by kernel_rfl
 i53:=by kernel_rfl
 i171:=by kernel_rfl
 i173:=by kernel_rfl
 i212:=by kernel_rfl
 i232:=by kernel_rfl
 i233:=by kernel_rfl
 m17:=by kernel_rfl
 m18:=by kernel_rfl
 m19:=by kernel_rfl}
theorem good_ext {P:Program} {g:G P} {st:St} {w w':World} (hg:Good g st w) (h1:w'.os=w.os) (h2:w'.tape=w.tape) (h3:w'.output=w.output) (hsz:w.heap.size<=w'.heap.size) (hb: ∀b,b<w.heap.size->w'.heap[b]? =w.heap[b]?):
  Good g st w'/\ ∀b0,Step b0 g st w g st w':=by
 refine ⟨⟨fun b cs h=> ?_,fun k o h=> ?_,hg.inj,hg.old,fun b o h=>hg.fx_keep (fun b hb' _=>hb b hb') h,fun b h=>hg.dm_keep (fun b hb' _=>hb b hb') h,hg.laid⟩,fun b0=>⟨h1,h2,h3,hsz,fun b hb' _=>hb b hb',fun _ _ h=>h,fun _ h=> .inl h,fun _ _ h=> .inl h,fun _ _=>Kept.refl,fun _ _=>Fixd.refl,fun _ _ h=>h,fun _ h=>h,fun _ h=> .inl h⟩⟩
 . obtain ⟨blk,E,fr,p1,p2⟩:=hg.ro b cs h
   exact ⟨blk,E,fr,by rw [hb b (hg.lt_ro h)];exact p1,p2⟩
 . obtain ⟨oi,p1,p2,p3⟩:=hg.obj k o h
   refine ⟨oi,p1,p2, ?_⟩
   rcases p3 with p3 | ⟨p3,blk,E,fr,p4,p5,p6,p7⟩
   . exact .inl p3
   . exact .inr ⟨p3,blk,E,fr,by rw [hb _ (vP p4)];exact p4,p5,p6,p7⟩
theorem tab_is {g:G Tryz.prog} {st:St} {w:World} (hg:Good g st w):Lib.TabIs Tryz.prog w "internal/strconv.uint64pow10" .u64 Lib.pow10Tab:=by
 obtain ⟨⟨h1,h2⟩,_⟩:=hg.laid
 obtain ⟨blk,E,fr,p1,p2⟩:=hg.ro _ _ h1
 obtain ⟨blk',E',fr',q1,q2⟩:=hg.ro _ _ h2
 rw [p1] at q1
 simp only [Option.some.injEq,Obj.cells.injEq] at q1
 obtain ⟨rfl,rfl,rfl⟩:=q1
 have hsz:blk.size=20:=q2.ex 20 rfl
 unfold Lib.TabIs World.var?
 rw [show Tryz.prog.globalNamed "internal/strconv.uint64pow10" =some 3 by kernel_rfl]
 simp only [Option.bind_some,p1,Option.some.injEq]
 apply Array.ext_getElem?
 intro j
 by_cases hj:j<20
 . obtain ⟨x,x1,_,x3⟩:=p2.at_ j (T.int .u64 ((10^j:Nat):Int)) (by simp [Qe,hj]) rfl
   cases x3
   rw [x1]
   simp [Lib.pow10Tab,hj]
 . rw [Array.getElem?_eq_none (by omega),Array.getElem?_eq_none (by simp [Lib.pow10Tab];omega)]
theorem qqD {P:Program} {g:G P} {u:T} {args:Array Value} (h:RL g [u] args): ∃x,args= #[x]/\R g u x:=by
 have hl:=h.len
 obtain ⟨x,rfl⟩: ∃x,args= #[x]:=by
  have:args.size=1:=by simpa using hl.symm
  exact ⟨args[0],Array.ext (by simpa using this) fun i h1 h2=>by
   have:i=0:=by simp at h2;omega
   subst this;rfl⟩
 exact ⟨x,rfl,h.val 0 u x rfl rfl⟩
def jj (n:Int):Prop:= -9223372036854775808<=n/\n<=9223372036854775807
def w8:Sp:=⟨[.leaf],[.int .i64],fun g=>jj g.1,fun g=> .str (zS g.1),fun _=>none⟩
theorem WH:w8.Ok Tryz.prog 209 true:=
 ⟨by
  rintro ⟨n,⟨⟩⟩ K X hp hK g w hg
  obtain ⟨h1,h2⟩: -9223372036854775808<=n/\n<=9223372036854775807:=hp
  refine ke.of (by kernel_rfl) fun args hr=> ?_
  obtain ⟨x,rfl,hx⟩:=qqD hr
  cases hx
  refine (Any.strconv_Itoa laysItoa n h1 h2 w (tab_is hg)).mono ?_
  rintro e w' ⟨rfl,k,os,rfl⟩
  obtain ⟨q1,q2⟩:=good_ext (w':=Sort.grow (w.drewN k) os) hg rfl rfl rfl (by simp [Sort.grow,World.drewN]) (fun b hb=>by simp [Sort.grow,World.drewN,Array.getElem?_append_left hb])
  exact ⟨g,[],q1,q2 _,_,hK, .str _⟩,fun _ _ _=>rfl,fun _=>rfl,fun _ _=>⟨rfl,rfl⟩⟩
end Go.Proofs.YtbglndogddddoaaGreatDoor
namespace Go.Proofs.YtbglndogddddoaaGreatDoor
open Go.RowKit
def t12 (s:ByteArray):Tm:=[(0, .str s),(2, .pt 0 0),(3, .pt 1 0),(4, .pt 2 0)]
end Go.Proofs.YtbglndogddddoaaGreatDoor
namespace Go.Proofs.YtbglndogddddoaaGreatDoor
open Go.RowKit
def ckG (x:Sx):Int:=if (wb x 0 false 1).2=true then 4 else shS x
def ckN (x:Sx):Int:=if 20000<cnt x 20000 12 then 4 else ckR x
def sx0:Sx:=⟨false,⟨#[]⟩,[]⟩
def vZ (n:Int):Sx×Int:=if n< -1099511627776∨1099511627776<n then (sx0,2)else (⟨false,zS n,[]⟩,0)
end Go.Proofs.YtbglndogddddoaaGreatDoor
namespace Go.Proofs.YtbglndogddddoaaGreatDoor
open Go.RowKit
attribute [local irreducible] qJ qd
def H151:List (Nat×Hint):=[]
def J151:List (Nat×Hint):=[]
abbrev S151:List Sh:=[.ag [.leaf, .leaf, .leaf]]
abbrev L151:List Lf:=[.bool, .str, .sl .sexp]
def F151 (g:prodL L151) (K:Kn):Prop:=
 addPre (g.1,g.2.1,g.2.2.1,1,0,false,())/\
 bif (wb ⟨g.1,g.2.1,g.2.2.1⟩ 0 false 1).2 then (
  K (.int .i64 4) [])
 else (
  sp202.pre (g.1,g.2.1,g.2.2.1,())/\
 K (.int .i64 (shS ⟨g.1,g.2.1,g.2.2.1⟩)) [])
theorem F151_eq (g:prodL L151) (K X:Kn):F151 g K=qJ D (qk [(201,K0)] [(202,true,sp202)]) (qx [(201,K0)]) H151 J151 15 [.tmp 2] (qz Tryz.f151) (argsT S151 L151 g) [] (settle0 K) X:=by kernel_rfl
theorem F151_ok (g:prodL L151) (K X:Kn) (h:F151 g K):FCalls Tryz.prog 151 (argsT S151 L151 g) [] K X:=
 FCalls.settle0 (qq (Γ:=qk [(201,K0)] [(202,true,sp202)]) (mu:=qx [(201,K0)]) (H:=H151) (J:=J151) qY (qV (rs:=[(201,K0)]) (l:=[(202,true,sp202)]) (by intro p hp;simp only [List.mem_cons,List.not_mem_nil,or_false] at hp;subst hp;exact rw201_ok) (by intro p hp;simp only [List.mem_cons,List.not_mem_nil,or_false] at hp;subst hp;exact sp202_ok)) qj rfl Tryz.func151 (c:=qz Tryz.f151) rfl Tryz.ntmps151 Tryz.results151 (by unfold qv;rw [Tryz.func151];kernel_rfl) (Nat.le_of_ble_eq_true (by kernel_rfl)) (c0:=0) (Eq.mp (F151_eq g K X) h))
def H131:List (Nat×Hint):=[]
def J131:List (Nat×Hint):=[]
abbrev S131:List Sh:=[.ag [.leaf, .leaf, .leaf]]
abbrev L131:List Lf:=[.bool, .str, .sl .sexp]
def F131 (g:prodL L131) (K:Kn):Prop:=
 sp183.pre (g.1,g.2.1,g.2.2.1,20000,12,())/\
 bif decide (20000<cnt ⟨g.1,g.2.1,g.2.2.1⟩ 20000 12)then (
  K (.int .i64 4) [])
 else (
  sp184.pre (g.1,g.2.1,g.2.2.1,())/\
 K (.int .i64 (ckR ⟨g.1,g.2.1,g.2.2.1⟩)) [])
theorem F131_eq (g:prodL L131) (K X:Kn):F131 g K=qJ D (qk [] [(183,true,sp183),(184,true,sp184)]) (qx []) H131 J131 8 [.tmp 2] (qz Tryz.f131) (argsT S131 L131 g) [] (settle0 K) X:=by kernel_rfl
theorem F131_ok (g:prodL L131) (K X:Kn) (h:F131 g K):FCalls Tryz.prog 131 (argsT S131 L131 g) [] K X:=
 FCalls.settle0 (qq qY (jq (zq sp183_ok (zq sp184_ok z8))) qj rfl Tryz.func131 (c:=qz Tryz.f131) rfl Tryz.ntmps131 Tryz.results131 (by unfold qv;rw [Tryz.func131];kernel_rfl) (Nat.le_of_ble_eq_true (by kernel_rfl)) (c0:=0) (Eq.mp (F131_eq g K X) h))
def H170:List (Nat×Hint):=[]
def J170:List (Nat×Hint):=[(2,⟨[((2,[]),none)],[(0, .leaf),(2, .pt 0 0),(9, .leaf)],[.cells [.leaf, .leaf, .nil]],[.int .i64, .bool, .bool, .str]⟩)]
abbrev S170:List Sh:=[.leaf]
abbrev L170:List Lf:=[.int .i64]
def F170_J2 (K:Kn) (n_1:Int) (t_1 t1_1:Bool) (t2_1:ByteArray):Prop:=
 bif t_1 then (
  K (.tu [.ag [.bool false, .str (⟨#[]⟩:ByteArray), .nil], .int .i64 2]) [])
 else (
  w8.pre (n_1,())/\
 K (.tu [.ag [.bool false, .str (zS n_1), .nil], .int .i64 0]) [])
def F170 (g:prodL L170) (K:Kn):Prop:=
 bif decide (g.1< (-1099511627776))then (
  F170_J2 K g.1 true false (⟨#[]⟩:ByteArray))
 else (
  F170_J2 K g.1 (decide (1099511627776<g.1)) false (⟨#[]⟩:ByteArray))
theorem F170_eq (g:prodL L170) (K X:Kn):F170 g K=qJ D (qk [] [(209,true,w8)]) (qx []) H170 J170 14 [.cell 2 85, .tmp 3] (qz Tryz.f170) (argsT S170 L170 g) [] (settle0 K) X:=by kernel_rfl
theorem F170_ok (g:prodL L170) (K X:Kn) (h:F170 g K):FCalls Tryz.prog 170 (argsT S170 L170 g) [] K X:=
 FCalls.settle0 (qq (Γ:=qk [] [(209,true,w8)]) (mu:=qx []) (H:=H170) (J:=J170) qY (qV (rs:=[]) (l:=[(209,true,w8)]) (fun p hp=>by cases hp) (by intro p hp;simp only [List.mem_cons,List.not_mem_nil,or_false] at hp;subst hp;exact WH)) qj rfl Tryz.func170 (c:=qz Tryz.f170) rfl Tryz.ntmps170 Tryz.results170 (by unfold qv;rw [Tryz.func170];kernel_rfl) (Nat.le_of_ble_eq_true (by kernel_rfl)) (c0:=0) (Eq.mp (F170_eq g K X) h))
end Go.Proofs.YtbglndogddddoaaGreatDoor
namespace Go.Proofs.YtbglndogddddoaaGreatDoor
open Go.RowKit
def dg1 (a:Nat) (c:UInt8):Nat:=10*a+(c.toNat-48)
def dv (a:Nat) (l:List UInt8):Nat:=l.foldl dg1 a
theorem dv_nil (a:Nat):dv a []=a:=rfl
theorem Zx (a:Nat) (c:UInt8) (l:List UInt8):dv a (c::l)=dv (10*a+(c.toNat-48)) l:=List.foldl_cons ..
theorem dv_app: ∀(l m:List UInt8) (a:Nat),dv a (l++m)=dv (dv a l) m
 | [],_,_=>by rw [dv_nil,List.nil_append]
 | c::l,m,a=>by rw [List.cons_append,Zx,Zx,dv_app l m]
theorem dv_le: ∀(l:List UInt8) (a:Nat),a<=dv a l
 | [],a=>Nat.le_refl a
 | c::l,a=>by
  have h:=dv_le l (10*a+(c.toNat-48))
  rw [Zx]
  generalize dv (10*a+(c.toNat-48)) l=z at h
  omega
attribute [irreducible] dv
theorem digsA (l m:List UInt8):qqZ (l++m)=(qqZ l&&qqZ m):=by simp [qqZ]
theorem digsC (c:UInt8) (l:List UInt8):qqZ (c::l)=true↔(48<=c.toNat/\c.toNat<=57)/\qqZ l=true:=by simp [qqZ]
theorem dig_nat (k:Nat) (h:k<10):(UInt8.ofNat (48+k)).toNat=48+k:=by
 rw [UInt8.toNat_ofNat'];omega
theorem dv_pos {d:List UInt8} (h1:qqZ d=true) (h2:d≠[]) (h3:head48 d=false):1<=dv 0 d:=by
 cases d with
 | nil=>exact absurd rfl h2
 | cons c r=>
  simp only [head48,decide_eq_false_iff_not] at h3
  have:=((digsC c r).1 h1).1
  have h5:=dv_le r (10*0+(c.toNat-48))
  rw [Zx]
  omega
theorem dec_uniq: ∀(n:Nat) (d:List UInt8),d.length=n->qqZ d=true->d≠[]->(head48 d=false∨d=[48])->Lib.decDigits (dv 0 d)=d
 | 0,d,hn,_,h,_=>absurd (List.eq_nil_of_length_eq_zero hn) h
 | n+1,d,hn,h1,h2,h3=>by
  obtain ⟨d',c,rfl⟩: ∃d' c,d=d'++[c]:=⟨d.dropLast,d.getLast h2,(List.dropLast_concat_getLast h2).symm⟩
  rw [digsA,Bool.and_eq_true] at h1
  obtain ⟨h1,hc⟩:=h1
  have hc:=((digsC c []).1 hc).1
  have e:UInt8.ofNat (48+(c.toNat-48))=c:=by
   apply UInt8.toNat_inj.1
   rw [dig_nat _ (by omega)];omega
  rw [dv_app,Zx,dv_nil]
  by_cases hd:d'=[]
  . subst hd
    rw [Lib.decDigits,dif_pos (by rw [dv_nil];omega)]
    simp only [dv_nil,Nat.mul_zero,Nat.zero_add,e,List.nil_append]
  . have hh:head48 d'=false:=by
     cases d' with
     | nil=>exact absurd rfl hd
     | cons x r=>
      rcases h3 with h3 | h3
      . exact h3
      . simp at h3
    have hp:=dv_pos h1 hd hh
    have ih:=dec_uniq n d' (by simp at hn;exact hn) h1 hd (.inl hh)
    rw [Lib.decDigits,dif_neg (by omega),show (10*dv 0 d'+(c.toNat-48)) / 10=dv 0 d' by omega,ih,show (10*dv 0 d'+(c.toNat-48))%10=c.toNat-48 by omega,e]
end Go.Proofs.YtbglndogddddoaaGreatDoor
namespace Go.Proofs.YtbglndogddddoaaGreatDoor
open Go.RowKit
theorem bif_ndec {p:Prop} [Decidable p] {A B:Prop}:(bif !decide p then A else B)=if p then B else A:=by
 by_cases h:p<;>simp [h]
def KV:Sp:=⟨S170,L170,fun g=>jj g.1,fun g=> .tu [.ag [.bool (vZ g.1).1.isList, .str (vZ g.1).1.atom, .sl false .sexp (vZ g.1).1.list], .int .i64 (vZ g.1).2],fun _=>none⟩
theorem sp170_ok:KV.Ok Tryz.prog 170 false:=
 ⟨by
  rintro ⟨n,⟨⟩⟩ K X q1 h
  have h:K (.tu [.ag [.bool (vZ n).1.isList, .str (vZ n).1.atom, .sl false .sexp (vZ n).1.list], .int .i64 (vZ n).2]) []:=h
  refine FCalls.weak (F170_ok (n,()) (xw K) X ?_)
  unfold F170
  dsimp only
  rw [qu]
  unfold vZ at h
  by_cases h1:n< -1099511627776
  . rw [if_pos (.inl h1)] at h
    rw [if_pos h1]
    exact wF h
  . rw [if_neg h1]
    unfold F170_J2
    rw [qu]
    by_cases h2:1099511627776<n
    . rw [if_pos (.inr h2)] at h
      rw [if_pos h2]
      exact wF h
    . rw [if_neg (fun e=>e.elim h1 h2)] at h
      rw [if_neg h2]
      exact ⟨q1,wF h⟩,fun _ _ _=>rfl,fun _=>rfl,fun h=>(by cases h)⟩
def bkP (g:prodL [.bool, .str, .sl .sexp]):Prop:=xo ⟨g.1,g.2.1,g.2.2.1⟩<=vK
def sp151:Sp:=⟨S151,L151,bkP,fun g=> .int .i64 (ckG ⟨g.1,g.2.1,g.2.2.1⟩),fun _=>none⟩
theorem sp151_ok:sp151.Ok Tryz.prog 151 true:=
 ⟨by
  rintro ⟨b,a,l,⟨⟩⟩ K X q1 h
  have h:K (.int .i64 (ckG ⟨b,a,l⟩)) []:=h
  have q1:xo ⟨b,a,l⟩<=vK:=q1
  refine F151_ok (b,a,l,()) K X ⟨?_, ?_⟩
  . have hn:=nodes_bk ⟨b,a,l⟩
    have q2:=q1
    rw [Q3] at q2
    exact ⟨q1,⟨Int.le_refl 0,(by omega:(0:Int)+(qU ⟨b,a,l⟩:Int)<=1099511627776)⟩,(by omega:(0:Int)<=1),(by omega:(1:Int)+(qU ⟨b,a,l⟩:Int)<=1099511627776)⟩
  . unfold ckG at h
    dsimp only
    cases hm:(wb ⟨b,a,l⟩ 0 false 1).2 with
    | true=>rw [hm] at h;exact h
    | false=>rw [hm] at h;exact ⟨q1,h⟩,fun _ _ _=>rfl,fun _=>rfl,fun _ _=>⟨rfl,rfl⟩⟩
def sp131:Sp:=⟨S131,L131,bkP,fun g=> .int .i64 (ckN ⟨g.1,g.2.1,g.2.2.1⟩),fun _=>none⟩
theorem sp131_ok:sp131.Ok Tryz.prog 131 true:=
 ⟨by
  rintro ⟨b,a,l,⟨⟩⟩ K X q1 h
  have h:K (.int .i64 (ckN ⟨b,a,l⟩)) []:=h
  have q1:xo ⟨b,a,l⟩<=vK:=q1
  refine F131_ok (b,a,l,()) K X ⟨?_, ?_⟩
  . exact ⟨q1,⟨(by omega:(0:Int)<=20000),(by omega:(20000:Int)<=1099511627776)⟩,(by omega:(0:Int)<=12),(by omega:(12:Int)<=1099511627776)⟩
  . unfold ckN at h
    dsimp only
    rw [qu]
    split at h
    . rename_i h1;rw [if_pos h1];exact h
    . rename_i h1;rw [if_neg h1];exact ⟨q1,h⟩,fun _ _ _=>rfl,fun _=>rfl,fun _ _=>⟨rfl,rfl⟩⟩
end Go.Proofs.YtbglndogddddoaaGreatDoor
namespace Go.Proofs.YtbglndogddddoaaGreatDoor
open Go.RowKit
attribute [local irreducible] qJ qd
def H185:List (Nat×Hint):=[]
def J185:List (Nat×Hint):=[]
abbrev S185:List Sh:=[.leaf]
abbrev WK:List Lf:=[.int .i64]
def JR (Z:prodL WK->Prop):Sp:=⟨S185,WK,Z,fun g=> .str (zS g.1),fun _=>none⟩
def F185 (Z:prodL WK->Prop) (g:prodL WK) (K:Kn):Prop:=
 bif decide (g.1<0)then (
  bif decide (g.1< (-9223372036854775807))then (
   K (.str (⟨#[45,57,50,50,51,51,55,50,48,51,54,56,53,52,55,55,53,56,48,56]⟩:ByteArray)) [])
  else (
   Z (IntKind.i64.wrap (0-g.1),())/\
  ql ((⟨#[45]⟩:ByteArray).size+(zS (IntKind.i64.wrap (0-g.1))).size) 1 (
  K (.str ((⟨#[45]⟩:ByteArray)++(zS (IntKind.i64.wrap (0-g.1))))) [])))
 else (
  bif decide (g.1<10)then (
  K (.str (zb [(IntKind.u8.wrap (IntKind.i64.wrap (48+g.1)))])) [])
 else (
  ¬10=(0:Int)/\
 Z (IntKind.i64.wrap (Int.tdiv g.1 10),())/\
 ¬10=(0:Int)/\
 ql ((zS (IntKind.i64.wrap (Int.tdiv g.1 10))).size+(zb [(IntKind.u8.wrap (IntKind.i64.wrap (48+(Int.tmod g.1 10))))]).size) 1 (
 K (.str ((zS (IntKind.i64.wrap (Int.tdiv g.1 10)))++(zb [(IntKind.u8.wrap (IntKind.i64.wrap (48+(Int.tmod g.1 10))))]))) [])))
theorem F185_eq (Z:prodL WK->Prop) (g:prodL WK) (K X:Kn):F185 Z g K=qJ D (qk [] [(185,true,JR Z)]) (qx []) H185 J185 28 [.tmp 2] (qz Tryz.f185) (argsT S185 WK g) [] (settle0 K) X:=by kernel_rfl
theorem F185_ok (Z:prodL WK->Prop) (hZ:(JR Z).Ok Tryz.prog 185 true) (g:prodL WK) (K X:Kn) (h:F185 Z g K):FCalls Tryz.prog 185 (argsT S185 WK g) [] K X:=
 FCalls.settle0 (qq (Γ:=qk [] [(185,true,JR Z)]) (mu:=qx []) (H:=H185) (J:=J185) qY (qV (rs:=[]) (l:=[(185,true,JR Z)]) (fun p hp=>by cases hp) (by intro p hp;simp only [List.mem_cons,List.not_mem_nil,or_false] at hp;subst hp;exact hZ)) qj rfl Tryz.func185 (c:=qz Tryz.f185) rfl Tryz.ntmps185 Tryz.results185 (by unfold qv;rw [Tryz.func185];kernel_rfl) (Nat.le_of_ble_eq_true (by kernel_rfl)) (c0:=0) (Eq.mp (F185_eq Z g K X) h))
end Go.Proofs.YtbglndogddddoaaGreatDoor
namespace Go.Proofs.YtbglndogddddoaaGreatDoor
open Go.RowKit
end Go.Proofs.YtbglndogddddoaaGreatDoor
namespace Go.Proofs.YtbglndogddddoaaGreatDoor
open Go.RowKit
attribute [local irreducible] qJ qd
end Go.Proofs.YtbglndogddddoaaGreatDoor
namespace Go.Proofs.YtbglndogddddoaaGreatDoor
open Go.RowKit
end Go.Proofs.YtbglndogddddoaaGreatDoor
namespace Go.Proofs.YtbglndogddddoaaGreatDoor
open Go.RowKit
attribute [local irreducible] qJ qd
end Go.Proofs.YtbglndogddddoaaGreatDoor
namespace Go.Proofs.YtbglndogddddoaaGreatDoor
open Go.RowKit
theorem kR: ∀(k u:Nat),u<10^(k+1)->(Lib.decDigits u).length<=k+1
 | 0,u,h=>by rw [Lib.decDigits_one (by omega)];simp
 | k+1,u,h=>by
  by_cases hu:u<10
  . rw [Lib.decDigits_one hu];simp
  . rw [Lib.decDigits,dif_neg hu,List.length_append]
    have:=kR k (u / 10) (by rw [Nat.pow_succ] at h;omega)
    simp only [List.length_cons,List.length_nil];omega
theorem yk (n:Int):bl (zS n)=Lib.itoa n:=bl_mk _
theorem wM {n:Int} (h:jj n):(zS n).size<=21:=by
 rw [<- bl_len,yk]
 obtain ⟨h1,h2⟩: -9223372036854775808<=n/\n<=9223372036854775807:=h
 unfold Lib.itoa
 split
 . have:=kR 19 n.natAbs (by omega)
   simp only [List.length_cons];omega
 . have:=kR 19 n.toNat (by omega)
   omega
end Go.Proofs.YtbglndogddddoaaGreatDoor
namespace Go.Proofs.YtbglndogddddoaaGreatDoor
open Go.RowKit
theorem JE (a b:ByteArray):bl (a++b)=bl a++bl b:=by simp [bl,ByteArray.data_append]
theorem dec_min:zS (-9223372036854775808)=(⟨#[45,57,50,50,51,51,55,50,48,51,54,56,53,52,55,55,53,56,48,56]⟩:ByteArray):=by
 apply qzv
 rw [yk,Lib.itoa,if_pos (by decide)]
 have h:=dec_uniq 19 [57,50,50,51,51,55,50,48,51,54,56,53,52,55,55,53,56,48,56] rfl (by decide) (by simp) (.inl (by decide))
 have e:dv 0 [57,50,50,51,51,55,50,48,51,54,56,53,52,55,55,53,56,48,56]=(-9223372036854775808:Int).natAbs:=by kernel_rfl
 rw [e] at h
 rw [h]
 rfl
def dmu (n:Int):Nat:=if n<0 then n.natAbs+1 else n.toNat
theorem dec_neg {n:Int} (h:n<0):(⟨#[45]⟩:ByteArray)++zS (-n)=zS n:=by
 apply qzv
 rw [JE,yk,yk,Lib.itoa,Lib.itoa,if_pos h,if_neg (by omega),show (-n).toNat=n.natAbs by omega]
 rfl
theorem dec_one {n:Int} (h0: ¬n<0) (h:n<10):zb [48+n]=zS n:=by
 apply qzv
 rw [yk,Lib.itoa,if_neg h0,Lib.decDigits_one (by omega)]
 show [UInt8.ofNat (48+n).toNat]=_
 rw [show (48+n).toNat=48+n.toNat by omega]
theorem dec_more {n:Int} (h0: ¬n<0) (h: ¬n<10):zS (n / 10)++zb [48+n%10]=zS n:=by
 apply qzv
 rw [JE,yk,yk,Lib.itoa,Lib.itoa,if_neg h0,if_neg (by omega)]
 show _++[UInt8.ofNat (48+n%10).toNat]=_
 rw [show (48+n%10).toNat=48+n.toNat%10 by omega,show (n / 10).toNat=n.toNat / 10 by omega]
 conv=>rhs;rw [Lib.decDigits,dif_neg (show¬n.toNat<10 by omega)]
theorem F185_is {Z:prodL WK->Prop} {n:Int} {K:Kn} (hn:jj n) (hZ: ∀m,jj m->dmu m<dmu n->Z (m,())) (h:K (.str (zS n)) []):F185 Z (n,()) K:=by
 have hn': -9223372036854775808<=n/\n<=9223372036854775807:=hn
 unfold F185
 dsimp only [prodL,Lf.ty]
 rw [qu]
 by_cases h0:n<0
 . rw [if_pos h0,qu]
   by_cases h1:n< -9223372036854775807
   . rw [if_pos h1]
     obtain rfl:n= -9223372036854775808:=by omega
     rw [dec_min] at h
     exact h
   . rw [if_neg h1,jO (n:=0-n) (by omega) (by omega),show 0-n= -n by omega]
     have hm:jj (-n):=(⟨by omega,by omega⟩: -9223372036854775808<= -n/\ -n<=9223372036854775807)
     have hs:=wM hm
     refine ⟨hZ _ hm (by unfold dmu;rw [if_pos h0,if_neg (by omega)];omega), ?_, ?_⟩
     . show (1+(zS (-n)).size)*1<=140737488355328
       omega
     . rw [dec_neg h0];exact h
 . rw [if_neg h0,qu]
   by_cases h1:n<10
   . rw [if_pos h1,jO (n:=48+n) (by omega) (by omega),show IntKind.u8.wrap (48+n)=48+n by (simp [IntKind.wrap,IntKind.bits,IntKind.signed];omega),dec_one h0 h1]
     exact h
   . rw [if_neg h1]
     have e1:Int.tdiv n 10=n / 10:=Int.tdiv_eq_ediv_of_nonneg (by omega)
     have e2:Int.tmod n 10=n%10:=Int.tmod_eq_emod_of_nonneg (by omega)
     rw [e1,e2,jO (n:=n / 10) (by omega) (by omega),jO (n:=48+n%10) (by omega) (by omega),show IntKind.u8.wrap (48+n%10)=48+n%10 by (simp [IntKind.wrap,IntKind.bits,IntKind.signed];omega)]
     have hm:jj (n / 10):=(⟨by omega,by omega⟩: -9223372036854775808<=n / 10/\n / 10<=9223372036854775807)
     have hs:=wM hm
     refine ⟨by decide,hZ _ hm (by unfold dmu;rw [if_neg h0,if_neg (by omega)];omega),by decide, ?_, ?_⟩
     . show ((zS (n / 10)).size+1)*1<=140737488355328
       omega
     . rw [dec_more h0 h1];exact h
def VS:Sp:=JR fun g=>jj g.1
theorem KQ: ∀n,(JR fun g=>jj g.1/\dmu g.1<n).Ok Tryz.prog 185 true
 | 0=>⟨fun _ _ _ h _=>absurd h.2 (Nat.not_lt_zero _),fun _ _ _=>rfl,fun _=>rfl,fun _ _=>⟨rfl,rfl⟩⟩
 | n+1=>⟨by
   rintro ⟨k,⟨⟩⟩ K X ⟨q1,q2⟩ h
   have q2:dmu k<n+1:=q2
   exact F185_ok _ (KQ n) _ _ X (F185_is q1 (fun m h1 h2=>⟨h1,(by omega:dmu m<n)⟩) h),fun _ _ _=>rfl,fun _=>rfl,fun _ _=>⟨rfl,rfl⟩⟩
theorem sp185_ok:VS.Ok Tryz.prog 185 true:=
 ⟨fun g K X hp h=>(KQ (dmu g.1+1)).calls g K X ⟨hp,Nat.lt_succ_self _⟩ h,fun _ _ _=>rfl,fun _=>rfl,fun _ _=>⟨rfl,rfl⟩⟩
end Go.Proofs.YtbglndogddddoaaGreatDoor
namespace Go.Proofs.YtbglndogddddoaaGreatDoor
open Go.RowKit
attribute [local irreducible] qJ qd
def H133:List (Nat×Hint):=[]
def J133:List (Nat×Hint):=[(2,⟨[((2,[]),none)],[(0, .leaf),(2, .pt 0 0),(9, .leaf)],[.cells [.leaf, .leaf, .nil]],[.int .i64, .bool, .bool, .str]⟩)]
abbrev S133:List Sh:=[.leaf]
abbrev L133:List Lf:=[.int .i64]
def qzx (K:Kn) (n_1:Int) (t_1 t1_1:Bool) (t2_1:ByteArray):Prop:=
 bif t_1 then (
  K (.tu [.ag [.bool false, .str (⟨#[]⟩:ByteArray), .nil], .int .i64 2]) [])
 else (
  VS.pre (n_1,())/\
 K (.tu [.ag [.bool false, .str (zS n_1), .nil], .int .i64 0]) [])
def F133 (g:prodL L133) (K:Kn):Prop:=
 bif decide (g.1< (-1099511627776))then (
  qzx K g.1 true false (⟨#[]⟩:ByteArray))
 else (
  qzx K g.1 (decide (1099511627776<g.1)) false (⟨#[]⟩:ByteArray))
theorem F133_eq (g:prodL L133) (K X:Kn):F133 g K=qJ D (qk [] [(185,true,VS)]) (qx []) H133 J133 14 [.cell 2 85, .tmp 3] (qz Tryz.f133) (argsT S133 L133 g) [] (settle0 K) X:=by kernel_rfl
theorem F133_ok (g:prodL L133) (K X:Kn) (h:F133 g K):FCalls Tryz.prog 133 (argsT S133 L133 g) [] K X:=
 FCalls.settle0 (qq (Γ:=qk [] [(185,true,VS)]) (mu:=qx []) (H:=H133) (J:=J133) qY (qV (rs:=[]) (l:=[(185,true,VS)]) (fun p hp=>by cases hp) (by intro p hp;simp only [List.mem_cons,List.not_mem_nil,or_false] at hp;subst hp;exact sp185_ok)) qj rfl Tryz.func133 (c:=qz Tryz.f133) rfl Tryz.ntmps133 Tryz.results133 (by unfold qv;rw [Tryz.func133];kernel_rfl) (Nat.le_of_ble_eq_true (by kernel_rfl)) (c0:=0) (Eq.mp (F133_eq g K X) h))
end Go.Proofs.YtbglndogddddoaaGreatDoor
namespace Go.Proofs.YtbglndogddddoaaGreatDoor
open Go.RowKit
def sp133:Sp:=⟨S133,L133,fun g=>jj g.1,KV.res,fun _=>none⟩
theorem sp133_ok:sp133.Ok Tryz.prog 133 false:=
 ⟨by
  rintro ⟨n,⟨⟩⟩ K X q1 h
  have h:K (.tu [.ag [.bool (vZ n).1.isList, .str (vZ n).1.atom, .sl false .sexp (vZ n).1.list], .int .i64 (vZ n).2]) []:=h
  refine FCalls.weak (F133_ok (n,()) (xw K) X ?_)
  unfold F133
  dsimp only
  rw [qu]
  unfold vZ at h
  by_cases h1:n< -1099511627776
  . rw [if_pos (.inl h1)] at h
    rw [if_pos h1]
    exact wF h
  . rw [if_neg h1]
    unfold qzx
    rw [qu]
    by_cases h2:1099511627776<n
    . rw [if_pos (.inr h2)] at h
      rw [if_pos h2]
      exact wF h
    . rw [if_neg (fun e=>e.elim h1 h2)] at h
      rw [if_neg h2]
      exact ⟨q1,wF h⟩,fun _ _ _=>rfl,fun _=>rfl,fun h=>(by cases h)⟩
mutual
def nn:Sx->Nat
 | ⟨b,_,l⟩=>if b=false then 1 else 1+nns l
def nns:List Sx->Nat
 | []=>0
 | x::l=>nn x+nns l
end
mutual
def dd:Sx->Nat
 | ⟨b,_,l⟩=>if b=false then 1 else 1+dds l
def dds:List Sx->Nat
 | []=>0
 | x::l=>max (dd x) (dds l)
end
theorem nn_pos (x:Sx):1<=nn x:=by
 obtain ⟨b,a,l⟩:=x
 simp only [nn]
 split<;>omega
mutual
theorem JH: ∀(x:Sx) (m d:Int),(nn x:Int)<=m->(dd x:Int)<=d->cnt x m d=nn x
 | ⟨b,a,l⟩,m,d,h1,h2=>by
  simp only [nn,dd,cnt] at *
  by_cases hb:b=false
  . rw [if_pos hb] at h1 h2 ⊢
    rw [if_neg (by omega),if_pos hb];rfl
  . rw [if_neg hb] at h1 h2 ⊢
    rw [if_neg (by omega),if_neg hb,YX l m (d-1) 1 (by omega) (by omega)];omega
theorem YX: ∀(l:List Sx) (m d n:Int),n+(nns l:Int)<=m->(dds l:Int)<=d->QC l m d n=n+nns l
 | [],m,d,n,_,_=>by simp [QC,nns]
 | x::l,m,d,n,h1,h2=>by
  simp only [nns,dds,QC] at *
  rw [if_pos (by omega),JH x (m-n) d (by omega) (by omega),YX l m d _ (by omega) (by omega)];omega
end
theorem cnts_over: ∀(l:List Sx) (m d n:Int),m<n->QC l m d n=n
 | [],_,_,_,_=>rfl
 | x::l,m,d,n,h=>by simp only [QC];rw [if_neg (by omega)]
mutual
theorem cnt_in: ∀(x:Sx) (m d:Int),0<=m->cnt x m d<=m->(nn x:Int)<=m/\(dd x:Int)<=d
 | ⟨b,a,l⟩,m,d,h0,h=>by
  simp only [nn,dd,cnt] at *
  by_cases hc:d<1∨m<1
  . rw [if_pos hc] at h;omega
  . rw [if_neg hc] at h
    by_cases hb:b=false
    . rw [if_pos hb,if_pos hb];omega
    . rw [if_neg hb] at h
      rw [if_neg hb,if_neg hb]
      have:=cnts_in l m (d-1) 1 (by omega) (by omega) h
      omega
theorem cnts_in: ∀(l:List Sx) (m d n:Int),n<=m->0<=d->QC l m d n<=m->n+(nns l:Int)<=m/\(dds l:Int)<=d
 | [],m,d,n,h0,hd,_=>by simp only [nns,dds];omega
 | x::l,m,d,n,h0,hd,h=>by
  simp only [nns,dds,QC] at *
  rw [if_pos h0] at h
  by_cases hc:n+cnt x (m-n) d<=m
  . obtain ⟨k1,k2⟩:=cnt_in x (m-n) d (by omega) (by omega)
    rw [JH x (m-n) d k1 k2] at h hc
    have:=cnts_in l m d _ hc hd h
    omega
  . rw [cnts_over l m d _ (by omega)] at h
    omega
end
theorem Yd: ∀(l:List Sx) (n d:Int),vH l n true d=(n,true)
 | [],_,_=>rfl
 | x::l,n,d=>by simp only [vH,if_true]
mutual
theorem madd_is: ∀(x:Sx) (n d:Int),(n+(nn x:Int)<=20000/\(dd x:Int)+d-1<=12->wb x n false d=(n+nn x,false))/\((wb x n false d).2=false->n+(nn x:Int)<=20000/\(dd x:Int)+d-1<=12)
 | ⟨b,a,l⟩,n,d=>by
  simp only [nn,dd,wb]
  by_cases hb:b=false
  . simp only [if_pos hb,Bool.false_or]
    refine ⟨fun h=> ?_,fun h=> ?_⟩
    . rw [decide_eq_false (by omega)];rfl
    . have:=of_decide_eq_false h;omega
  . simp only [if_neg hb,Bool.false_or]
    by_cases hc:20000<n+1∨12<d
    . rw [decide_eq_true hc,Yd]
      exact ⟨fun h=>by omega,fun h=>by cases h⟩
    . rw [decide_eq_false hc]
      obtain ⟨k1,k2⟩:=madds_is l (n+1) (d+1) (by omega) (by omega)
      refine ⟨fun h=> ?_,fun h=> ?_⟩
      . rw [k1 (by omega)]
        simp only [Prod.mk.injEq,and_true];omega
      . have:=k2 h;omega
theorem madds_is: ∀(l:List Sx) (n d:Int),n<=20000->d<=13->(n+(nns l:Int)<=20000/\(dds l:Int)+d-1<=12->vH l n false d=(n+nns l,false))/\((vH l n false d).2=false->n+(nns l:Int)<=20000/\(dds l:Int)+d-1<=12)
 | [],n,d,hn,hd=>by
  simp only [nns,dds,vH]
  exact ⟨fun _=>by simp,fun _=>by omega⟩
 | x::l,n,d,hn,hd=>by
  simp only [nns,dds,vH]
  rw [if_neg (by simp)]
  obtain ⟨k1,k2⟩:=madd_is x n d
  have hp:=nn_pos x
  by_cases hx:n+(nn x:Int)<=20000/\(dd x:Int)+d-1<=12
  . rw [k1 hx]
    obtain ⟨m1,m2⟩:=madds_is l (n+nn x) d (by omega) hd
    refine ⟨fun h=> ?_,fun h=> ?_⟩
    . rw [m1 (by omega)]
      simp only [Prod.mk.injEq,and_true];omega
    . have:=m2 h;omega
  . refine ⟨fun h=>by omega,fun h=> ?_⟩
    cases hm:(wb x n false d).2 with
    | false=>exact absurd (k2 hm) hx
    | true=>rw [hm,Yd] at h;cases h
end
mutual
theorem shape_eq: ∀x:Sx,shS x=ckR x
 | ⟨b,a,l⟩=>by
  simp only [shS,ckR]
  cases b with
  | false=>
   simp only [if_true,Bool.false_eq_true,false_and,false_or,true_and]
   by_cases hl:0<l.length
   . rw [if_pos hl,if_pos hl]
   . rw [if_neg hl,if_neg hl]
     have:l=[]:=List.eq_nil_of_length_eq_zero (by omega)
     subst this
     rfl
  | true=>
   simp only [Bool.true_eq_false,if_false,true_and,false_and,or_false]
   by_cases ha:a≠⟨#[]⟩
   . rw [if_pos ha,if_pos ha]
   . rw [if_neg ha,if_neg ha]
     have:a=⟨#[]⟩:=Classical.not_not.1 ha
     subst this
     rw [if_neg (by decide),Kx l]
theorem Kx: ∀l:List Sx,shSs l=ckRs l
 | []=>rfl
 | x::l=>by simp only [shSs,ckRs,shape_eq x,Kx l]
end
theorem check_eq (x:Sx):ckG x=ckN x:=by
 unfold ckG ckN
 rw [shape_eq]
 obtain ⟨k1,k2⟩:=madd_is x 0 1
 by_cases h:(0:Int)+(nn x:Int)<=20000/\(dd x:Int)+1-1<=12
 . rw [k1 h,if_neg (by simp),if_neg (by rw [JH x 20000 12 (by omega) (by omega)];omega)]
 . have h1:(wb x 0 false 1).2=true:=by
    cases hm:(wb x 0 false 1).2 with
    | false=>exact absurd (k2 hm) h
    | true=>rfl
   rw [if_pos h1,if_pos]
   refine Int.not_le.1 fun hle=>h ?_
   have:=cnt_in x 20000 12 (by omega) hle
   omega
end Go.Proofs.YtbglndogddddoaaGreatDoor
namespace Go.Proofs.YtbglndogddddoaaGreatDoor
open Go.RowKit
attribute [local irreducible] qJ qd
end Go.Proofs.YtbglndogddddoaaGreatDoor
namespace Go.Proofs.YtbglndogddddoaaGreatDoor
open Go.RowKit
end Go.Proofs.YtbglndogddddoaaGreatDoor
namespace Go.Proofs.YtbglndogddddoaaGreatDoor
open Go.RowKit
mutual
def encL:Sx->List UInt8
 | ⟨b,a,l⟩=>if b=false then Lib.decDigits a.size++58::bl a else 40::(kZ l++[41])
def kZ:List Sx->List UInt8
 | []=>[]
 | x::l=>encL x++kZ l
end
mutual
theorem qq3: ∀x:Sx,bl (yy x)=encL x
 | ⟨b,a,l⟩=>by
  simp only [yy,encL]
  split
  . rw [JE,JE,yk,Lib.itoa,if_neg (by omega),List.append_assoc];rfl
  . rw [JE,encBs_bl l];rfl
theorem encBs_bl: ∀(l:List Sx) (s:ByteArray),bl (XJ l s)=bl s++kZ l
 | [],s=>by simp [XJ,kZ]
 | x::l,s=>by
  simp only [XJ,kZ]
  rw [encBs_bl l,JE,qq3 x,List.append_assoc]
end
end Go.Proofs.YtbglndogddddoaaGreatDoor
namespace Go.Proofs.YtbglndogddddoaaGreatDoor
open Go.RowKit
end Go.Proofs.YtbglndogddddoaaGreatDoor
namespace Go.Proofs.YtbglndogddddoaaGreatDoor
open Go.RowKit
end Go.Proofs.YtbglndogddddoaaGreatDoor
namespace Go.Proofs.YtbglndogddddoaaGreatDoor
open Go.RowKit
attribute [local irreducible] qJ qd
def H132:List (Nat×Hint):=[(5,⟨[((1,[]),none)],[(1, .pt 0 0),(3, .leaf),(4, .leaf)],[.cells [.leaf, .leaf, .leaf]],[.str, .int .i64, .bool, .str, .sl .sexp]⟩)]
def J132:List (Nat×Hint):=[]
abbrev S132:List Sh:=[.ag [.leaf, .leaf, .leaf]]
abbrev J4:List Lf:=[.bool, .str, .sl .sexp]
def qq9 (Z:prodL J4->Prop):Sp:=⟨S132,J4,Z,fun g=> .str (yy ⟨g.1,g.2.1,g.2.2.1⟩),fun _=>none⟩
def qqT (K:Kn) (Z:prodL J4->Prop) (W2:prodL [.str, .int .i64, .bool, .str, .sl .sexp]->Prop) (s_1:ByteArray) (i_1:Int) (x1_1:Bool) (x2_1:ByteArray) (x3_1:List Sx):Prop:=
 bif decide (i_1< (x3_1.length:Int))then (
  At x3_1 i_1 fun u3=>
 Z (u3.isList,u3.atom,u3.list,())/\
 ql (s_1.size+(yy ⟨u3.isList,u3.atom,u3.list⟩).size) 1 (
 W2 (s_1++(yy ⟨u3.isList,u3.atom,u3.list⟩),IntKind.i64.wrap (i_1+1),x1_1,x2_1,x3_1,())))
 else (
  ql (s_1.size+(⟨#[41]⟩:ByteArray).size) 1 (
 K (.str (s_1++(⟨#[41]⟩:ByteArray))) []))
def F132_L2 (K:Kn) (Z:prodL J4->Prop) (g:prodL [.str, .int .i64, .bool, .str, .sl .sexp]):Prop:=
 qQ (γ:=prodL [.str, .int .i64, .bool, .str, .sl .sexp]) (fun V y=>qqT K Z V y.1 y.2.1 y.2.2.1 y.2.2.2.1 y.2.2.2.2.1) g
def F132 (Z:prodL J4->Prop) (g:prodL J4) (K:Kn):Prop:=
 bif !g.1 then (
  VS.pre ((g.2.1.size:Int),())/\
  ql ((zS (g.2.1.size:Int)).size+(⟨#[58]⟩:ByteArray).size) 1 (
  ql (((zS (g.2.1.size:Int))++(⟨#[58]⟩:ByteArray)).size+g.2.1.size) 1 (
  K (.str (((zS (g.2.1.size:Int))++(⟨#[58]⟩:ByteArray))++g.2.1)) [])))
 else (
  F132_L2 K Z ((⟨#[40]⟩:ByteArray),0,g.1,g.2.1,g.2.2.1,()))
theorem F132_eq (Z:prodL J4->Prop) (g:prodL J4) (K X:Kn):F132 Z g K=qJ D (qk [] [(185,true,VS),(132,true,qq9 Z)]) (qx []) H132 J132 33 [.tmp 2] (qz Tryz.f132) (argsT S132 J4 g) [] (settle0 K) X:=by kernel_rfl
theorem F132_ok (Z:prodL J4->Prop) (hZ:(qq9 Z).Ok Tryz.prog 132 true) (g:prodL J4) (K X:Kn) (h:F132 Z g K):FCalls Tryz.prog 132 (argsT S132 J4 g) [] K X:=
 FCalls.settle0 (qq qY (jq (zq sp185_ok (zq hZ z8))) qj rfl Tryz.func132 (c:=qz Tryz.f132) rfl Tryz.ntmps132 Tryz.results132 (by unfold qv;rw [Tryz.func132];kernel_rfl) (Nat.le_of_ble_eq_true (by kernel_rfl)) (c0:=0) (Eq.mp (F132_eq Z g K X) h))
end Go.Proofs.YtbglndogddddoaaGreatDoor
namespace Go.Proofs.YtbglndogddddoaaGreatDoor
open Go.RowKit
mutual
theorem Wn: ∀x:Sx,xo x<=vK->(encL x).length<=22*xo x
 | ⟨b,a,l⟩,h=>by
  simp only [xo] at h ⊢
  simp only [encL]
  have hl:=Q3
  split
  . have:=kR 19 a.size (by omega)
    have:=bl_len a
    simp only [List.length_append,List.length_cons];omega
  . have:=qqx l (by omega)
    simp only [List.length_append,List.length_cons,List.length_nil];omega
theorem qqx: ∀l:List Sx,zl l<=vK->(kZ l).length<=22*zl l
 | [],_=>by simp [kZ,zl]
 | x::l,h=>by
  simp only [zl] at h ⊢
  have:=Wn x (by omega)
  have:=qqx l (by omega)
  simp only [kZ,List.length_append];omega
end
theorem encB_size {x:Sx} (h:xo x<=vK):(yy x).size<=22*xo x:=by
 rw [<- bl_len,qq3];exact Wn x h
theorem size_app (a b:ByteArray):(a++b).size=a.size+b.size:=ByteArray.size_append
theorem F132_is {Z:prodL J4->Prop} {b:Bool} {a:ByteArray} {l:List Sx} {K:Kn} (hk:xo ⟨b,a,l⟩<=vK) (hZ: ∀x∈l,Z (x.isList,x.atom,x.list,())) (h:K (.str (yy ⟨b,a,l⟩)) []):F132 Z (b,a,l,()) K:=by
 obtain ⟨hs,hsz,hbl,_⟩:=vB hk
 have hl:=Q3
 unfold F132
 simp only [yy] at h
 dsimp only [Lf.ty,prodL] at h ⊢
 cases b
 . simp only [if_true,Bool.not_false,cond_true] at h ⊢
   have hn:jj (a.size:Int):=(⟨by omega,by omega⟩: -9223372036854775808<=(a.size:Int)/\(a.size:Int)<=9223372036854775807)
   have hd:=wM hn
   refine ⟨hn, ?_, ?_,h⟩
   . show ((zS (a.size:Int)).size+1)*1<=140737488355328
     omega
   . rw [size_app]
     show ((zS (a.size:Int)).size+1+a.size)*1<=140737488355328
     omega
 . simp only [Bool.true_eq_false,if_false,Bool.not_true,cond_false] at h ⊢
   unfold F132_L2
   refine qQ.fold l (fun n (s:ByteArray)=>(s,(n:Int),true,a,l,())) (fun r _ s=>K (.str (XJ r s++⟨#[41]⟩)) []/\s.size+22*zl r<=22*vK+1) (a0:=⟨#[40]⟩) rfl ⟨h,by show 1+_<=_;omega⟩ (fun s hp W=> ?_) (fun n hn r s hr hp W hW=> ?_)
   . obtain ⟨p1,p2⟩:=hp
     unfold qqT
     rw [qu,if_neg (by dsimp only;omega)]
     refine ⟨?_,p1⟩
     show (s.size+1)*1<=140737488355328
     simp only [zl] at p2
     omega
   . obtain ⟨p1,p2⟩:=hp
     unfold qqT
     rw [qu,if_pos (by dsimp only;omega)]
     have hx:xo l[n]<=zl l:=WA (List.getElem_mem hn)
     have hz:=encB_size (x:=l[n]) (by omega)
     simp only [zl] at p2
     refine qE hn ⟨hZ _ (List.getElem_mem hn), ?_, ?_⟩
     . rw [Sx.eta]
       dsimp only
       omega
     . rw [Sx.eta,zJ hn hs]
       refine hW (s++yy l[n]) ⟨p1, ?_⟩
       rw [size_app];omega
def sp132:Sp:=qq9 bkP
theorem qqj: ∀n,(qq9 fun g=>bkP g/\qU ⟨g.1,g.2.1,g.2.2.1⟩ <n).Ok Tryz.prog 132 true
 | 0=>⟨fun _ _ _ h _=>absurd h.2 (Nat.not_lt_zero _),fun _ _ _=>rfl,fun _=>rfl,fun _ _=>⟨rfl,rfl⟩⟩
 | n+1=>⟨fun g _ X hp h=>F132_ok _ (qqj n) _ _ X (F132_is hp.1 (fun x hx=>⟨((vB hp.1).2.2.2 x hx).1,by have:=((vB hp.1).2.2.2 x hx).2;have:=hp.2;dsimp only at *;omega⟩) h),fun _ _ _=>rfl,fun _=>rfl,fun _ _=>⟨rfl,rfl⟩⟩
theorem sp132_ok:sp132.Ok Tryz.prog 132 true:=
 ⟨fun g K X hp h=>(qqj (qU ⟨g.1,g.2.1,g.2.2.1⟩+1)).calls g K X ⟨hp,Nat.lt_succ_self _⟩ h,fun _ _ _=>rfl,fun _=>rfl,fun _ _=>⟨rfl,rfl⟩⟩
def xi (x:Sx):ByteArray×Int:=if ckG x=0 then (yy x,0)else (⟨#[]⟩,ckG x)
end Go.Proofs.YtbglndogddddoaaGreatDoor
namespace Go.Proofs.YtbglndogddddoaaGreatDoor
open Go.RowKit
attribute [local irreducible] qJ qd
def H76:List (Nat×Hint):=[]
def J76:List (Nat×Hint):=[]
abbrev S76:List Sh:=[.ag [.leaf, .leaf, .leaf]]
abbrev L76:List Lf:=[.bool, .str, .sl .sexp]
def F76 (g:prodL L76) (K:Kn):Prop:=
 sp131.pre (g.1,g.2.1,g.2.2.1,())/\
 bif !decide (ckN ⟨g.1,g.2.1,g.2.2.1⟩=0)then (
  K (.tu [.str (⟨#[]⟩:ByteArray), .int .i64 (ckN ⟨g.1,g.2.1,g.2.2.1⟩)]) [])
 else (
  sp132.pre (g.1,g.2.1,g.2.2.1,())/\
 K (.tu [.str (yy ⟨g.1,g.2.1,g.2.2.1⟩), .int .i64 0]) [])
theorem F76_eq (g:prodL L76) (K X:Kn):F76 g K=qJ D (qk [] [(131,true,sp131),(132,true,sp132)]) (qx []) H76 J76 12 [.tmp 2, .tmp 3] (qz Tryz.f76) (argsT S76 L76 g) [] (settle0 K) X:=by kernel_rfl
theorem F76_ok (g:prodL L76) (K X:Kn) (h:F76 g K):FCalls Tryz.prog 76 (argsT S76 L76 g) [] K X:=
 FCalls.settle0 (qq qY (jq (zq sp131_ok (zq sp132_ok z8))) qj rfl Tryz.func76 (c:=qz Tryz.f76) rfl Tryz.ntmps76 Tryz.results76 (by unfold qv;rw [Tryz.func76];kernel_rfl) (Nat.le_of_ble_eq_true (by kernel_rfl)) (c0:=0) (Eq.mp (F76_eq g K X) h))
end Go.Proofs.YtbglndogddddoaaGreatDoor
namespace Go.Proofs.YtbglndogddddoaaGreatDoor
open Go.RowKit
def sp76:Sp:=⟨S76,L76,bkP,fun g=> .tu [.str (xi ⟨g.1,g.2.1,g.2.2.1⟩).1, .int .i64 (xi ⟨g.1,g.2.1,g.2.2.1⟩).2],fun _=>none⟩
theorem sp76_ok:sp76.Ok Tryz.prog 76 true:=
 ⟨by
  rintro ⟨b,a,l,⟨⟩⟩ K X q1 h
  have h:K (.tu [.str (xi ⟨b,a,l⟩).1, .int .i64 (xi ⟨b,a,l⟩).2]) []:=h
  refine F76_ok (b,a,l,()) K X ⟨q1, ?_⟩
  unfold xi at h
  rw [check_eq] at h
  dsimp only
  rw [bif_ndec]
  by_cases h0:ckN ⟨b,a,l⟩=0
  . rw [if_pos h0] at h
    rw [if_pos h0]
    exact ⟨q1,h⟩
  . rw [if_neg h0] at h
    rw [if_neg h0]
    exact h,fun _ _ _=>rfl,fun _=>rfl,fun _ _=>⟨rfl,rfl⟩⟩
def EncodeOk:Prop:=sp76.Ok Tryz.prog 122 true
def sp122:Sp:=⟨S76,L76,fun g=>bkP g/\EncodeOk,sp76.res,fun _=>none⟩
theorem sp122_ok:sp122.Ok Tryz.prog 122 true:=
 ⟨fun g K X hp h=>hp.2.calls g K X hp.1 h,fun _ _ _=>rfl,fun _=>rfl,fun _ _=>⟨rfl,rfl⟩⟩
end Go.Proofs.YtbglndogddddoaaGreatDoor
namespace Go.Proofs.YtbglndogddddoaaGreatDoor
open Go.RowKit
attribute [local irreducible] qJ qd
end Go.Proofs.YtbglndogddddoaaGreatDoor
namespace Go.Proofs.YtbglndogddddoaaGreatDoor
open Go.RowKit
end Go.Proofs.YtbglndogddddoaaGreatDoor
namespace Go.Proofs.YtbglndogddddoaaGreatDoor
open Go.RowKit
end Go.Proofs.YtbglndogddddoaaGreatDoor
namespace Go.Proofs.YtbglndogddddoaaGreatDoor
open Go.RowKit
end Go.Proofs.YtbglndogddddoaaGreatDoor
namespace Go.Proofs.YtbglndogddddoaaGreatDoor
open Go.RowKit Go.Shelf
def ZT:Go.Shelf.Ren:=⟨fun | 240=>229 | 276=>237 | n=>n,fun | 70=>187 | 72=>189 | 37=>69 | 164=>244 | n=>n,fun n=>n⟩
theorem laysCopy:Go.Proofs.Lays.n240 Tryz.prog ZT:={
 mixed:=by kernel_rfl
 f240:=Tryz.func229.trans (congrArg some (by kernel_rfl))
 f276:=Tryz.func237.trans (congrArg some (by kernel_rfl))
 t0:=Tryz.underlying0
 a0:=Tryz.isAgg0
 z0:=Tryz.sizeOf0
 v0:=Tryz.zeroValue0
 t4:=Tryz.underlying4
 a4:=Tryz.isAgg4
 z4:=Tryz.sizeOf4
 v4:=Tryz.zeroValue4
 t9:=Tryz.underlying9
 a9:=Tryz.isAgg9
 z9:=Tryz.sizeOf9
 v9:=Tryz.zeroValue9
 t20:=Tryz.underlying20
 a20:=Tryz.isAgg20
 z20:=Tryz.sizeOf20
 v20:=Tryz.zeroValue20
 t70:=Tryz.underlying187
 a70:=Tryz.isAgg187
 z70:=Tryz.sizeOf187
 v70:=Tryz.zeroValue187
 t72:=Tryz.underlying189
 a72:=Tryz.isAgg189
 z72:=Tryz.sizeOf189
 v72:=Tryz.zeroValue189
 t164:=Tryz.underlying244
 a164:=Tryz.isAgg244
 z164:=Tryz.sizeOf244
 v164:=Tryz.zeroValue244}
theorem copyX:Builder.X72 Tryz.prog ZT:={sizeBuilder:=by kernel_rfl,liesBuilder:=by kernel_rfl}
abbrev bdrO:List ObSh:=[.cells [.pt 0 0, .oa .u8 1], .arr .u8]
def y9:Raw:=⟨[.pt 0 0],bdrO,[.sl .u8],0,fun g K _=>K (.tu []) [some (.cells [.pt 0 0, .oa .u8 1 0]),some (.arr 0 .u8 g.1)]⟩
theorem rw229_ok:y9.Ok Tryz.prog 229:=by
 rintro ⟨bs,⟨⟩⟩ K X h g w hg
 have h:K (.tu []) [some (.cells [.pt 0 0, .oa .u8 1 0]),some (.arr 0 .u8 bs)]:=h
 have hg:Good g [some (.cells [.pt 0 0, .oa .u8 1 0]),some (.arr 0 .u8 bs)] w:=hg
 refine ke.of (by kernel_rfl) fun args hr=> ?_
 obtain ⟨x,rfl,hx⟩:=qqD hr
 obtain ⟨oi,o1,_,o3⟩:=hg.obj 0 _ rfl
 have o1:g.ob 0 0=some oi:=o1
 have hx:R g (.pt 0 0) x:=hx
 cases hx with
 | pt _ _ oi' h1=>
  rw [o1] at h1
  simp only [Option.some.injEq] at h1
  subst h1
  rcases o3 with o3 | ⟨_,blk,E,fr,p1,_,p3,_⟩
  . cases o3.1
  have p1:w.heap[oi.b]? =some (.cells blk E fr):=p1
  obtain ⟨y,y1,_,y3⟩:=p3.at_ 0 _ rfl
  have hy:y= .pointer (some ⟨oi.b,0,none⟩):=by
   cases y3 with
   | pt _ _ oi' h1=>
    rw [o1] at h1
    simp only [Option.some.injEq] at h1
    subst h1
    rfl
  refine (Any.Builder_copyCheck_used laysCopy copyX oi.b w (by rw [<- hy];simp [World.cell?,p1,y1])).mono ?_
  rintro e w' ⟨rfl,rfl⟩
  exact ⟨g,_,hg,Step.refl,_,h, .tu [] #[] rfl (by simp)⟩
end Go.Proofs.YtbglndogddddoaaGreatDoor
namespace Go.Proofs.YtbglndogddddoaaGreatDoor
open Go.RowKit
attribute [local irreducible] qJ qd
def H210:List (Nat×Hint):=[]
def J210:List (Nat×Hint):=[]
abbrev S210:List Sh:=[.pt 0 0, .leaf]
abbrev L210:List Lf:=[.str, .sl .u8]
abbrev O210:List ObSh:=[.cells [.pt 0 0, .oa .u8 1], .arr .u8]
def F210 (g:prodL L210) (K:Kn):Prop:=
 ql (g.2.1.length+(zx g.1).length) 1 (
 K (.tu [.int .i64 (g.1.size:Int), .cst .nilIface]) [some (.cells [.pt 0 0, .oa .u8 1 0]),some (.arr 0 .u8 (g.2.1++(zx g.1)))])
theorem F210_eq (g:prodL L210) (K X:Kn):F210 g K=qJ D (qk [(229,y9)] []) (qx [(229,y9)]) H210 J210 19 [.tmp 4, .tmp 5] (qz Tryz.f210) (argsT S210 L210 g) (qg S210 O210 L210 g) (settleD (qg S210 O210 L210 g).length 0 K) X 0:=by kernel_rfl
theorem F210_ok (g:prodL L210) (K X:Kn) (h:F210 g K):FCalls Tryz.prog 210 (argsT S210 L210 g) (qg S210 O210 L210 g) K X 0:=
 FCalls.settleD (qq (Γ:=qk [(229,y9)] []) (mu:=qx [(229,y9)]) (H:=H210) (J:=J210) qY (qV (rs:=[(229,y9)]) (l:=[]) (by intro p hp;simp only [List.mem_cons,List.not_mem_nil,or_false] at hp;subst hp;exact rw229_ok) (fun p hp=>by cases hp)) qj rfl Tryz.func210 (c:=qz Tryz.f210) rfl Tryz.ntmps210 (rs:=[.tmp 4, .tmp 5]) Tryz.results210 (by unfold qv;rw [Tryz.func210];kernel_rfl) (Nat.le_of_ble_eq_true (by kernel_rfl)) (X:=X) (c0:=0) (Eq.mp (F210_eq g K X) h))
def yR:Raw:=⟨S210,O210,L210,0,fun g K _=>F210 g K⟩
theorem rw210_ok:yR.Ok Tryz.prog 210:=fun g K X h=>F210_ok g K X h
def H211:List (Nat×Hint):=[]
def J211:List (Nat×Hint):=[]
abbrev S211:List Sh:=[.pt 0 0, .leaf]
abbrev qq6:List Lf:=[.int .u8, .sl .u8]
abbrev O211:List ObSh:=[.cells [.pt 0 0, .oa .u8 1], .arr .u8]
def F211 (g:prodL qq6) (K:Kn):Prop:=
 ql (g.2.1.length+[g.1].length) 1 (
 K (.cst .nilIface) [some (.cells [.pt 0 0, .oa .u8 1 0]),some (.arr 0 .u8 (g.2.1++[g.1]))])
theorem F211_eq (g:prodL qq6) (K X:Kn):F211 g K=qJ D (qk [(229,y9)] []) (qx [(229,y9)]) H211 J211 17 [.tmp 4] (qz Tryz.f211) (argsT S211 qq6 g) (qg S211 O211 qq6 g) (settleD (qg S211 O211 qq6 g).length 0 K) X 0:=by kernel_rfl
theorem F211_ok (g:prodL qq6) (K X:Kn) (h:F211 g K):FCalls Tryz.prog 211 (argsT S211 qq6 g) (qg S211 O211 qq6 g) K X 0:=
 FCalls.settleD (qq (Γ:=qk [(229,y9)] []) (mu:=qx [(229,y9)]) (H:=H211) (J:=J211) qY (qV (rs:=[(229,y9)]) (l:=[]) (by intro p hp;simp only [List.mem_cons,List.not_mem_nil,or_false] at hp;subst hp;exact rw229_ok) (fun p hp=>by cases hp)) qj rfl Tryz.func211 (c:=qz Tryz.f211) rfl Tryz.ntmps211 (rs:=[.tmp 4]) Tryz.results211 (by unfold qv;rw [Tryz.func211];kernel_rfl) (Nat.le_of_ble_eq_true (by kernel_rfl)) (X:=X) (c0:=0) (Eq.mp (F211_eq g K X) h))
def y8:Raw:=⟨S211,O211,qq6,0,fun g K _=>F211 g K⟩
theorem rw211_ok:y8.Ok Tryz.prog 211:=fun g K X h=>F211_ok g K X h
end Go.Proofs.YtbglndogddddoaaGreatDoor
namespace Go.Proofs.YtbglndogddddoaaGreatDoor
open Go.RowKit
def xW (x:Sx):List Int:=(encL x).map fun b=>(b.toNat:Int)
def encP (x:Sx) (bs:List Int):Prop:=xo x<=vK/\bs.length+22*xo x<=70368744177664
def encPre (g:prodL [.bool, .str, .sl .sexp, .sl .u8]):Prop:=encP ⟨g.1,g.2.1,g.2.2.1⟩ g.2.2.2.1
def encF (g:prodL [.bool, .str, .sl .sexp, .sl .u8]) (K _:Kn):Prop:=
 K (.tu []) [some (.cells [.pt 0 0, .oa .u8 1 0]),some (.arr 0 .u8 (g.2.2.2.1++xW ⟨g.1,g.2.1,g.2.2.1⟩))]
end Go.Proofs.YtbglndogddddoaaGreatDoor
namespace Go.Proofs.YtbglndogddddoaaGreatDoor
open Go.RowKit
attribute [local irreducible] qJ qd
def H171:List (Nat×Hint):=[(7,⟨[],[(0, .pt 0 0),(24, .leaf),(25, .leaf),(26, .leaf)],[.cells [.pt 0 0, .oa .u8 1], .arr .u8],[.sl .sexp, .int .i64, .int .i64, .sl .u8]⟩)]
def J171:List (Nat×Hint):=[]
abbrev S171:List Sh:=[.pt 0 0, .ag [.leaf, .leaf, .leaf]]
abbrev Qj:List Lf:=[.bool, .str, .sl .sexp, .sl .u8]
abbrev O171:List ObSh:=[.cells [.pt 0 0, .oa .u8 1], .arr .u8]
def kv (Z:prodL Qj->Prop):Raw:=⟨S171,O171,Qj,0,fun g K X=>Z g/\encF g K X⟩
def qqB (K:Kn) (Z:prodL Qj->Prop) (W6:prodL [.sl .sexp, .int .i64, .int .i64, .sl .u8]->Prop) (t_5:List Sx) (t2_5 t3_5:Int) (o1_5:List Int):Prop:=
 bif decide (t3_5<t2_5)then (
  At t_5 t3_5 fun u7=>
 Z (u7.isList,u7.atom,u7.list,o1_5,())/\
 W6 (t_5,t2_5,IntKind.i64.wrap (t3_5+1),(o1_5++xW ⟨u7.isList,u7.atom,u7.list⟩),()))
 else (
  let g8:prodL [.int .u8, .sl .u8]:=(41,o1_5,());
 ql (g8.2.1.length+[g8.1].length) 1 (
 K (.tu []) [some (.cells [.pt 0 0, .oa .u8 1 0]),some (.arr 0 .u8 (g8.2.1++[g8.1]))]))
def F171_L6 (K:Kn) (Z:prodL Qj->Prop) (g:prodL [.sl .sexp, .int .i64, .int .i64, .sl .u8]):Prop:=
 qQ (γ:=prodL [.sl .sexp, .int .i64, .int .i64, .sl .u8]) (fun V y=>qqB K Z V y.1 y.2.1 y.2.2.1 y.2.2.2.1) g
def F171 (Z:prodL Qj->Prop) (g:prodL Qj) (K:Kn):Prop:=
 bif !g.1 then (
  w8.pre ((g.2.1.size:Int),())/\
  let g1:prodL [.str, .sl .u8]:=((zS (g.2.1.size:Int)),g.2.2.2.1,());
  ql (g1.2.1.length+(zx g1.1).length) 1 (
  let g2:prodL [.int .u8, .sl .u8]:=(58,g1.2.1++(zx g1.1),());
  ql (g2.2.1.length+[g2.1].length) 1 (
  let g3:prodL [.str, .sl .u8]:=(g.2.1,g2.2.1++[g2.1],());
  ql (g3.2.1.length+(zx g3.1).length) 1 (
  K (.tu []) [some (.cells [.pt 0 0, .oa .u8 1 0]),some (.arr 0 .u8 (g3.2.1++(zx g3.1)))]))))
 else (
  let g4:prodL [.int .u8, .sl .u8]:=(40,g.2.2.2.1,());
 ql (g4.2.1.length+[g4.1].length) 1 (
 F171_L6 K Z (g.2.2.1,(g.2.2.1.length:Int),0,g4.2.1++[g4.1],())))
theorem F171_eq (Z:prodL Qj->Prop) (g:prodL Qj) (K X:Kn):F171 Z g K=qJ D (qk [(171,kv Z),(210,yR),(211,y8)] [(209,true,w8)]) (qx [(171,kv Z),(210,yR),(211,y8)]) H171 J171 36 [] (qz Tryz.f171) (argsT S171 Qj g) (qg S171 O171 Qj g) (settleD (qg S171 O171 Qj g).length 0 K) X 0:=by kernel_rfl
theorem F171_ok (Z:prodL Qj->Prop) (hZ:(kv Z).Ok Tryz.prog 171) (g:prodL Qj) (K X:Kn) (h:F171 Z g K):FCalls Tryz.prog 171 (argsT S171 Qj g) (qg S171 O171 Qj g) K X 0:=
 FCalls.settleD (qq (Γ:=qk [(171,kv Z),(210,yR),(211,y8)] [(209,true,w8)]) (mu:=qx [(171,kv Z),(210,yR),(211,y8)]) (H:=H171) (J:=J171) qY (qV (rs:=[(171,kv Z),(210,yR),(211,y8)]) (l:=[(209,true,w8)]) (by intro p hp;simp only [List.mem_cons,List.not_mem_nil,or_false] at hp;rcases hp with rfl | rfl | rfl<;>first | exact hZ | exact rw210_ok | exact rw211_ok) (by intro p hp;simp only [List.mem_cons,List.not_mem_nil,or_false] at hp;subst hp;exact WH)) qj rfl Tryz.func171 (c:=qz Tryz.f171) rfl Tryz.ntmps171 (rs:=[]) Tryz.results171 (by unfold qv;rw [Tryz.func171];kernel_rfl) (Nat.le_of_ble_eq_true (by kernel_rfl)) (X:=X) (c0:=0) (Eq.mp (F171_eq Z g K X) h))
end Go.Proofs.YtbglndogddddoaaGreatDoor
namespace Go.Proofs.YtbglndogddddoaaGreatDoor
open Go.RowKit
def Qk (l:List Sx):List Int:=(kZ l).map fun b=>(b.toNat:Int)
theorem strB_bl (s:ByteArray):zx s=(bl s).map fun b=>(b.toNat:Int):=rfl
theorem encI_len {x:Sx} (h:xo x<=vK):(xW x).length<=22*xo x:=by unfold xW;rw [List.length_map];exact Wn x h
theorem Ju (a:ByteArray) (l:List Sx):xW ⟨false,a,l⟩=zx (zS (a.size:Int))++(58::zx a):=by
 unfold xW
 simp only [encL,if_true,strB_bl,yk,List.map_append,List.map_cons]
 rw [Lib.itoa,if_neg (by omega),Int.toNat_natCast]
 rfl
theorem JT (a:ByteArray) (l:List Sx):xW ⟨true,a,l⟩=40::(Qk l++[41]):=by
 unfold xW Qk
 simp [encL]
theorem F171_is {Z:prodL Qj->Prop} {b:Bool} {a:ByteArray} {l:List Sx} {bs:List Int} {K X:Kn} (hp:encP ⟨b,a,l⟩ bs) (hZ: ∀x∈l, ∀cs,encP x cs->Z (x.isList,x.atom,x.list,cs,())) (h:encF (b,a,l,bs,()) K X):F171 Z (b,a,l,bs,()) K:=by
 obtain ⟨hk,hz⟩:=hp
 obtain ⟨hs,hsz,hbl,_⟩:=vB hk
 have hl:=Q3
 unfold encF at h
 unfold F171
 simp only [xo] at hz
 dsimp only [Lf.ty,prodL] at h ⊢
 cases b
 . rw [Ju] at h
   have hn:jj (a.size:Int):=(⟨by omega,by omega⟩: -9223372036854775808<=(a.size:Int)/\(a.size:Int)<=9223372036854775807)
   have hd:=wM hn
   simp only [Bool.not_false,cond_true]
   refine ⟨hn, ?_, ?_, ?_, ?_⟩
   . rw [xJ];omega
   . simp only [List.length_append,xJ,List.length_cons,List.length_nil];omega
   . simp only [List.length_append,xJ,List.length_cons,List.length_nil];omega
   . rw [show ((bs++zx (zS (a.size:Int)))++[58])++zx a=bs++(zx (zS (a.size:Int))++(58::zx a))by simp]
     exact h
 . rw [JT] at h
   simp only [Bool.not_true,cond_false]
   refine ⟨by simp only [List.length_cons,List.length_nil];omega, ?_⟩
   unfold F171_L6
   refine qQ.fold l (fun n (cs:List Int)=>(l,(l.length:Int),(n:Int),cs,())) (fun r _ cs=>K (.tu []) [some (.cells [.pt 0 0, .oa .u8 1 0]),some (.arr 0 .u8 (cs++(Qk r++[41])))]/\cs.length+22*zl r<=70368744177664) (a0:=bs++[40]) rfl ⟨?_,by simp only [List.length_append,List.length_cons,List.length_nil];omega⟩ (fun cs hp W=> ?_) (fun n hn r cs hr hp W hW=> ?_)
   . rw [List.append_assoc];exact h
   . obtain ⟨p1,p2⟩:=hp
     unfold qqB
     rw [qu,if_neg (by dsimp only;omega)]
     simp only [zl] at p2
     exact ⟨by simp only [List.length_cons,List.length_nil];omega,p1⟩
   . obtain ⟨p1,p2⟩:=hp
     unfold qqB
     rw [qu,if_pos (by dsimp only;omega)]
     have hx:xo l[n]<=zl l:=WA (List.getElem_mem hn)
     have he:=encI_len (x:=l[n]) (by omega)
     simp only [zl] at p2
     refine qE hn ⟨hZ _ (List.getElem_mem hn) cs ⟨by omega,by omega⟩, ?_⟩
     rw [Sx.eta,zJ hn hs]
     refine hW (cs++xW l[n]) ⟨?_, ?_⟩
     . have e:Qk (l[n]::r)=xW l[n]++Qk r:=by unfold Qk xW;simp [kZ]
       rw [e] at p1
       rw [List.append_assoc, <- List.append_assoc (xW l[n])]
       exact p1
     . rw [List.length_append];omega
def Kv:Raw:=kv encPre
theorem KT: ∀n:Nat,(kv fun g=>encPre g/\qU ⟨g.1,g.2.1,g.2.2.1⟩ <n).Ok Tryz.prog 171
 | 0=>fun g K X h=>absurd h.1.2 (Nat.not_lt_zero _)
 | n+1=>fun g K X h=>F171_ok _ (KT n) g K X (F171_is h.1.1 (fun x hx cs hc=>⟨(by show encP ⟨_,_,_⟩ _;rw [Sx.eta];exact hc),by
   have h1:=((vB h.1.1.1).2.2.2 x hx).2
   have h2:=h.1.2
   dsimp only at *
   omega⟩) h.2)
theorem rw171_ok:Kv.Ok Tryz.prog 171:=fun g K X h=>KT (qU ⟨g.1,g.2.1,g.2.2.1⟩+1) g K X ⟨⟨h.1,Nat.lt_succ_self _⟩,h.2⟩
end Go.Proofs.YtbglndogddddoaaGreatDoor
namespace Go.Proofs.YtbglndogddddoaaGreatDoor
open Go.RowKit Go.Shelf
theorem setCell_at {w:World} {b q:Nat} {blk:Array Value} {E:TypeId} {fr:Nat×Nat} (v:Value) (h:w.heap[b]? =some (.cells blk E fr)):(w.setCell ⟨b,q,none⟩ v).heap[b]? =some (.cells (blk.setIfInBounds q v) E fr):=by
 simp [World.setCell,Array.getElem?_modify,h]
theorem qqe {w:World} {b q b':Nat} (v:Value) (h:b'≠b):(w.setCell ⟨b,q,none⟩ v).heap[b']? =w.heap[b']? :=by
 simp [World.setCell,Array.getElem?_modify,Ne.symm h]
def vm:Raw:=⟨[.pt 0 0],[.cells [.fp, .nil]],[],0,fun _ K _=>K (.tu []) [some (.cells [.pt 0 0, .nil])]⟩
theorem Y9:vm.Ok Tryz.prog 229:=by
 rintro ⟨⟩ K X h g w hg
 have h:K (.tu []) [some (.cells [.pt 0 0, .nil])]:=h
 have hg:Good g [some (.cells [.fp, .nil])] w:=hg
 refine ke.of (by kernel_rfl) fun args hr=> ?_
 obtain ⟨x,rfl,hx⟩:=qqD hr
 obtain ⟨oi,o1,_,o3⟩:=hg.obj 0 _ rfl
 have o1:g.ob 0 0=some oi:=o1
 have hx:R g (.pt 0 0) x:=hx
 cases hx with
 | pt _ _ oi' h1=>
  rw [o1] at h1
  simp only [Option.some.injEq] at h1
  subst h1
  rcases o3 with o3 | ⟨_,blk,E,fr,p1,p2,p3,p4⟩
  . cases o3.1
  have p1:w.heap[oi.b]? =some (.cells blk E fr):=p1
  obtain ⟨y,y1,_,y3⟩:=p3.at_ 0 _ rfl
  obtain ⟨z,z1,z2,z3⟩:=p3.at_ 1 _ rfl
  have hy:y= .pointer none:=by cases y3;rfl
  subst hy
  have p4:(E==189&&blk.size==2)=true:=p4
  simp only [Bool.and_eq_true,beq_iff_eq] at p4
  obtain ⟨rfl,hs⟩:=p4
  refine (Any.Builder_copyCheck_fresh laysCopy copyX oi.b w (by simp [World.cell?,p1,y1]) (by simp [World.shape?,p1,hs];rfl) (by
   have:=p2 0 (by omega)
   simp only [World.frozen?,p1]
   simpa using this)).mono ?_
  rintro e w' ⟨rfl,rfl⟩
  obtain ⟨k1,k2,k3⟩:=qP (st':=[some (.cells [.pt 0 0, .nil])]) (k:=0) (v:=0) (o':= .cells [.pt 0 0, .nil]) (oi:=oi) (w':=w.setCell ⟨oi.b,0,none⟩ (.pointer (some ⟨oi.b,0,none⟩))) hg (fun i=>by cases i<;>simp) (by decide) (by decide) rfl (.inr o1) (fun u oi' hu=>xy (o':= .cells [.fp, .nil]) hg rfl hu) trivial
   (fun _=> .inr ⟨_,rfl,zf o1 (by simp [qh])⟩) rfl rfl rfl (by simp [World.setCell]) (fun b _ hb=>qqe _ fun e=>hb _ rfl (by rw [zf o1 (by simp [qh]),e]))
   (fun _=>⟨_,189,fr,setCell_at _ p1,fun q hq=>p2 q (by simpa using hq),⟨by simp [qX,hs],fun j u hj=>by
    match j,hj with
    | 0,hj=>simp [qX] at hj;subst hj;exact ⟨_,by simp [hs],rfl, .pt 0 0 oi o1⟩
    | 1,hj=>simp [qX] at hj;subst hj;exact ⟨z,by simpa using z1,z2,z3⟩
    | j+2,hj=>simp [qX] at hj⟩,rfl⟩) (fun o ho=>by
    simp only [List.getElem?_cons_zero,Option.some.injEq] at ho;subst ho;exact ⟨_,rfl,rfl,o1⟩)
  exact ⟨_,_,k1,k2 _,_,h, .tu [] #[] rfl (by simp)⟩
end Go.Proofs.YtbglndogddddoaaGreatDoor
namespace Go.Proofs.YtbglndogddddoaaGreatDoor
open Go.RowKit
attribute [local irreducible] qJ qd
def H210f:List (Nat×Hint):=[]
def J210f:List (Nat×Hint):=[]
abbrev Km:List Sh:=[.pt 0 0, .leaf]
abbrev Za:List Lf:=[.str]
abbrev O210f:List ObSh:=[.cells [.fp, .nil]]
def F210f (g:prodL Za) (K:Kn):Prop:=
 ql ((zx g.1).length) 1 (
 K (.tu [.int .i64 (g.1.size:Int), .cst .nilIface]) [some (.cells [.pt 0 0, .oa .u8 1 0]),some (.arr 0 .u8 (zx g.1))])
theorem F210f_eq (g:prodL Za) (K X:Kn):F210f g K=qJ D (qk [(229,vm)] []) (qx [(229,vm)]) H210f J210f 19 [.tmp 4, .tmp 5] (qz Tryz.f210) (argsT Km Za g) (qg Km O210f Za g) (settleD (qg Km O210f Za g).length 0 K) X 0:=by kernel_rfl
theorem F210f_ok (g:prodL Za) (K X:Kn) (h:F210f g K):FCalls Tryz.prog 210 (argsT Km Za g) (qg Km O210f Za g) K X 0:=
 FCalls.settleD (qq (Γ:=qk [(229,vm)] []) (mu:=qx [(229,vm)]) (H:=H210f) (J:=J210f) qY (qV (rs:=[(229,vm)]) (l:=[]) (by intro p hp;simp only [List.mem_cons,List.not_mem_nil,or_false] at hp;subst hp;exact Y9) (fun p hp=>by cases hp)) qj rfl Tryz.func210 (c:=qz Tryz.f210) rfl Tryz.ntmps210 (rs:=[.tmp 4, .tmp 5]) Tryz.results210 (by unfold qv;rw [Tryz.func210];kernel_rfl) (Nat.le_of_ble_eq_true (by kernel_rfl)) (X:=X) (c0:=0) (Eq.mp (F210f_eq g K X) h))
def JU:Raw:=⟨Km,O210f,Za,0,fun g K _=>F210f g K⟩
theorem rw210f_ok:JU.Ok Tryz.prog 210:=fun g K X h=>F210f_ok g K X h
def H211f:List (Nat×Hint):=[]
def J211f:List (Nat×Hint):=[]
abbrev Y2:List Sh:=[.pt 0 0, .leaf]
abbrev ZO:List Lf:=[.int .u8]
abbrev O211f:List ObSh:=[.cells [.fp, .nil]]
def F211f (g:prodL ZO) (K:Kn):Prop:=
 ql ([g.1].length) 1 (
 K (.cst .nilIface) [some (.cells [.pt 0 0, .oa .u8 1 0]),some (.arr 0 .u8 [g.1])])
theorem F211f_eq (g:prodL ZO) (K X:Kn):F211f g K=qJ D (qk [(229,vm)] []) (qx [(229,vm)]) H211f J211f 17 [.tmp 4] (qz Tryz.f211) (argsT Y2 ZO g) (qg Y2 O211f ZO g) (settleD (qg Y2 O211f ZO g).length 0 K) X 0:=by kernel_rfl
theorem F211f_ok (g:prodL ZO) (K X:Kn) (h:F211f g K):FCalls Tryz.prog 211 (argsT Y2 ZO g) (qg Y2 O211f ZO g) K X 0:=
 FCalls.settleD (qq (Γ:=qk [(229,vm)] []) (mu:=qx [(229,vm)]) (H:=H211f) (J:=J211f) qY (qV (rs:=[(229,vm)]) (l:=[]) (by intro p hp;simp only [List.mem_cons,List.not_mem_nil,or_false] at hp;subst hp;exact Y9) (fun p hp=>by cases hp)) qj rfl Tryz.func211 (c:=qz Tryz.f211) rfl Tryz.ntmps211 (rs:=[.tmp 4]) Tryz.results211 (by unfold qv;rw [Tryz.func211];kernel_rfl) (Nat.le_of_ble_eq_true (by kernel_rfl)) (X:=X) (c0:=0) (Eq.mp (F211f_eq g K X) h))
def J2:Raw:=⟨Y2,O211f,ZO,0,fun g K _=>F211f g K⟩
theorem rw211f_ok:J2.Ok Tryz.prog 211:=fun g K X h=>F211f_ok g K X h
end Go.Proofs.YtbglndogddddoaaGreatDoor
namespace Go.Proofs.YtbglndogddddoaaGreatDoor
open Go.RowKit
attribute [local irreducible] qJ qd
def H171f:List (Nat×Hint):=[(7,⟨[((0,[1]),none)],[(0, .pt 0 0),(24, .leaf),(25, .leaf),(26, .leaf)],[.cells [.pt 0 0, .oa .u8 1], .arr .u8],[.sl .sexp, .int .i64, .int .i64, .sl .u8]⟩)]
def J171f:List (Nat×Hint):=[]
abbrev Y6:List Sh:=[.pt 0 0, .ag [.leaf, .leaf, .leaf]]
abbrev ZS:List Lf:=[.bool, .str, .sl .sexp]
abbrev O171f:List ObSh:=[.cells [.fp, .nil]]
def Ww (K:Kn) (W6:prodL [.sl .sexp, .int .i64, .int .i64, .sl .u8]->Prop) (t_5:List Sx) (t2_5 t3_5:Int) (w_5:List Int):Prop:=
 bif decide (t3_5<t2_5)then (
  At t_5 t3_5 fun u7=>
 encPre (u7.isList,u7.atom,u7.list,w_5,())/\
 W6 (t_5,t2_5,IntKind.i64.wrap (t3_5+1),(w_5++xW ⟨u7.isList,u7.atom,u7.list⟩),()))
 else (
  let g8:prodL [.int .u8, .sl .u8]:=(41,w_5,());
 ql (g8.2.1.length+[g8.1].length) 1 (
 K (.tu []) [some (.cells [.pt 0 0, .oa .u8 1 0]),some (.arr 0 .u8 (g8.2.1++[g8.1]))]))
def F171f_L6 (K:Kn) (g:prodL [.sl .sexp, .int .i64, .int .i64, .sl .u8]):Prop:=
 qQ (γ:=prodL [.sl .sexp, .int .i64, .int .i64, .sl .u8]) (fun V y=>Ww K V y.1 y.2.1 y.2.2.1 y.2.2.2.1) g
def F171f (g:prodL ZS) (K:Kn):Prop:=
 bif !g.1 then (
  w8.pre ((g.2.1.size:Int),())/\
  let g1:prodL [.str]:=((zS (g.2.1.size:Int)),());
  ql ((zx g1.1).length) 1 (
  let g2:prodL [.int .u8, .sl .u8]:=(58,zx g1.1,());
  ql (g2.2.1.length+[g2.1].length) 1 (
  let g3:prodL [.str, .sl .u8]:=(g.2.1,g2.2.1++[g2.1],());
  ql (g3.2.1.length+(zx g3.1).length) 1 (
  K (.tu []) [some (.cells [.pt 0 0, .oa .u8 1 0]),some (.arr 0 .u8 (g3.2.1++(zx g3.1)))]))))
 else (
  let g4:prodL [.int .u8]:=(40,());
 ql ([g4.1].length) 1 (
 F171f_L6 K (g.2.2.1,(g.2.2.1.length:Int),0,[g4.1],())))
theorem F171f_eq (g:prodL ZS) (K X:Kn):F171f g K=qJ D (qk [(171,Kv),(210,yR),(210,JU),(211,y8),(211,J2)] [(209,true,w8)]) (qx [(171,Kv),(210,yR),(210,JU),(211,y8),(211,J2)]) H171f J171f 36 [] (qz Tryz.f171) (argsT Y6 ZS g) (qg Y6 O171f ZS g) (settleD (qg Y6 O171f ZS g).length 0 K) X 0:=by kernel_rfl
theorem F171f_ok (g:prodL ZS) (K X:Kn) (h:F171f g K):FCalls Tryz.prog 171 (argsT Y6 ZS g) (qg Y6 O171f ZS g) K X 0:=
 FCalls.settleD (qq (Γ:=qk [(171,Kv),(210,yR),(210,JU),(211,y8),(211,J2)] [(209,true,w8)]) (mu:=qx [(171,Kv),(210,yR),(210,JU),(211,y8),(211,J2)]) (H:=H171f) (J:=J171f) qY (qV (rs:=[(171,Kv),(210,yR),(210,JU),(211,y8),(211,J2)]) (l:=[(209,true,w8)]) (by intro p hp;simp only [List.mem_cons,List.not_mem_nil,or_false] at hp;rcases hp with rfl | rfl | rfl | rfl | rfl<;>first | exact rw171_ok | exact rw210_ok | exact rw210f_ok | exact rw211_ok | exact rw211f_ok) (by intro p hp;simp only [List.mem_cons,List.not_mem_nil,or_false] at hp;subst hp;exact WH)) qj rfl Tryz.func171 (c:=qz Tryz.f171) rfl Tryz.ntmps171 (rs:=[]) Tryz.results171 (by unfold qv;rw [Tryz.func171];kernel_rfl) (Nat.le_of_ble_eq_true (by kernel_rfl)) (X:=X) (c0:=0) (Eq.mp (F171f_eq g K X) h))
end Go.Proofs.YtbglndogddddoaaGreatDoor
namespace Go.Proofs.YtbglndogddddoaaGreatDoor
open Go.RowKit
def encPf (g:prodL [.bool, .str, .sl .sexp]):Prop:=encP ⟨g.1,g.2.1,g.2.2.1⟩ []
theorem F171f_is {b:Bool} {a:ByteArray} {l:List Sx} {K:Kn} (hp:encP ⟨b,a,l⟩ []) (h:K (.tu []) [some (.cells [.pt 0 0, .oa .u8 1 0]),some (.arr 0 .u8 (xW ⟨b,a,l⟩))]):F171f (b,a,l,()) K:=by
 obtain ⟨hk,hz⟩:=hp
 obtain ⟨hs,hsz,hbl,_⟩:=vB hk
 have hl:=Q3
 unfold F171f
 simp only [xo,List.length_nil] at hz
 dsimp only [Lf.ty,prodL] at h ⊢
 cases b
 . rw [Ju] at h
   have hn:jj (a.size:Int):=(⟨by omega,by omega⟩: -9223372036854775808<=(a.size:Int)/\(a.size:Int)<=9223372036854775807)
   have hd:=wM hn
   simp only [Bool.not_false,cond_true]
   refine ⟨hn, ?_, ?_, ?_, ?_⟩
   . rw [xJ];omega
   . simp only [xJ,List.length_cons,List.length_nil];omega
   . simp only [List.length_append,xJ,List.length_cons,List.length_nil];omega
   . rw [show ((zx (zS (a.size:Int)))++[58])++zx a=(zx (zS (a.size:Int))++(58::zx a))by simp]
     exact h
 . rw [JT] at h
   simp only [Bool.not_true,cond_false]
   refine ⟨by simp only [List.length_cons,List.length_nil];omega, ?_⟩
   unfold F171f_L6
   refine qQ.fold l (fun n (cs:List Int)=>(l,(l.length:Int),(n:Int),cs,())) (fun r _ cs=>K (.tu []) [some (.cells [.pt 0 0, .oa .u8 1 0]),some (.arr 0 .u8 (cs++(Qk r++[41])))]/\cs.length+22*zl r<=70368744177664) (a0:=[40]) rfl ⟨?_,by simp only [List.length_cons,List.length_nil];omega⟩ (fun cs hp W=> ?_) (fun n hn r cs hr hp W hW=> ?_)
   . exact h
   . obtain ⟨p1,p2⟩:=hp
     unfold Ww
     rw [qu,if_neg (by dsimp only;omega)]
     simp only [zl] at p2
     exact ⟨by simp only [List.length_cons,List.length_nil];omega,p1⟩
   . obtain ⟨p1,p2⟩:=hp
     unfold Ww
     rw [qu,if_pos (by dsimp only;omega)]
     have hx:xo l[n]<=zl l:=WA (List.getElem_mem hn)
     have he:=encI_len (x:=l[n]) (by omega)
     simp only [zl] at p2
     refine qE hn ⟨(by show encP ⟨l[n].isList,l[n].atom,l[n].list⟩ cs;rw [Sx.eta];exact ⟨by omega,by omega⟩), ?_⟩
     rw [Sx.eta,zJ hn hs]
     refine hW (cs++xW l[n]) ⟨?_, ?_⟩
     . have e:Qk (l[n]::r)=xW l[n]++Qk r:=by unfold Qk xW;simp [kZ]
       rw [e] at p1
       rw [List.append_assoc, <- List.append_assoc (xW l[n])]
       exact p1
     . rw [List.length_append];omega
def Jm:Raw:=⟨Y6,O171f,ZS,0,fun g K _=>encPf g/\K (.tu []) [some (.cells [.pt 0 0, .oa .u8 1 0]),some (.arr 0 .u8 (xW ⟨g.1,g.2.1,g.2.2.1⟩))]⟩
theorem rw171f_ok:Jm.Ok Tryz.prog 171:=fun g K X h=>F171f_ok g K X (F171f_is h.1 h.2)
end Go.Proofs.YtbglndogddddoaaGreatDoor
namespace Go.Proofs.YtbglndogddddoaaGreatDoor
open Go.RowKit
set_option maxHeartbeats 1000000 in
set_option maxRecDepth 100000 in
theorem string39 (b g cap:Nat) (cur:Array Value) (fr:Nat×Nat) (l:List UInt8) (w:World) (c0:w.cell? ⟨b,1,none⟩=some (.slice (some ⟨g,0,none⟩) l.length cap)) (hg:w.heap[g]? =some (.cells cur 5 fr)) (hl0:l.length≠0) (hnc:l.length<=cap) (hcm:cap<=maxLen) (hcs:cap<=cur.size)
  (hat: ∀(j:Nat) (x:UInt8),l[j]? =some x->cur[j]? =some (Value.int .u8 x.toNat)):
  Calls Tryz.prog 172 #[.pointer (some ⟨b,0,none⟩)] w fun e w'=>e= .returned (.string ⟨l.toArray⟩)/\w'=w.drew.freeze ⟨g,0,none⟩ l.length:=by
 have c1:w.drew.cell? ⟨b,1,none⟩=some (.slice (some ⟨g,0,none⟩) l.length cap):=c0
 have hg':w.drew.heap[g]? =some (.cells cur 5 fr):=hg
 have hSD:(Builtin.unsafeSliceData_ #[69] 222 #[.slice (some ⟨g,0,none⟩) l.length cap]).run Tryz.prog w.drew= .ok (.pointer (some ⟨g,0,none⟩)) w.drew:=
  Lib.run_unsafeSliceData_row _ _ _ _ _ _ (by omega)
 have hUS:(Builtin.unsafeString_ #[222,3] 9 #[.pointer (some ⟨g,0,none⟩), .int .i64 l.length]).run Tryz.prog w.drew= .ok (.string ⟨l.toArray⟩) (w.drew.freeze ⟨g,0,none⟩ l.length):=by
  refine Lib.run_unsafeString_row w.drew 222 3 9 5 Tryz.underlying222 (by kernel_rfl) g cur.size (by simp [World.shape?,hg']) l (fun e=>hl0 (by rw [e];rfl)) (by omega) (by unfold maxLen at hcm;omega) ?_
  intro j x hx
  have:=hat j x hx
  unfold Addr.add
  by_cases hj:j=0
  . subst hj;simp [World.cell?,hg',this]
  . simp [hj,World.cell?,hg',this]
 go_enter Tryz.func172,Tryz.ntmps172
 go_wp2
 go_region
 all_goals (go_wp2;go_ret;exact ⟨rfl,rfl⟩)
end Go.Proofs.YtbglndogddddoaaGreatDoor
namespace Go.Proofs.YtbglndogddddoaaGreatDoor
open Go.RowKit
theorem freeze_else {w:World} {a:Addr} {n b:Nat} (h:b≠a.block):(w.freeze a n).heap[b]? =w.heap[b]? :=by
 unfold World.freeze
 split
 . rfl
 . simp [Array.getElem?_modify,Ne.symm h]
theorem freeze_size {w:World} {a:Addr} {n:Nat}:(w.freeze a n).heap.size=w.heap.size:=by
 unfold World.freeze
 split
 . rfl
 . simp
theorem freeze_os {w:World} {a:Addr} {n:Nat}:(w.freeze a n).os=w.os:=by
 unfold World.freeze;split<;>rfl
theorem freeze_tape {w:World} {a:Addr} {n:Nat}:(w.freeze a n).tape=w.tape:=by
 unfold World.freeze;split<;>rfl
theorem freeze_out {w:World} {a:Addr} {n:Nat}:(w.freeze a n).output=w.output:=by
 unfold World.freeze;split<;>rfl
theorem u8_back {n:Int} (h1:0<=n) (h2:n<256):n=((UInt8.ofNat n.toNat).toNat:Int):=by
 rw [UInt8.toNat_ofNat',Nat.mod_eq_of_lt (by omega)]
 omega
def strPre (g:prodL [.sl .u8]):Prop:=g.1≠[]/\ ∀n∈g.1,0<=n/\n<256
def YS:Raw:=⟨[.pt 0 0],bdrO,[.sl .u8],0,fun g K _=>strPre g/\K (.str (zb g.1)) [some (.cells [.pt 0 0, .oa .u8 1 0]),some (.arr 1 .u8 [])]⟩
theorem rw172_ok:YS.Ok Tryz.prog 172:=by
 rintro ⟨l,⟨⟩⟩ K X h g w hg
 obtain ⟨⟨hne,hb⟩,h⟩:=h
 have hne:l≠[]:=hne
 have hb: ∀n∈l,0<=n/\n<256:=hb
 have h:K (.str (zb l)) [some (.cells [.pt 0 0, .oa .u8 1 0]),some (.arr 1 .u8 [])]:=h
 have hg:Good g [some (.cells [.pt 0 0, .oa .u8 1 0]),some (.arr 0 .u8 l)] w:=hg
 refine ke.of (by kernel_rfl) fun args hr=> ?_
 obtain ⟨x,rfl,hx⟩:=qqD hr
 obtain ⟨oi,o1,_,o3⟩:=hg.obj 0 _ rfl
 obtain ⟨oa,a1,a2,a3,a4,a5⟩:=hg.arr (k:=1) (ver:=0) (e:= .u8) (l:=l) rfl
 have o1:g.ob 0 0=some oi:=o1
 have hx:R g (.pt 0 0) x:=hx
 have hl0:0<l.length:=List.length_pos_iff.2 hne
 obtain ⟨_,cur,E,fr,q1,q2,q3,q4,q5⟩:=a5 (by omega)
 have q5:(E==5)=true:=q5
 obtain rfl:E=5:=by simpa using q5
 cases hx with
 | pt _ _ oi' h1=>
  rw [o1] at h1
  simp only [Option.some.injEq] at h1
  subst h1
  rcases o3 with o3 | ⟨_,blk,E,fr',p1,_,p3,_⟩
  . cases o3.1
  have p1:w.heap[oi.b]? =some (.cells blk E fr'):=p1
  obtain ⟨z,z1,_,z3⟩:=p3.at_ 1 _ rfl
  have z3:R g (.oa .u8 1 0) z:=z3
  have hz:z= .slice (some ⟨oa.b,0,none⟩) l.length oa.cap:=by
   cases z3 with
   | oa _ _ _ oi'' A r1 r2 r3 r4=>
    rw [a1] at r1
    simp only [Option.some.injEq] at r1
    subst r1
    rw [r2 (by omega),a2]
  subst hz
  have hlen:(l.map fun n=>UInt8.ofNat n.toNat).length=l.length:=List.length_map ..
  refine (string39 oi.b oa.b oa.cap cur fr (l.map fun n=>UInt8.ofNat n.toNat) w (by rw [hlen];simp [World.cell?,p1,z1]) q1 (by rw [hlen];omega) (by rw [hlen];omega) a4 (by rw [show sz .u8=1 from rfl,Nat.mul_one] at q4;exact q4) (fun j x hx=> ?_)).mono ?_
  . simp only [List.getElem?_map,Option.map_eq_some_iff] at hx
    obtain ⟨n,hn,rfl⟩:=hx
    obtain ⟨y,y1,_,y3⟩:=q3.at_ j (.int .u8 n) (by
     have:=xA (e:= .u8) (j:=0) hn (by decide)
     simpa [sz,enc] using this)
    cases y3
    obtain ⟨b1,b2⟩:=hb n (List.mem_of_getElem? hn)
    rw [y1]
    exact congrArg (fun m=>some (Value.int .u8 m)) (u8_back b1 b2)
  . rintro e w' ⟨rfl,rfl⟩
    have hnew:g.ob 1 1=none:=by
     cases hh:g.ob 1 1 with
     | none=>rfl
     | some oi=>have:=xy (o':= .arr 0 .u8 l) hg rfl hh;simp [obVer] at this
    obtain ⟨k1,k2,k3⟩:=qP (st':=[some (.cells [.pt 0 0, .oa .u8 1 0]),some (.arr 1 .u8 [])]) (k:=1) (v:=1) (o':= .arr 1 .u8 []) (oi:=⟨0,0,0⟩) (w':=w.drew.freeze ⟨oa.b,0,none⟩ (l.map fun n=>UInt8.ofNat n.toNat).length) hg (fun i=>by rcases i with _ | _ | i<;>simp) (Nat.le_of_ble_eq_true rfl) (Nat.le_of_ble_eq_true rfl) rfl (.inl hnew)
     (fun u oi' hu=>by have:=xy (o':= .arr 0 .u8 l) hg rfl hu;simp [obVer] at this;omega) ⟨rfl,Nat.le_refl _,Nat.zero_le _⟩ (fun h=>absurd ⟨rfl,rfl⟩ h) freeze_os freeze_tape freeze_out (by rw [freeze_size];exact Nat.le_refl _)
     (fun b _ hb=>freeze_else fun e=>hb (.arr 0 .u8 l) rfl (by rw [zf a1 (by simp [qh];omega)];exact congrArg some e.symm)) (fun h=>absurd ⟨rfl,rfl⟩ h) (fun o ho=>by
      simp only [List.getElem?_cons_succ,List.getElem?_cons_zero,Option.some.injEq] at ho;subst ho;exact ⟨_,_,rfl⟩)
    exact ⟨_,_,k1,k2 _,_,h, .str _⟩
end Go.Proofs.YtbglndogddddoaaGreatDoor
namespace Go.Proofs.YtbglndogddddoaaGreatDoor
open Go.RowKit
attribute [local irreducible] qJ qd
def H122:List (Nat×Hint):=[]
def J122:List (Nat×Hint):=[]
abbrev S122:List Sh:=[.ag [.leaf, .leaf, .leaf]]
abbrev L122:List Lf:=[.bool, .str, .sl .sexp]
def F122 (g:prodL L122) (K:Kn):Prop:=
 sp151.pre (g.1,g.2.1,g.2.2.1,())/\
 bif !decide (ckG ⟨g.1,g.2.1,g.2.2.1⟩=0)then (
  K (.tu [.str (⟨#[]⟩:ByteArray), .int .i64 (ckG ⟨g.1,g.2.1,g.2.2.1⟩)]) [])
 else (
  encPf (g.1,g.2.1,g.2.2.1,())/\
 strPre ((xW ⟨g.1,g.2.1,g.2.2.1⟩),())/\
 K (.tu [.str (zb (xW ⟨g.1,g.2.1,g.2.2.1⟩)), .int .i64 0]) [])
theorem F122_eq (g:prodL L122) (K X:Kn):F122 g K=qJ D (qk [(171,Jm),(172,YS)] [(151,true,sp151)]) (qx [(171,Jm),(172,YS)]) H122 J122 14 [.tmp 2, .tmp 3] (qz Tryz.f122) (argsT S122 L122 g) [] (settle0 K) X:=by kernel_rfl
theorem F122_ok (g:prodL L122) (K X:Kn) (h:F122 g K):FCalls Tryz.prog 122 (argsT S122 L122 g) [] K X:=
 FCalls.settle0 (qq (Γ:=qk [(171,Jm),(172,YS)] [(151,true,sp151)]) (mu:=qx [(171,Jm),(172,YS)]) (H:=H122) (J:=J122) qY (qV (rs:=[(171,Jm),(172,YS)]) (l:=[(151,true,sp151)]) (by intro p hp;simp only [List.mem_cons,List.not_mem_nil,or_false] at hp;rcases hp with rfl | rfl<;>first | exact rw171f_ok | exact rw172_ok) (by intro p hp;simp only [List.mem_cons,List.not_mem_nil,or_false] at hp;subst hp;exact sp151_ok)) qj rfl Tryz.func122 (c:=qz Tryz.f122) rfl Tryz.ntmps122 Tryz.results122 (by unfold qv;rw [Tryz.func122];kernel_rfl) (Nat.le_of_ble_eq_true (by kernel_rfl)) (c0:=0) (Eq.mp (F122_eq g K X) h))
end Go.Proofs.YtbglndogddddoaaGreatDoor
namespace Go.Proofs.YtbglndogddddoaaGreatDoor
open Go.RowKit
theorem bStr_encI (x:Sx):zb (xW x)=yy x:=by
 have h:bl (zb (xW x))=bl (yy x):=by
  rw [qq3]
  unfold zb xW bl
  simp [Function.comp_def]
 exact ByteArray.ext (Array.toList_inj.1 h)
theorem encI_ne (x:Sx):xW x≠[]:=by
 obtain ⟨b,a,l⟩:=x
 cases b
 . rw [Ju];simp
 . rw [JT];simp
theorem encI_byte (x:Sx): ∀n∈xW x,0<=n/\n<256:=by
 intro n hn
 unfold xW at hn
 obtain ⟨b,_,rfl⟩:=List.mem_map.1 hn
 have:=b.toNat_lt
 omega
theorem encode_ok:EncodeOk:=
 ⟨by
  rintro ⟨b,a,l,⟨⟩⟩ K X q1 h
  have h:K (.tu [.str (xi ⟨b,a,l⟩).1, .int .i64 (xi ⟨b,a,l⟩).2]) []:=h
  have q1:xo ⟨b,a,l⟩<=vK:=q1
  refine F122_ok (b,a,l,()) K X ⟨q1, ?_⟩
  unfold xi at h
  dsimp only
  rw [bif_ndec]
  by_cases h0:ckG ⟨b,a,l⟩=0
  . rw [if_pos h0] at h
    rw [if_pos h0]
    refine ⟨⟨q1, ?_⟩,⟨encI_ne _,encI_byte _⟩, ?_⟩
    . have:=Q3;simp only [List.length_nil];omega
    . show K (.tu [.str (zb (xW ⟨b,a,l⟩)), .int .i64 0]) []
      rw [bStr_encI];exact h
  . rw [if_neg h0] at h
    rw [if_neg h0]
    exact h,fun _ _ _=>rfl,fun _=>rfl,fun _ _=>⟨rfl,rfl⟩⟩
end Go.Proofs.YtbglndogddddoaaGreatDoor
namespace Go.Proofs.YtbglndogddddoaaGreatDoor
open Go.RowKit Go.Lib
def xD (d:Dig):List Int:=[d.b0,d.b1,d.b2,d.b3,d.b4,d.b5,d.b6,d.b7,d.b8,d.b9,d.b10,d.b11,d.b12,d.b13,d.b14,d.b15,d.b16,d.b17,d.b18,d.b19,d.b20,d.b21,d.b22,d.b23,d.b24,d.b25,d.b26,d.b27,d.b28,d.b29,d.b30,d.b31]
def XG (d:Dig):ByteArray:=zb (xD d)
def zk (a b:Dig):Bool:=decide (a.b0=b.b0)&&(decide (a.b1=b.b1)&&(decide (a.b2=b.b2)&&(decide (a.b3=b.b3)&&(decide (a.b4=b.b4)&&(decide (a.b5=b.b5)&&(decide (a.b6=b.b6)&&(decide (a.b7=b.b7)&&(decide (a.b8=b.b8)&&(decide (a.b9=b.b9)&&(decide (a.b10=b.b10)&&(decide (a.b11=b.b11)&&(decide (a.b12=b.b12)&&(decide (a.b13=b.b13)&&(decide (a.b14=b.b14)&&(decide (a.b15=b.b15)&&(decide (a.b16=b.b16)&&(decide (a.b17=b.b17)&&(decide (a.b18=b.b18)&&(decide (a.b19=b.b19)&&(decide (a.b20=b.b20)&&(decide (a.b21=b.b21)&&(decide (a.b22=b.b22)&&(decide (a.b23=b.b23)&&(decide (a.b24=b.b24)&&(decide (a.b25=b.b25)&&(decide (a.b26=b.b26)&&(decide (a.b27=b.b27)&&(decide (a.b28=b.b28)&&(decide (a.b29=b.b29)&&(decide (a.b30=b.b30)&&(decide (a.b31=b.b31)&&(true))))))))))))))))))))))))))))))))
def qs (a b:Idn):Bool:=decide (a.patch.b0=b.patch.b0)&&(decide (a.patch.b1=b.patch.b1)&&(decide (a.patch.b2=b.patch.b2)&&(decide (a.patch.b3=b.patch.b3)&&(decide (a.patch.b4=b.patch.b4)&&(decide (a.patch.b5=b.patch.b5)&&(decide (a.patch.b6=b.patch.b6)&&(decide (a.patch.b7=b.patch.b7)&&(decide (a.patch.b8=b.patch.b8)&&(decide (a.patch.b9=b.patch.b9)&&(decide (a.patch.b10=b.patch.b10)&&(decide (a.patch.b11=b.patch.b11)&&(decide (a.patch.b12=b.patch.b12)&&(decide (a.patch.b13=b.patch.b13)&&(decide (a.patch.b14=b.patch.b14)&&(decide (a.patch.b15=b.patch.b15)&&(decide (a.patch.b16=b.patch.b16)&&(decide (a.patch.b17=b.patch.b17)&&(decide (a.patch.b18=b.patch.b18)&&(decide (a.patch.b19=b.patch.b19)&&(decide (a.patch.b20=b.patch.b20)&&(decide (a.patch.b21=b.patch.b21)&&(decide (a.patch.b22=b.patch.b22)&&(decide (a.patch.b23=b.patch.b23)&&(decide (a.patch.b24=b.patch.b24)&&(decide (a.patch.b25=b.patch.b25)&&(decide (a.patch.b26=b.patch.b26)&&(decide (a.patch.b27=b.patch.b27)&&(decide (a.patch.b28=b.patch.b28)&&(decide (a.patch.b29=b.patch.b29)&&(decide (a.patch.b30=b.patch.b30)&&(decide (a.patch.b31=b.patch.b31)&&(decide (a.n=b.n)&&(true)))))))))))))))))))))))))))))))))
def dz:Dig:=⟨0,0,0,0,0,0,0,0,0,0,0,0,0,0,0,0,0,0,0,0,0,0,0,0,0,0,0,0,0,0,0,0⟩
def iz:Idn:=⟨dz,0⟩
def Qg (x:Idn):Bool:=zk x.patch dz
def bs (l:List Int):List UInt8:=l.map fun n=>UInt8.ofNat n.toNat
def zG (a b:Dig):Int:=compareBytes (bs (xD a)) (bs (xD b))
def cmpI:List Int->List Int->Int
 | a::l,b::m=>bif decide (a<b)then -1 else bif decide (b<a)then 1 else cmpI l m
 | _,_=>0
def ju (a b:Dig):Int:=cmpI (xD a) (xD b)
def Qr (a b:Int):Int:=bif decide (a<b)then -1 else bif decide (b<a)then 1 else 0
def idC (a b:Idn):Int:=bif !decide (zG a.patch b.patch=0)then zG a.patch b.patch else Qr a.n b.n
def idI (a b:Idn):Int:=bif !decide (ju a.patch b.patch=0)then ju a.patch b.patch else Qr a.n b.n
def kn (k:Int):Bool:=bif decide (k=5)then true else decide (k=6)
def Xo (k:Int):Int:=bif decide (k=7)then 0 else k
def yt (k:Int) (x:Atm):Bool:=bif decide (x.kind=1)then (bif kn k then decide (x.typ=1)else bif !decide (k=4)then true else bif decide (x.typ=2)then true else decide (x.typ=3))else false
def Kz (f:Idn) (x:Atm):Bool:=bif decide (x.kind=5)then qs x.file f else false
def ZZ (k:Int) (f:Idn) (x:Atm):Bool:=bif decide (Xo k=0)then true else bif decide (x.kind=Xo k)then qs x.file f else false
def wJ:List Int->Int->Int
 | [],_=> -1
 | a::l,n=>bif decide (n=a)then 0 else bif decide (wJ l n<0)then -1 else wJ l n+1
theorem qq1: ∀(l:List Int) (n:Int), -1<=wJ l n
 | [],_=>Int.le_refl _
 | a::l,n=>by
  have:=qq1 l n
  unfold wJ
  cases decide (n=a)
  . cases c:decide (wJ l n<0)
    . have:=of_decide_eq_false c;simp only [cond_false];omega
    . simp
  . simp
def chrB (b:UInt8):Bool:=decide ((97<=b.toNat/\b.toNat<=122)∨(65<=b.toNat/\b.toNat<=90)∨(48<=b.toNat/\b.toNat<=57)∨b.toNat=46∨b.toNat=95∨b.toNat=45)
def restN (s:ByteArray):Bool:=bif !decide (s=(⟨#[]⟩:ByteArray))then (bif decide ((s.size:Int)<=40)then (bif !decide (s=(⟨#[46]⟩:ByteArray))then !decide (s=(⟨#[46,46]⟩:ByteArray))else false)else false)else false
def xk (s:ByteArray):Bool:=s.data.toList.all chrB&&restN s
def QA (s:ByteArray) (a b:Int):Bool:=s.data.toList.all fun x=> !(decide ((x.toNat:Int)=a)||decide ((x.toNat:Int)=b))
def wu (s:ByteArray):Bool:=bif decide ((s.size:Int)<=1000)then QA s 10 0 else false
def kf (l:List ByteArray):Bool:=decide (40<l.length)||decide (3000< (l.map ByteArray.size).sum)
def qD (s:ByteArray):Sx:=⟨false,s,[]⟩
def zy (l:List Sx):Sx:=⟨true,⟨#[]⟩,l⟩
def qW (n:Int):Sx:=(vZ n).1
theorem Wt (a b:Dig):zk a b=decide (a=b):=by
 have:decide (a=b)=decide (xD a=xD b):=by
  rw [decide_eq_decide]
  refine ⟨fun h=>by rw [h],fun h=> ?_⟩
  obtain ⟨a0,a1,a2,a3,a4,a5,a6,a7,a8,a9,a10,a11,a12,a13,a14,a15,a16,a17,a18,a19,a20,a21,a22,a23,a24,a25,a26,a27,a28,a29,a30,a31⟩:=a
  obtain ⟨b0,b1,b2,b3,b4,b5,b6,b7,b8,b9,b10,b11,b12,b13,b14,b15,b16,b17,b18,b19,b20,b21,b22,b23,b24,b25,b26,b27,b28,b29,b30,b31⟩:=b
  simp only [xD,List.cons.injEq,and_true] at h
  simpa only [Dig.mk.injEq] using h
 rw [this]
 simp only [zk,xD,List.cons.injEq,and_true,Bool.and_true,Bool.decide_and]
theorem Z8 (a b:Idn):qs a b=decide (a=b):=by
 obtain ⟨a,n⟩:=a
 obtain ⟨b,m⟩:=b
 have h:qs ⟨a,n⟩ ⟨b,m⟩=(zk a b&&decide (n=m)):=by
  simp only [qs,zk,Bool.and_true,Bool.and_assoc]
 rw [h,Wt, <- Bool.decide_and,decide_eq_decide,Idn.mk.injEq]
theorem qI {α:Type} {K:α->Prop} {c:Bool} {x y:α} {P Q:Prop} (h1:K x->P) (h2:K y->Q) (h:K (bif c then x else y)):bif c then P else Q:=by
 cases c
 . exact h2 h
 . exact h1 h
theorem qQ.count {γ:Type} {body:(γ->Prop)->γ->Prop} (N:Nat) (S:Nat->γ) (P:Nat->Prop) (h: ∀n,n<=N->P n-> ∀W:γ->Prop,(n<N->P (n+1)->W (S (n+1)))->body W (S n)) (h0:P 0):qQ body (S 0):=by
 have key: ∀k n,n+k=N->P n->ZF body (k+1) (S n):=by
  intro k
  induction k with
  | zero=>intro n hn hp;exact h n (by omega) hp _ fun hlt=>by omega
  | succ k ih=>intro n hn hp;exact h n (by omega) hp _ fun hlt hp'=>ih (n+1) (by omega) hp'
 exact ⟨N+1,key N 0 (by omega) h0⟩
theorem qQ.countTo {γ:Type} {body:(γ->Prop)->γ->Prop} {g:γ} (N:Nat) (S:Nat->γ) (P:Nat->Prop) (hg:g=S 0) (h: ∀n,n<=N->P n-> ∀W:γ->Prop,(n<N->P (n+1)->W (S (n+1)))->body W (S n)) (h0:P 0):qQ body g:=by
 rw [hg];exact qQ.count N S P h h0
theorem jh {α:Type} {l:List α} {n:Nat} (h:n<l.length):l.take (n+1)=l.take n++[l[n]]:=by
 simp
theorem qt {n N:Nat} (h:n<N):decide ((n:Int) < (N:Int))=true:=by simp;omega
theorem qm {N:Nat}:decide ((N:Int) < (N:Int))=false:=by simp
end Go.Proofs.YtbglndogddddoaaGreatDoor
namespace Go.Proofs.YtbglndogddddoaaGreatDoor
open Go.RowKit
theorem qQ.all {γ:Type} {body:(γ->Prop)->γ->Prop} {g:γ} (N:Nat) (S:Nat->γ) (p:Nat->Bool) (Q:Bool->Prop) (hQ:Q (decide (∀n,n<N->p n=true))) (hg:g=S 0)
  (step: ∀(W:γ->Prop) (n:Nat),n<N->(p n=true->W (S (n+1)))->(p n=false->Q false)->body W (S n)) (last:Q true-> ∀W:γ->Prop,body W (S N)):qQ body g:=by
 refine qQ.countTo N S (fun n=> ∀i,i<n->p i=true) hg (fun n hn hp W hW=> ?_) fun i hi=>by omega
 by_cases hlt:n<N
 . refine step W n hlt (fun h=>hW hlt fun i hi=> ?_) fun h=> ?_
   . by_cases e:i=n
     . rw [e];exact h
     . exact hp i (by omega)
   . have:decide (∀n,n<N->p n=true)=false:=by
      rw [decide_eq_false_iff_not]
      intro ha
      have:=ha n hlt
      rw [h] at this;cases this
     rwa [this] at hQ
 . have:n=N:=by omega
   subst this
   have:decide (∀i,i<n->p i=true)=true:=by rw [decide_eq_true_eq];exact hp
   rw [this] at hQ
   exact last hQ W
theorem decB_one {n:Nat} (h:n<10):zS (n:Int)=⟨#[UInt8.ofNat (48+n)]⟩:=by
 unfold zS Lib.itoa
 rw [if_neg (by omega),show ((n:Int)).toNat=n by omega,Lib.decDigits_one h]
theorem YT (d:Dig):(XG d).size=32:=rfl
theorem y7 (s:ByteArray):xo (qD s)=s.size+3:=by simp [qD,xo,zl]
theorem wE (l:List Sx):xo (zy l)=zl l+3:=by
 have:(⟨#[]⟩:ByteArray).size=0:=rfl
 simp only [zy,xo,this];omega
theorem itoa_len {n:Int} (h:jj n):(zS n).size<=21:=by
 obtain ⟨h1,h2⟩:=h
 show (Lib.itoa n).toArray.size<=21
 rw [List.size_toArray]
 unfold Lib.itoa
 split
 . have:=kR 19 n.natAbs (by omega)
   simp only [List.length_cons];omega
 . have:=kR 19 n.toNat (by omega)
   omega
theorem Z5 {n:Int} (h:jj n):xo (qW n)<=24:=by
 have:=itoa_len h
 unfold qW vZ
 split
 . simp only [sx0,xo,zl];exact Nat.le_of_ble_eq_true rfl
 . simp only [xo,zl];omega
theorem qQ.map {α β γ:Type} {body:(γ->Prop)->γ->Prop} {g:γ} (l:List α) (f:α->β) (S:Int->List β->γ) (hr:l.length<=4294967296) (hg:g=S 0 [])
  (step: ∀(W:γ->Prop) (n:Nat) (h:n<l.length) (out:List β),out.length=n->W (S (IntKind.i64.wrap ((n:Int)+1)) (out++[f l[n]]))->body W (S n out))
  (last: ∀W:γ->Prop,body W (S l.length (l.map f))):qQ body g:=by
 refine qQ.countTo l.length (fun n=>S n ((l.take n).map f)) (fun _=>True) (by simpa using hg) (fun n hn _ W hW=> ?_) trivial
 by_cases hlt:n<l.length
 . refine step W n hlt _ (by simp;omega) ?_
   have:=hW hlt trivial
   rw [zJ hlt hr]
   rwa [jh hlt,List.map_append] at this
 . have:n=l.length:=by omega
   subst this
   simp only [List.take_length]
   exact last W
def spL (n:Nat):Prop:=n<=4294967295
theorem xQ {α:Type} {a:List α} {n:Nat} (h:n<a.length):a[n]? =some a[n]:=List.getElem?_eq_getElem h
theorem w64 {n:Int} (h:0<=n/\n<=8589934592):IntKind.i64.wrap n=n:=jO (by omega) (by omega)
def sumP (l:List ByteArray):Prop:=(l.map ja).sum<=2097152
theorem sum_take {l:List ByteArray} {n:Nat} (h:n<l.length):((l.take (n+1)).map ByteArray.size).sum=((l.take n).map ByteArray.size).sum+l[n].size:=by
 rw [jh h,List.map_append,List.sum_append];simp
theorem sum_bk: ∀l:List ByteArray,(l.map ja).sum=(l.map ByteArray.size).sum+l.length
 | []=>rfl
 | s::l=>by simp only [List.map_cons,List.sum_cons,List.length_cons,sum_bk l,ja];omega
theorem sum_le {l:List ByteArray} (n:Nat):((l.take n).map ByteArray.size).sum<=(l.map ByteArray.size).sum:=by
 have:=List.take_append_drop n l
 have e:(l.map ByteArray.size).sum=((l.take n).map ByteArray.size).sum+((l.drop n).map ByteArray.size).sum:=by
  rw [<- List.sum_append, <- List.map_append,this]
 omega
theorem dec_allO {α:Type} {a:List α} (q:α->Bool):a.all q=decide (∀n,n<a.length->(a[n]?).all q=true):=by
 rw [Bool.eq_iff_iff,decide_eq_true_eq,List.all_eq_true]
 refine ⟨fun e n h=>by rw [xQ h];exact e _ (List.getElem_mem _),fun e x hx=> ?_⟩
 obtain ⟨n,h,rfl⟩:=List.mem_iff_getElem.1 hx
 have:=e n h
 rwa [xQ h] at this
theorem u8_wf {n:Int} (h:IntKind.u8.min<=n/\n<=IntKind.u8.max):0<=n/\n<=255:=by
 simpa [IntKind.min,IntKind.max,IntKind.signed,IntKind.bits] using h
end Go.Proofs.YtbglndogddddoaaGreatDoor
namespace Go.Proofs.YtbglndogddddoaaGreatDoor
open Go.RowKit
attribute [local irreducible] qJ qd
set_option maxRecDepth 100000
def H47:List (Nat×Hint):=[]
def J47:List (Nat×Hint):=[]
abbrev S47:List Sh:=[.leaf]
abbrev L47:List Lf:=[.el .idk]
def F47 (g:prodL L47) (K:Kn):Prop:=
 K (.bool (zk g.1.patch dz)) []
theorem F47_eq (g:prodL L47) (K X:Kn):F47 g K=qJ D (qk [] []) (qx []) H47 J47 7 [.tmp 2] (qz Tryz.f47) (argsT S47 L47 g) [] (settle0 K) X:=by kernel_rfl
theorem F47_ok (g:prodL L47) (K X:Kn) (h:F47 g K):FCalls Tryz.prog 47 (argsT S47 L47 g) [] K X:=
 FCalls.settle0 (qq qY (jq z8) qj rfl Tryz.func47 (c:=qz Tryz.f47) rfl Tryz.ntmps47 Tryz.results47 (by unfold qv;rw [Tryz.func47];kernel_rfl) (Nat.le_of_ble_eq_true (by kernel_rfl)) (c0:=0) (Eq.mp (F47_eq g K X) h))
def sp47:Sp:=⟨S47,L47,fun _=>True,fun g=> .bool (Qg g.1),fun _=>none⟩
theorem qqn:sp47.Ok Tryz.prog 47 true:=
 ⟨fun g K X hp h=>F47_ok g K X h,fun _ _ _=>rfl,fun _=>rfl,by first | exact fun _ _=>⟨rfl,rfl⟩ | (intro h;cases h)⟩
def H123:List (Nat×Hint):=[]
def J123:List (Nat×Hint):=[]
abbrev S123:List Sh:=[.leaf]
abbrev L123:List Lf:=[.el .dig]
def F123 (g:prodL L123) (K:Kn):Prop:=
 K (.bool (zk g.1 dz)) []
theorem F123_eq (g:prodL L123) (K X:Kn):F123 g K=qJ D (qk [] []) (qx []) H123 J123 6 [.tmp 2] (qz Tryz.f123) (argsT S123 L123 g) [] (settle0 K) X:=by kernel_rfl
theorem F123_ok (g:prodL L123) (K X:Kn) (h:F123 g K):FCalls Tryz.prog 123 (argsT S123 L123 g) [] K X:=
 FCalls.settle0 (qq qY (jq z8) qj rfl Tryz.func123 (c:=qz Tryz.f123) rfl Tryz.ntmps123 Tryz.results123 (by unfold qv;rw [Tryz.func123];kernel_rfl) (Nat.le_of_ble_eq_true (by kernel_rfl)) (c0:=0) (Eq.mp (F123_eq g K X) h))
def QY:Sp:=⟨S123,L123,fun _=>True,fun g=> .bool (zk g.1 dz),fun _=>none⟩
theorem kB:QY.Ok Tryz.prog 123 true:=
 ⟨fun g K X hp h=>F123_ok g K X h,fun _ _ _=>rfl,fun _=>rfl,by first | exact fun _ _=>⟨rfl,rfl⟩ | (intro h;cases h)⟩
def H28:List (Nat×Hint):=[]
def J28:List (Nat×Hint):=[]
abbrev S28:List Sh:=[]
abbrev L28:List Lf:=[]
def F28 (g:prodL L28) (K:Kn):Prop:=
 K (.ag (enc .idk (⟨dz, -1⟩:Idn))) []
theorem F28_eq (g:prodL L28) (K X:Kn):F28 g K=qJ D (qk [] []) (qx []) H28 J28 2 [.cell 0 36] (qz Tryz.f28) (argsT S28 L28 g) [] (settle0 K) X:=by kernel_rfl
theorem F28_ok (g:prodL L28) (K X:Kn) (h:F28 g K):FCalls Tryz.prog 28 (argsT S28 L28 g) [] K X:=
 FCalls.settle0 (qq qY (jq z8) qj rfl Tryz.func28 (c:=qz Tryz.f28) rfl Tryz.ntmps28 Tryz.results28 (by unfold qv;rw [Tryz.func28];kernel_rfl) (Nat.le_of_ble_eq_true (by kernel_rfl)) (c0:=0) (Eq.mp (F28_eq g K X) h))
def sp28:Sp:=⟨S28,L28,fun _=>True,fun g=> .ag (enc .idk (⟨dz, -1⟩:Idn)),fun _=>none⟩
theorem qzz:sp28.Ok Tryz.prog 28 false:=
 ⟨fun g K X hp h=>F28_ok g K X h,fun _ _ _=>rfl,fun _=>rfl,by first | exact fun _ _=>⟨rfl,rfl⟩ | (intro h;cases h)⟩
def H212:List (Nat×Hint):=[]
def J212:List (Nat×Hint):=[]
abbrev S212:List Sh:=[]
abbrev L212:List Lf:=[]
def F212 (g:prodL L212) (K:Kn):Prop:=
 K (.ag (enc .idk iz)) []
theorem F212_eq (g:prodL L212) (K X:Kn):F212 g K=qJ D (qk [] []) (qx []) H212 J212 2 [.cell 0 36] (qz Tryz.f212) (argsT S212 L212 g) [] (settle0 K) X:=by kernel_rfl
theorem F212_ok (g:prodL L212) (K X:Kn) (h:F212 g K):FCalls Tryz.prog 212 (argsT S212 L212 g) [] K X:=
 FCalls.settle0 (qq qY (jq z8) qj rfl Tryz.func212 (c:=qz Tryz.f212) rfl Tryz.ntmps212 Tryz.results212 (by unfold qv;rw [Tryz.func212];kernel_rfl) (Nat.le_of_ble_eq_true (by kernel_rfl)) (c0:=0) (Eq.mp (F212_eq g K X) h))
def Vc:Sp:=⟨S212,L212,fun _=>True,fun g=> .ag (enc .idk iz),fun _=>none⟩
theorem sp212_ok:Vc.Ok Tryz.prog 212 false:=
 ⟨fun g K X hp h=>F212_ok g K X h,fun _ _ _=>rfl,fun _=>rfl,by first | exact fun _ _=>⟨rfl,rfl⟩ | (intro h;cases h)⟩
def H78:List (Nat×Hint):=[]
def J78:List (Nat×Hint):=[]
abbrev S78:List Sh:=[.leaf]
abbrev L78:List Lf:=[.str]
def F78 (g:prodL L78) (K:Kn):Prop:=
 K (.ag [.bool false, .str g.1, .nil]) []
theorem F78_eq (g:prodL L78) (K X:Kn):F78 g K=qJ D (qk [] []) (qx []) H78 J78 5 [.cell 2 85] (qz Tryz.f78) (argsT S78 L78 g) [] (settle0 K) X:=by kernel_rfl
theorem F78_ok (g:prodL L78) (K X:Kn) (h:F78 g K):FCalls Tryz.prog 78 (argsT S78 L78 g) [] K X:=
 FCalls.settle0 (qq qY (jq z8) qj rfl Tryz.func78 (c:=qz Tryz.f78) rfl Tryz.ntmps78 Tryz.results78 (by unfold qv;rw [Tryz.func78];kernel_rfl) (Nat.le_of_ble_eq_true (by kernel_rfl)) (c0:=0) (Eq.mp (F78_eq g K X) h))
def qqE:Sp:=⟨S78,L78,fun _=>True,fun g=> .ag [.bool false, .str g.1, .nil],fun _=>none⟩
theorem Z6:qqE.Ok Tryz.prog 78 false:=
 ⟨fun g K X hp h=>F78_ok g K X h,fun _ _ _=>rfl,fun _=>rfl,by first | exact fun _ _=>⟨rfl,rfl⟩ | (intro h;cases h)⟩
def H119:List (Nat×Hint):=[]
def J119:List (Nat×Hint):=[]
abbrev S119:List Sh:=[.leaf]
abbrev L119:List Lf:=[.str]
def F119 (g:prodL L119) (K:Kn):Prop:=
 K (.ag [.bool false, .str g.1, .nil]) []
theorem F119_eq (g:prodL L119) (K X:Kn):F119 g K=qJ D (qk [] []) (qx []) H119 J119 5 [.cell 2 85] (qz Tryz.f119) (argsT S119 L119 g) [] (settle0 K) X:=by kernel_rfl
theorem F119_ok (g:prodL L119) (K X:Kn) (h:F119 g K):FCalls Tryz.prog 119 (argsT S119 L119 g) [] K X:=
 FCalls.settle0 (qq qY (jq z8) qj rfl Tryz.func119 (c:=qz Tryz.f119) rfl Tryz.ntmps119 Tryz.results119 (by unfold qv;rw [Tryz.func119];kernel_rfl) (Nat.le_of_ble_eq_true (by kernel_rfl)) (c0:=0) (Eq.mp (F119_eq g K X) h))
def yC:Sp:=⟨S119,L119,fun _=>True,fun g=> .ag [.bool false, .str g.1, .nil],fun _=>none⟩
theorem yN:yC.Ok Tryz.prog 119 false:=
 ⟨fun g K X hp h=>F119_ok g K X h,fun _ _ _=>rfl,fun _=>rfl,by first | exact fun _ _=>⟨rfl,rfl⟩ | (intro h;cases h)⟩
def H77:List (Nat×Hint):=[]
def J77:List (Nat×Hint):=[]
abbrev S77:List Sh:=[.leaf]
abbrev L77:List Lf:=[.sl .sexp]
def F77 (g:prodL L77) (K:Kn):Prop:=
 K (.ag [.bool true, .str (⟨#[]⟩:ByteArray), .sl false .sexp g.1]) []
theorem F77_eq (g:prodL L77) (K X:Kn):F77 g K=qJ D (qk [] []) (qx []) H77 J77 5 [.cell 2 85] (qz Tryz.f77) (argsT S77 L77 g) [] (settle0 K) X:=by kernel_rfl
theorem F77_ok (g:prodL L77) (K X:Kn) (h:F77 g K):FCalls Tryz.prog 77 (argsT S77 L77 g) [] K X:=
 FCalls.settle0 (qq qY (jq z8) qj rfl Tryz.func77 (c:=qz Tryz.f77) rfl Tryz.ntmps77 Tryz.results77 (by unfold qv;rw [Tryz.func77];kernel_rfl) (Nat.le_of_ble_eq_true (by kernel_rfl)) (c0:=0) (Eq.mp (F77_eq g K X) h))
def yG:Sp:=⟨S77,L77,fun _=>True,fun g=> .ag [.bool true, .str (⟨#[]⟩:ByteArray), .sl false .sexp g.1],fun _=>none⟩
theorem xg:yG.Ok Tryz.prog 77 false:=
 ⟨fun g K X hp h=>F77_ok g K X h,fun _ _ _=>rfl,fun _=>rfl,by first | exact fun _ _=>⟨rfl,rfl⟩ | (intro h;cases h)⟩
def H118:List (Nat×Hint):=[]
def J118:List (Nat×Hint):=[]
abbrev S118:List Sh:=[.fsl .sexp]
abbrev L118:List Lf:=[.sl .sexp]
abbrev O118:List ObSh:=[]
def F118 (g:prodL L118) (K:Kn):Prop:=
 K (.ag [.bool true, .str (⟨#[]⟩:ByteArray), .sl true .sexp g.1]) []
theorem F118_eq (g:prodL L118) (K X:Kn):F118 g K=qJ D (qk [] []) (qx []) H118 J118 5 [.cell 2 85] (qz Tryz.f118) (argsT S118 L118 g) (qg S118 O118 L118 g) (settle0 K) X 0:=by kernel_rfl
theorem F118_ok (g:prodL L118) (K X:Kn) (h:F118 g K):FCalls Tryz.prog 118 (argsT S118 L118 g) (qg S118 O118 L118 g) K X 0:=
 FCalls.settle0 (qq qY (jq z8) qj rfl Tryz.func118 (c:=qz Tryz.f118) rfl Tryz.ntmps118 Tryz.results118 (by unfold qv;rw [Tryz.func118];kernel_rfl) (Nat.le_of_ble_eq_true (by kernel_rfl)) (c0:=0) (Eq.mp (F118_eq g K X) h))
def kd:Raw:=⟨S118,O118,L118,0,fun g K _=>F118 g K⟩
theorem rw118_ok:kd.Ok Tryz.prog 118:=fun g K X h=>F118_ok g K X h
def H83:List (Nat×Hint):=[]
def J83:List (Nat×Hint):=[]
abbrev S83:List Sh:=[.leaf]
abbrev L83:List Lf:=[.int .i64]
def F83 (g:prodL L83) (K:Kn):Prop:=
 K (.bool (!decide (g.1=g.1))) []
theorem F83_eq (g:prodL L83) (K X:Kn):F83 g K=qJ D (qk [] []) (qx []) H83 J83 6 [.tmp 2] (qz Tryz.f83) (argsT S83 L83 g) [] (settle0 K) X:=by kernel_rfl
theorem F83_ok (g:prodL L83) (K X:Kn) (h:F83 g K):FCalls Tryz.prog 83 (argsT S83 L83 g) [] K X:=
 FCalls.settle0 (qq qY (jq z8) qj rfl Tryz.func83 (c:=qz Tryz.f83) rfl Tryz.ntmps83 Tryz.results83 (by unfold qv;rw [Tryz.func83];kernel_rfl) (Nat.le_of_ble_eq_true (by kernel_rfl)) (c0:=0) (Eq.mp (F83_eq g K X) h))
def sp83:Sp:=⟨S83,L83,fun _=>True,fun g=> .bool (!decide (g.1=g.1)),fun _=>none⟩
theorem sp83_ok:sp83.Ok Tryz.prog 83 false:=
 ⟨fun g K X hp h=>F83_ok g K X h,fun _ _ _=>rfl,fun _=>rfl,by first | exact fun _ _=>⟨rfl,rfl⟩ | (intro h;cases h)⟩
def H180:List (Nat×Hint):=[]
def J180:List (Nat×Hint):=[]
abbrev S180:List Sh:=[.leaf]
abbrev L180:List Lf:=[.int .i64]
def F180 (g:prodL L180) (K:Kn):Prop:=
 bif decide (g.1=5)then (
  K (.bool true) [])
 else (
  K (.bool (decide (g.1=6))) [])
theorem F180_eq (g:prodL L180) (K X:Kn):F180 g K=qJ D (qk [] []) (qx []) H180 J180 9 [.tmp 2] (qz Tryz.f180) (argsT S180 L180 g) [] (settle0 K) X:=by kernel_rfl
theorem F180_ok (g:prodL L180) (K X:Kn) (h:F180 g K):FCalls Tryz.prog 180 (argsT S180 L180 g) [] K X:=
 FCalls.settle0 (qq qY (jq z8) qj rfl Tryz.func180 (c:=qz Tryz.f180) rfl Tryz.ntmps180 Tryz.results180 (by unfold qv;rw [Tryz.func180];kernel_rfl) (Nat.le_of_ble_eq_true (by kernel_rfl)) (c0:=0) (Eq.mp (F180_eq g K X) h))
def sp180:Sp:=⟨S180,L180,fun _=>True,fun g=> .bool (kn g.1),fun _=>none⟩
theorem sp180_ok:sp180.Ok Tryz.prog 180 false:=
 ⟨fun g K X hp h=>F180_ok g K X (by
  have h:K (.bool (kn g.1)) []:=h
  revert h;unfold F180 kn;show (fun v=>K (.bool v) []) _->_
  repeat' (first | exact id | refine qI (K:=fun v=>K (.bool v) []) ?_ ?_ | (intro h;refine ⟨trivial, ?_⟩;revert h))),fun _ _ _=>rfl,fun _=>rfl,by first | exact fun _ _=>⟨rfl,rfl⟩ | (intro h;cases h)⟩
def H216:List (Nat×Hint):=[]
def J216:List (Nat×Hint):=[]
abbrev S216:List Sh:=[.leaf]
abbrev L216:List Lf:=[.int .i64]
def F216 (g:prodL L216) (K:Kn):Prop:=
 bif decide (g.1=7)then (
  K (.int .i64 0) [])
 else (
  K (.int .i64 g.1) [])
theorem F216_eq (g:prodL L216) (K X:Kn):F216 g K=qJ D (qk [] []) (qx []) H216 J216 6 [.tmp 2] (qz Tryz.f216) (argsT S216 L216 g) [] (settle0 K) X:=by kernel_rfl
theorem F216_ok (g:prodL L216) (K X:Kn) (h:F216 g K):FCalls Tryz.prog 216 (argsT S216 L216 g) [] K X:=
 FCalls.settle0 (qq qY (jq z8) qj rfl Tryz.func216 (c:=qz Tryz.f216) rfl Tryz.ntmps216 Tryz.results216 (by unfold qv;rw [Tryz.func216];kernel_rfl) (Nat.le_of_ble_eq_true (by kernel_rfl)) (c0:=0) (Eq.mp (F216_eq g K X) h))
def sp216:Sp:=⟨S216,L216,fun _=>True,fun g=> .int .i64 (Xo g.1),fun _=>none⟩
theorem sp216_ok:sp216.Ok Tryz.prog 216 false:=
 ⟨fun g K X hp h=>F216_ok g K X (by
  have h:K (.int .i64 (Xo g.1)) []:=h
  revert h;unfold F216 Xo;show (fun v=>K (.int .i64 v) []) _->_
  repeat' (first | exact id | refine qI (K:=fun v=>K (.int .i64 v) []) ?_ ?_ | (intro h;refine ⟨trivial, ?_⟩;revert h))),fun _ _ _=>rfl,fun _=>rfl,by first | exact fun _ _=>⟨rfl,rfl⟩ | (intro h;cases h)⟩
def H181:List (Nat×Hint):=[]
def J181:List (Nat×Hint):=[]
abbrev S181:List Sh:=[.leaf, .leaf]
abbrev L181:List Lf:=[.el .idk, .el .atm]
def F181 (g:prodL L181) (K:Kn):Prop:=
 bif decide (g.2.1.kind=5)then (
  K (.bool (qs g.2.1.file g.1)) [])
 else (
  K (.bool false) [])
theorem F181_eq (g:prodL L181) (K X:Kn):F181 g K=qJ D (qk [] []) (qx []) H181 J181 14 [.tmp 4] (qz Tryz.f181) (argsT S181 L181 g) [] (settle0 K) X:=by kernel_rfl
theorem F181_ok (g:prodL L181) (K X:Kn) (h:F181 g K):FCalls Tryz.prog 181 (argsT S181 L181 g) [] K X:=
 FCalls.settle0 (qq qY (jq z8) qj rfl Tryz.func181 (c:=qz Tryz.f181) rfl Tryz.ntmps181 Tryz.results181 (by unfold qv;rw [Tryz.func181];kernel_rfl) (Nat.le_of_ble_eq_true (by kernel_rfl)) (c0:=0) (Eq.mp (F181_eq g K X) h))
def sp181:Sp:=⟨S181,L181,fun _=>True,fun g=> .bool (Kz g.1 g.2.1),fun _=>none⟩
theorem sp181_ok:sp181.Ok Tryz.prog 181 true:=
 ⟨fun g K X hp h=>F181_ok g K X (by
  have h:K (.bool (Kz g.1 g.2.1)) []:=h
  revert h;unfold F181 Kz;show (fun v=>K (.bool v) []) _->_
  repeat' (first | exact id | refine qI (K:=fun v=>K (.bool v) []) ?_ ?_ | (intro h;refine ⟨trivial, ?_⟩;revert h))),fun _ _ _=>rfl,fun _=>rfl,by first | exact fun _ _=>⟨rfl,rfl⟩ | (intro h;cases h)⟩
def H41:List (Nat×Hint):=[]
def J41:List (Nat×Hint):=[]
abbrev S41:List Sh:=[.leaf, .leaf]
abbrev L41:List Lf:=[.int .i64, .int .i64]
def F41 (g:prodL L41) (K:Kn):Prop:=
 True/\
 True/\
 bif !decide (g.1=g.1)then (
  bif !decide (g.2.1=g.2.1)then (
   K (.int .i64 0) [])
  else (
   K (.int .i64 (-1)) []))
 else (
  bif !decide (g.2.1=g.2.1)then (
  K (.int .i64 1) [])
 else (
  bif decide (g.1<g.2.1)then (
  K (.int .i64 (-1)) [])
 else (
  bif decide (g.2.1<g.1)then (
  K (.int .i64 1) [])
 else (
  K (.int .i64 0) []))))
theorem F41_eq (g:prodL L41) (K X:Kn):F41 g K=qJ D (qk [] [(83,false,sp83)]) (qx []) H41 J41 20 [.tmp 4] (qz Tryz.f41) (argsT S41 L41 g) [] (settle0 K) X:=by kernel_rfl
theorem F41_ok (g:prodL L41) (K X:Kn) (h:F41 g K):FCalls Tryz.prog 41 (argsT S41 L41 g) [] K X:=
 FCalls.settle0 (qq (Γ:=qk [] [(83,false,sp83)]) (mu:=qx []) (H:=H41) (J:=J41) qY (qV (rs:=[]) (l:=[(83,false,sp83)]) (fun p hp=>by cases hp) (by intro p hp;simp only [List.mem_cons,List.not_mem_nil,or_false] at hp;subst hp;exact sp83_ok)) qj rfl Tryz.func41 (c:=qz Tryz.f41) rfl Tryz.ntmps41 Tryz.results41 (by unfold qv;rw [Tryz.func41];kernel_rfl) (Nat.le_of_ble_eq_true (by kernel_rfl)) (c0:=0) (Eq.mp (F41_eq g K X) h))
def H64:List (Nat×Hint):=[]
def J64:List (Nat×Hint):=[]
abbrev S64:List Sh:=[]
abbrev L64:List Lf:=[]
def F64 (g:prodL L64) (K:Kn):Prop:=
 K (.ag [.int .u32 1779033703, .int .u32 3144134277, .int .u32 1013904242, .int .u32 2773480762, .int .u32 1359893119, .int .u32 2600822924, .int .u32 528734635, .int .u32 1541459225]) []
theorem F64_eq (g:prodL L64) (K X:Kn):F64 g K=qJ D (qk [] []) (qx []) H64 J64 2 [.cell 0 101] (qz Tryz.f64) (argsT S64 L64 g) [] (settle0 K) X:=by kernel_rfl
theorem F64_ok (g:prodL L64) (K X:Kn) (h:F64 g K):FCalls Tryz.prog 64 (argsT S64 L64 g) [] K X:=
 FCalls.settle0 (qq qY (jq z8) qj rfl Tryz.func64 (c:=qz Tryz.f64) rfl Tryz.ntmps64 Tryz.results64 (by unfold qv;rw [Tryz.func64];kernel_rfl) (Nat.le_of_ble_eq_true (by kernel_rfl)) (c0:=0) (Eq.mp (F64_eq g K X) h))
def sp64:Sp:=⟨S64,L64,fun _=>True,fun g=> .ag [.int .u32 1779033703, .int .u32 3144134277, .int .u32 1013904242, .int .u32 2773480762, .int .u32 1359893119, .int .u32 2600822924, .int .u32 528734635, .int .u32 1541459225],fun _=>none⟩
theorem sp64_ok:sp64.Ok Tryz.prog 64 false:=
 ⟨fun g K X hp h=>F64_ok g K X h,fun _ _ _=>rfl,fun _=>rfl,by first | exact fun _ _=>⟨rfl,rfl⟩ | (intro h;cases h)⟩
def H34:List (Nat×Hint):=[(3,⟨[],[(0, .leaf),(3, .leaf),(4, .leaf)],[],[.sl .str, .int .i64, .int .i64]⟩)]
def J34:List (Nat×Hint):=[]
abbrev S34:List Sh:=[.leaf]
abbrev L34:List Lf:=[.sl .str]
def F34_B2 (K:Kn) (W2:prodL [.sl .str, .int .i64, .int .i64]->Prop) (l_1:List ByteArray) (n_1 i_1:Int):Prop:=
 bif decide (i_1< (l_1.length:Int))then (
  At l_1 i_1 fun u3=>
 W2 (l_1,IntKind.i64.wrap (n_1+(u3.size:Int)),IntKind.i64.wrap (i_1+1),()))
 else (
  bif decide (40< (l_1.length:Int))then (
  K (.bool true) [])
 else (
  K (.bool (decide (3000<n_1))) []))
def F34_L2 (K:Kn) (g:prodL [.sl .str, .int .i64, .int .i64]):Prop:=
 qQ (γ:=prodL [.sl .str, .int .i64, .int .i64]) (fun V y=>F34_B2 K V y.1 y.2.1 y.2.2.1) g
def F34 (g:prodL L34) (K:Kn):Prop:=
 F34_L2 K (g.1,0,0,())
theorem F34_eq (g:prodL L34) (K X:Kn):F34 g K=qJ D (qk [] []) (qx []) H34 J34 25 [.tmp 2] (qz Tryz.f34) (argsT S34 L34 g) [] (settle0 K) X:=by kernel_rfl
theorem F34_ok (g:prodL L34) (K X:Kn) (h:F34 g K):FCalls Tryz.prog 34 (argsT S34 L34 g) [] K X:=
 FCalls.settle0 (qq qY (jq z8) qj rfl Tryz.func34 (c:=qz Tryz.f34) rfl Tryz.ntmps34 Tryz.results34 (by unfold qv;rw [Tryz.func34];kernel_rfl) (Nat.le_of_ble_eq_true (by kernel_rfl)) (c0:=0) (Eq.mp (F34_eq g K X) h))
def H71:List (Nat×Hint):=[(2,⟨[],[(0, .leaf),(3, .leaf)],[],[.str, .int .i64]⟩)]
def J71:List (Nat×Hint):=[(6,⟨[],[(0, .leaf),(3, .leaf),(48, .leaf)],[],[.str, .int .i64, .bool]⟩)]
abbrev S71:List Sh:=[.leaf]
abbrev L71:List Lf:=[.str]
def qH (K:Kn) (W2:prodL [.str, .int .i64]->Prop) (s_4:ByteArray) (i_4:Int) (t_4:Bool):Prop:=
 bif t_4 then (
  K (.bool false) [])
 else (
  W2 (s_4,IntKind.i64.wrap (i_4+1),()))
def WD (K:Kn) (W2:prodL [.str, .int .i64]->Prop) (s_1:ByteArray) (i_1:Int):Prop:=
 bif decide (i_1< (s_1.size:Int))then (
  QV s_1 i_1 fun b3=>
 bif decide (97<=b3)then (
  bif decide (b3<=122)then (
   qH K W2 s_1 i_1 false)
  else (
   bif decide (65<=b3)then (
    bif decide (b3<=90)then (
     qH K W2 s_1 i_1 false)
    else (
     bif decide (48<=b3)then (
      bif decide (b3<=57)then (
       qH K W2 s_1 i_1 false)
      else (
       bif decide (b3=46)then (
        qH K W2 s_1 i_1 false)
       else (
        bif decide (b3=95)then (
         qH K W2 s_1 i_1 false)
        else (
         qH K W2 s_1 i_1 (!(decide (b3=45)))))))
     else (
      bif decide (b3=46)then (
       qH K W2 s_1 i_1 false)
      else (
       bif decide (b3=95)then (
        qH K W2 s_1 i_1 false)
       else (
        qH K W2 s_1 i_1 (!(decide (b3=45))))))))
   else (
    bif decide (48<=b3)then (
     bif decide (b3<=57)then (
      qH K W2 s_1 i_1 false)
     else (
      bif decide (b3=46)then (
       qH K W2 s_1 i_1 false)
      else (
       bif decide (b3=95)then (
        qH K W2 s_1 i_1 false)
       else (
        qH K W2 s_1 i_1 (!(decide (b3=45)))))))
    else (
     bif decide (b3=46)then (
      qH K W2 s_1 i_1 false)
     else (
      bif decide (b3=95)then (
       qH K W2 s_1 i_1 false)
      else (
       qH K W2 s_1 i_1 (!(decide (b3=45)))))))))
 else (
  bif decide (65<=b3)then (
   bif decide (b3<=90)then (
    qH K W2 s_1 i_1 false)
   else (
    bif decide (48<=b3)then (
     bif decide (b3<=57)then (
      qH K W2 s_1 i_1 false)
     else (
      bif decide (b3=46)then (
       qH K W2 s_1 i_1 false)
      else (
       bif decide (b3=95)then (
        qH K W2 s_1 i_1 false)
       else (
        qH K W2 s_1 i_1 (!(decide (b3=45)))))))
    else (
     bif decide (b3=46)then (
      qH K W2 s_1 i_1 false)
     else (
      bif decide (b3=95)then (
       qH K W2 s_1 i_1 false)
      else (
       qH K W2 s_1 i_1 (!(decide (b3=45))))))))
  else (
   bif decide (48<=b3)then (
    bif decide (b3<=57)then (
     qH K W2 s_1 i_1 false)
    else (
     bif decide (b3=46)then (
      qH K W2 s_1 i_1 false)
     else (
      bif decide (b3=95)then (
       qH K W2 s_1 i_1 false)
      else (
       qH K W2 s_1 i_1 (!(decide (b3=45)))))))
   else (
    bif decide (b3=46)then (
     qH K W2 s_1 i_1 false)
    else (
     bif decide (b3=95)then (
      qH K W2 s_1 i_1 false)
     else (
      qH K W2 s_1 i_1 (!(decide (b3=45)))))))))
 else (
  bif decide (1<=(s_1.size:Int))then (
  bif decide ((s_1.size:Int)<=40)then (
   bif !decide (s_1=(⟨#[46]⟩:ByteArray))then (
    K (.bool (!decide (s_1=(⟨#[46,46]⟩:ByteArray)))) [])
   else (
    K (.bool false) []))
  else (
   K (.bool false) []))
 else (
  K (.bool false) []))
def F71_L2 (K:Kn) (g:prodL [.str, .int .i64]):Prop:=
 qQ (γ:=prodL [.str, .int .i64]) (fun V y=>WD K V y.1 y.2.1) g
def F71 (g:prodL L71) (K:Kn):Prop:=
 F71_L2 K (g.1,0,())
theorem F71_eq (g:prodL L71) (K X:Kn):F71 g K=qJ D (qk [] []) (qx []) H71 J71 65 [.tmp 2] (qz Tryz.f71) (argsT S71 L71 g) [] (settle0 K) X:=by kernel_rfl
theorem F71_ok (g:prodL L71) (K X:Kn) (h:F71 g K):FCalls Tryz.prog 71 (argsT S71 L71 g) [] K X:=
 FCalls.settle0 (qq qY (jq z8) qj rfl Tryz.func71 (c:=qz Tryz.f71) rfl Tryz.ntmps71 Tryz.results71 (by unfold qv;rw [Tryz.func71];kernel_rfl) (Nat.le_of_ble_eq_true (by kernel_rfl)) (c0:=0) (Eq.mp (F71_eq g K X) h))
def H115:List (Nat×Hint):=[(2,⟨[],[(0, .leaf),(6, .leaf),(7, .leaf)],[],[.str, .int .i64, .int .i64]⟩)]
def J115:List (Nat×Hint):=[(6,⟨[],[(0, .leaf),(6, .leaf),(7, .leaf),(46, .leaf)],[],[.str, .int .i64, .int .i64, .bool]⟩)]
abbrev S115:List Sh:=[.leaf]
abbrev L115:List Lf:=[.str]
def qo (K:Kn) (W2:prodL [.str, .int .i64, .int .i64]->Prop) (s_4:ByteArray) (t_4 t2_4:Int) (t3_4:Bool):Prop:=
 bif t3_4 then (
  K (.bool false) [])
 else (
  W2 (s_4,t_4,IntKind.i64.wrap (t2_4+1),()))
def Zv (K:Kn) (W2:prodL [.str, .int .i64, .int .i64]->Prop) (s_1:ByteArray) (t_1 t2_1:Int):Prop:=
 bif decide (t2_1<t_1)then (
  QV s_1 t2_1 fun b3=>
 bif decide (b3<97)then (
  bif decide (b3<65)then (
   bif decide (b3<48)then (
    bif !decide (b3=46)then (
     bif !decide (b3=95)then (
      qo K W2 s_1 t_1 t2_1 (!decide (b3=45)))
     else (
      qo K W2 s_1 t_1 t2_1 false))
    else (
     qo K W2 s_1 t_1 t2_1 false))
   else (
    bif decide (57<b3)then (
     bif !decide (b3=46)then (
      bif !decide (b3=95)then (
       qo K W2 s_1 t_1 t2_1 (!decide (b3=45)))
      else (
       qo K W2 s_1 t_1 t2_1 false))
     else (
      qo K W2 s_1 t_1 t2_1 false))
    else (
     qo K W2 s_1 t_1 t2_1 false)))
  else (
   bif decide (90<b3)then (
    bif decide (b3<48)then (
     bif !decide (b3=46)then (
      bif !decide (b3=95)then (
       qo K W2 s_1 t_1 t2_1 (!decide (b3=45)))
      else (
       qo K W2 s_1 t_1 t2_1 false))
     else (
      qo K W2 s_1 t_1 t2_1 false))
    else (
     bif decide (57<b3)then (
      bif !decide (b3=46)then (
       bif !decide (b3=95)then (
        qo K W2 s_1 t_1 t2_1 (!decide (b3=45)))
       else (
        qo K W2 s_1 t_1 t2_1 false))
      else (
       qo K W2 s_1 t_1 t2_1 false))
     else (
      qo K W2 s_1 t_1 t2_1 false)))
   else (
    qo K W2 s_1 t_1 t2_1 false)))
 else (
  bif decide (122<b3)then (
   bif decide (b3<65)then (
    bif decide (b3<48)then (
     bif !decide (b3=46)then (
      bif !decide (b3=95)then (
       qo K W2 s_1 t_1 t2_1 (!decide (b3=45)))
      else (
       qo K W2 s_1 t_1 t2_1 false))
     else (
      qo K W2 s_1 t_1 t2_1 false))
    else (
     bif decide (57<b3)then (
      bif !decide (b3=46)then (
       bif !decide (b3=95)then (
        qo K W2 s_1 t_1 t2_1 (!decide (b3=45)))
       else (
        qo K W2 s_1 t_1 t2_1 false))
      else (
       qo K W2 s_1 t_1 t2_1 false))
     else (
      qo K W2 s_1 t_1 t2_1 false)))
   else (
    bif decide (90<b3)then (
     bif decide (b3<48)then (
      bif !decide (b3=46)then (
       bif !decide (b3=95)then (
        qo K W2 s_1 t_1 t2_1 (!decide (b3=45)))
       else (
        qo K W2 s_1 t_1 t2_1 false))
      else (
       qo K W2 s_1 t_1 t2_1 false))
     else (
      bif decide (57<b3)then (
       bif !decide (b3=46)then (
        bif !decide (b3=95)then (
         qo K W2 s_1 t_1 t2_1 (!decide (b3=45)))
        else (
         qo K W2 s_1 t_1 t2_1 false))
       else (
        qo K W2 s_1 t_1 t2_1 false))
      else (
       qo K W2 s_1 t_1 t2_1 false)))
    else (
     qo K W2 s_1 t_1 t2_1 false)))
  else (
   qo K W2 s_1 t_1 t2_1 false)))
 else (
  bif !decide (s_1=(⟨#[]⟩:ByteArray))then (
  bif decide ((s_1.size:Int)<=40)then (
   bif !decide (s_1=(⟨#[46]⟩:ByteArray))then (
    K (.bool (!decide (s_1=(⟨#[46,46]⟩:ByteArray)))) [])
   else (
    K (.bool false) []))
  else (
   K (.bool false) []))
 else (
  K (.bool false) []))
def F115_L2 (K:Kn) (g:prodL [.str, .int .i64, .int .i64]):Prop:=
 qQ (γ:=prodL [.str, .int .i64, .int .i64]) (fun V y=>Zv K V y.1 y.2.1 y.2.2.1) g
def F115 (g:prodL L115) (K:Kn):Prop:=
 F115_L2 K (g.1,(g.1.size:Int),0,())
theorem F115_eq (g:prodL L115) (K X:Kn):F115 g K=qJ D (qk [] []) (qx []) H115 J115 63 [.tmp 2] (qz Tryz.f115) (argsT S115 L115 g) [] (settle0 K) X:=by kernel_rfl
theorem F115_ok (g:prodL L115) (K X:Kn) (h:F115 g K):FCalls Tryz.prog 115 (argsT S115 L115 g) [] K X:=
 FCalls.settle0 (qq qY (jq z8) qj rfl Tryz.func115 (c:=qz Tryz.f115) rfl Tryz.ntmps115 Tryz.results115 (by unfold qv;rw [Tryz.func115];kernel_rfl) (Nat.le_of_ble_eq_true (by kernel_rfl)) (c0:=0) (Eq.mp (F115_eq g K X) h))
def H230:List (Nat×Hint):=[(2,⟨[],[(0, .leaf),(1, .leaf),(2, .leaf),(7, .leaf)],[],[.str, .int .u8, .int .u8, .int .i64]⟩)]
def J230:List (Nat×Hint):=[(5,⟨[],[(0, .leaf),(1, .leaf),(2, .leaf),(7, .leaf),(25, .leaf)],[],[.str, .int .u8, .int .u8, .int .i64, .bool]⟩)]
abbrev S230:List Sh:=[.leaf, .leaf, .leaf]
abbrev L230:List Lf:=[.str, .int .u8, .int .u8]
def X0 (K:Kn) (W2:prodL [.str, .int .u8, .int .u8, .int .i64]->Prop) (s_5:ByteArray) (a_5 b_5 i_5:Int) (t_5:Bool):Prop:=
 bif t_5 then (
  K (.bool false) [])
 else (
  W2 (s_5,a_5,b_5,IntKind.i64.wrap (i_5+1),()))
def Jw (K:Kn) (W2:prodL [.str, .int .u8, .int .u8, .int .i64]->Prop) (s_1:ByteArray) (a_1 b_1 i_1:Int):Prop:=
 bif decide (i_1< (s_1.size:Int))then (
  QV s_1 i_1 fun b3=>
 bif decide (b3=a_1)then (
  X0 K W2 s_1 a_1 b_1 i_1 true)
 else (
  QV s_1 i_1 fun b4=>
  X0 K W2 s_1 a_1 b_1 i_1 (decide (b4=b_1))))
 else (
  K (.bool true) [])
def F230_L2 (K:Kn) (g:prodL [.str, .int .u8, .int .u8, .int .i64]):Prop:=
 qQ (γ:=prodL [.str, .int .u8, .int .u8, .int .i64]) (fun V y=>Jw K V y.1 y.2.1 y.2.2.1 y.2.2.2.1) g
def F230 (g:prodL L230) (K:Kn):Prop:=
 F230_L2 K (g.1,g.2.1,g.2.2.1,0,())
theorem F230_eq (g:prodL L230) (K X:Kn):F230 g K=qJ D (qk [] []) (qx []) H230 J230 26 [.tmp 6] (qz Tryz.f230) (argsT S230 L230 g) [] (settle0 K) X:=by kernel_rfl
theorem F230_ok (g:prodL L230) (K X:Kn) (h:F230 g K):FCalls Tryz.prog 230 (argsT S230 L230 g) [] K X:=
 FCalls.settle0 (qq qY (jq z8) qj rfl Tryz.func230 (c:=qz Tryz.f230) rfl Tryz.ntmps230 Tryz.results230 (by unfold qv;rw [Tryz.func230];kernel_rfl) (Nat.le_of_ble_eq_true (by kernel_rfl)) (c0:=0) (Eq.mp (F230_eq g K X) h))
def H124:List (Nat×Hint):=[(2,⟨[],[],[],[]⟩),(33000002,⟨[],[],[],[]⟩)]
def J124:List (Nat×Hint):=[]
abbrev S124:List Sh:=[.leaf, .leaf]
abbrev L124:List Lf:=[.el .dig, .el .dig]
def F124 (g:prodL L124) (K:Kn):Prop:=
 0<=(0:Int)/\(0:Int).toNat<32/\
 0<=(0:Int)/\(0:Int).toNat<32/\
 bif decide (g.1.b0<g.2.1.b0)then (
  K (.int .i64 (-1)) [])
 else (
  0<=(0:Int)/\(0:Int).toNat<32/\
 0<=(0:Int)/\(0:Int).toNat<32/\
 bif decide (g.2.1.b0<g.1.b0)then (
  K (.int .i64 1) [])
 else (
  0<=(1:Int)/\(1:Int).toNat<32/\
 0<=(1:Int)/\(1:Int).toNat<32/\
 bif decide (g.1.b1<g.2.1.b1)then (
  K (.int .i64 (-1)) [])
 else (
  0<=(1:Int)/\(1:Int).toNat<32/\
 0<=(1:Int)/\(1:Int).toNat<32/\
 bif decide (g.2.1.b1<g.1.b1)then (
  K (.int .i64 1) [])
 else (
  0<=(2:Int)/\(2:Int).toNat<32/\
 0<=(2:Int)/\(2:Int).toNat<32/\
 bif decide (g.1.b2<g.2.1.b2)then (
  K (.int .i64 (-1)) [])
 else (
  0<=(2:Int)/\(2:Int).toNat<32/\
 0<=(2:Int)/\(2:Int).toNat<32/\
 bif decide (g.2.1.b2<g.1.b2)then (
  K (.int .i64 1) [])
 else (
  0<=(3:Int)/\(3:Int).toNat<32/\
 0<=(3:Int)/\(3:Int).toNat<32/\
 bif decide (g.1.b3<g.2.1.b3)then (
  K (.int .i64 (-1)) [])
 else (
  0<=(3:Int)/\(3:Int).toNat<32/\
 0<=(3:Int)/\(3:Int).toNat<32/\
 bif decide (g.2.1.b3<g.1.b3)then (
  K (.int .i64 1) [])
 else (
  0<=(4:Int)/\(4:Int).toNat<32/\
 0<=(4:Int)/\(4:Int).toNat<32/\
 bif decide (g.1.b4<g.2.1.b4)then (
  K (.int .i64 (-1)) [])
 else (
  0<=(4:Int)/\(4:Int).toNat<32/\
 0<=(4:Int)/\(4:Int).toNat<32/\
 bif decide (g.2.1.b4<g.1.b4)then (
  K (.int .i64 1) [])
 else (
  0<=(5:Int)/\(5:Int).toNat<32/\
 0<=(5:Int)/\(5:Int).toNat<32/\
 bif decide (g.1.b5<g.2.1.b5)then (
  K (.int .i64 (-1)) [])
 else (
  0<=(5:Int)/\(5:Int).toNat<32/\
 0<=(5:Int)/\(5:Int).toNat<32/\
 bif decide (g.2.1.b5<g.1.b5)then (
  K (.int .i64 1) [])
 else (
  0<=(6:Int)/\(6:Int).toNat<32/\
 0<=(6:Int)/\(6:Int).toNat<32/\
 bif decide (g.1.b6<g.2.1.b6)then (
  K (.int .i64 (-1)) [])
 else (
  0<=(6:Int)/\(6:Int).toNat<32/\
 0<=(6:Int)/\(6:Int).toNat<32/\
 bif decide (g.2.1.b6<g.1.b6)then (
  K (.int .i64 1) [])
 else (
  0<=(7:Int)/\(7:Int).toNat<32/\
 0<=(7:Int)/\(7:Int).toNat<32/\
 bif decide (g.1.b7<g.2.1.b7)then (
  K (.int .i64 (-1)) [])
 else (
  0<=(7:Int)/\(7:Int).toNat<32/\
 0<=(7:Int)/\(7:Int).toNat<32/\
 bif decide (g.2.1.b7<g.1.b7)then (
  K (.int .i64 1) [])
 else (
  0<=(8:Int)/\(8:Int).toNat<32/\
 0<=(8:Int)/\(8:Int).toNat<32/\
 bif decide (g.1.b8<g.2.1.b8)then (
  K (.int .i64 (-1)) [])
 else (
  0<=(8:Int)/\(8:Int).toNat<32/\
 0<=(8:Int)/\(8:Int).toNat<32/\
 bif decide (g.2.1.b8<g.1.b8)then (
  K (.int .i64 1) [])
 else (
  0<=(9:Int)/\(9:Int).toNat<32/\
 0<=(9:Int)/\(9:Int).toNat<32/\
 bif decide (g.1.b9<g.2.1.b9)then (
  K (.int .i64 (-1)) [])
 else (
  0<=(9:Int)/\(9:Int).toNat<32/\
 0<=(9:Int)/\(9:Int).toNat<32/\
 bif decide (g.2.1.b9<g.1.b9)then (
  K (.int .i64 1) [])
 else (
  0<=(10:Int)/\(10:Int).toNat<32/\
 0<=(10:Int)/\(10:Int).toNat<32/\
 bif decide (g.1.b10<g.2.1.b10)then (
  K (.int .i64 (-1)) [])
 else (
  0<=(10:Int)/\(10:Int).toNat<32/\
 0<=(10:Int)/\(10:Int).toNat<32/\
 bif decide (g.2.1.b10<g.1.b10)then (
  K (.int .i64 1) [])
 else (
  0<=(11:Int)/\(11:Int).toNat<32/\
 0<=(11:Int)/\(11:Int).toNat<32/\
 bif decide (g.1.b11<g.2.1.b11)then (
  K (.int .i64 (-1)) [])
 else (
  0<=(11:Int)/\(11:Int).toNat<32/\
 0<=(11:Int)/\(11:Int).toNat<32/\
 bif decide (g.2.1.b11<g.1.b11)then (
  K (.int .i64 1) [])
 else (
  0<=(12:Int)/\(12:Int).toNat<32/\
 0<=(12:Int)/\(12:Int).toNat<32/\
 bif decide (g.1.b12<g.2.1.b12)then (
  K (.int .i64 (-1)) [])
 else (
  0<=(12:Int)/\(12:Int).toNat<32/\
 0<=(12:Int)/\(12:Int).toNat<32/\
 bif decide (g.2.1.b12<g.1.b12)then (
  K (.int .i64 1) [])
 else (
  0<=(13:Int)/\(13:Int).toNat<32/\
 0<=(13:Int)/\(13:Int).toNat<32/\
 bif decide (g.1.b13<g.2.1.b13)then (
  K (.int .i64 (-1)) [])
 else (
  0<=(13:Int)/\(13:Int).toNat<32/\
 0<=(13:Int)/\(13:Int).toNat<32/\
 bif decide (g.2.1.b13<g.1.b13)then (
  K (.int .i64 1) [])
 else (
  0<=(14:Int)/\(14:Int).toNat<32/\
 0<=(14:Int)/\(14:Int).toNat<32/\
 bif decide (g.1.b14<g.2.1.b14)then (
  K (.int .i64 (-1)) [])
 else (
  0<=(14:Int)/\(14:Int).toNat<32/\
 0<=(14:Int)/\(14:Int).toNat<32/\
 bif decide (g.2.1.b14<g.1.b14)then (
  K (.int .i64 1) [])
 else (
  0<=(15:Int)/\(15:Int).toNat<32/\
 0<=(15:Int)/\(15:Int).toNat<32/\
 bif decide (g.1.b15<g.2.1.b15)then (
  K (.int .i64 (-1)) [])
 else (
  0<=(15:Int)/\(15:Int).toNat<32/\
 0<=(15:Int)/\(15:Int).toNat<32/\
 bif decide (g.2.1.b15<g.1.b15)then (
  K (.int .i64 1) [])
 else (
  0<=(16:Int)/\(16:Int).toNat<32/\
 0<=(16:Int)/\(16:Int).toNat<32/\
 bif decide (g.1.b16<g.2.1.b16)then (
  K (.int .i64 (-1)) [])
 else (
  0<=(16:Int)/\(16:Int).toNat<32/\
 0<=(16:Int)/\(16:Int).toNat<32/\
 bif decide (g.2.1.b16<g.1.b16)then (
  K (.int .i64 1) [])
 else (
  0<=(17:Int)/\(17:Int).toNat<32/\
 0<=(17:Int)/\(17:Int).toNat<32/\
 bif decide (g.1.b17<g.2.1.b17)then (
  K (.int .i64 (-1)) [])
 else (
  0<=(17:Int)/\(17:Int).toNat<32/\
 0<=(17:Int)/\(17:Int).toNat<32/\
 bif decide (g.2.1.b17<g.1.b17)then (
  K (.int .i64 1) [])
 else (
  0<=(18:Int)/\(18:Int).toNat<32/\
 0<=(18:Int)/\(18:Int).toNat<32/\
 bif decide (g.1.b18<g.2.1.b18)then (
  K (.int .i64 (-1)) [])
 else (
  0<=(18:Int)/\(18:Int).toNat<32/\
 0<=(18:Int)/\(18:Int).toNat<32/\
 bif decide (g.2.1.b18<g.1.b18)then (
  K (.int .i64 1) [])
 else (
  0<=(19:Int)/\(19:Int).toNat<32/\
 0<=(19:Int)/\(19:Int).toNat<32/\
 bif decide (g.1.b19<g.2.1.b19)then (
  K (.int .i64 (-1)) [])
 else (
  0<=(19:Int)/\(19:Int).toNat<32/\
 0<=(19:Int)/\(19:Int).toNat<32/\
 bif decide (g.2.1.b19<g.1.b19)then (
  K (.int .i64 1) [])
 else (
  0<=(20:Int)/\(20:Int).toNat<32/\
 0<=(20:Int)/\(20:Int).toNat<32/\
 bif decide (g.1.b20<g.2.1.b20)then (
  K (.int .i64 (-1)) [])
 else (
  0<=(20:Int)/\(20:Int).toNat<32/\
 0<=(20:Int)/\(20:Int).toNat<32/\
 bif decide (g.2.1.b20<g.1.b20)then (
  K (.int .i64 1) [])
 else (
  0<=(21:Int)/\(21:Int).toNat<32/\
 0<=(21:Int)/\(21:Int).toNat<32/\
 bif decide (g.1.b21<g.2.1.b21)then (
  K (.int .i64 (-1)) [])
 else (
  0<=(21:Int)/\(21:Int).toNat<32/\
 0<=(21:Int)/\(21:Int).toNat<32/\
 bif decide (g.2.1.b21<g.1.b21)then (
  K (.int .i64 1) [])
 else (
  0<=(22:Int)/\(22:Int).toNat<32/\
 0<=(22:Int)/\(22:Int).toNat<32/\
 bif decide (g.1.b22<g.2.1.b22)then (
  K (.int .i64 (-1)) [])
 else (
  0<=(22:Int)/\(22:Int).toNat<32/\
 0<=(22:Int)/\(22:Int).toNat<32/\
 bif decide (g.2.1.b22<g.1.b22)then (
  K (.int .i64 1) [])
 else (
  0<=(23:Int)/\(23:Int).toNat<32/\
 0<=(23:Int)/\(23:Int).toNat<32/\
 bif decide (g.1.b23<g.2.1.b23)then (
  K (.int .i64 (-1)) [])
 else (
  0<=(23:Int)/\(23:Int).toNat<32/\
 0<=(23:Int)/\(23:Int).toNat<32/\
 bif decide (g.2.1.b23<g.1.b23)then (
  K (.int .i64 1) [])
 else (
  0<=(24:Int)/\(24:Int).toNat<32/\
 0<=(24:Int)/\(24:Int).toNat<32/\
 bif decide (g.1.b24<g.2.1.b24)then (
  K (.int .i64 (-1)) [])
 else (
  0<=(24:Int)/\(24:Int).toNat<32/\
 0<=(24:Int)/\(24:Int).toNat<32/\
 bif decide (g.2.1.b24<g.1.b24)then (
  K (.int .i64 1) [])
 else (
  0<=(25:Int)/\(25:Int).toNat<32/\
 0<=(25:Int)/\(25:Int).toNat<32/\
 bif decide (g.1.b25<g.2.1.b25)then (
  K (.int .i64 (-1)) [])
 else (
  0<=(25:Int)/\(25:Int).toNat<32/\
 0<=(25:Int)/\(25:Int).toNat<32/\
 bif decide (g.2.1.b25<g.1.b25)then (
  K (.int .i64 1) [])
 else (
  0<=(26:Int)/\(26:Int).toNat<32/\
 0<=(26:Int)/\(26:Int).toNat<32/\
 bif decide (g.1.b26<g.2.1.b26)then (
  K (.int .i64 (-1)) [])
 else (
  0<=(26:Int)/\(26:Int).toNat<32/\
 0<=(26:Int)/\(26:Int).toNat<32/\
 bif decide (g.2.1.b26<g.1.b26)then (
  K (.int .i64 1) [])
 else (
  0<=(27:Int)/\(27:Int).toNat<32/\
 0<=(27:Int)/\(27:Int).toNat<32/\
 bif decide (g.1.b27<g.2.1.b27)then (
  K (.int .i64 (-1)) [])
 else (
  0<=(27:Int)/\(27:Int).toNat<32/\
 0<=(27:Int)/\(27:Int).toNat<32/\
 bif decide (g.2.1.b27<g.1.b27)then (
  K (.int .i64 1) [])
 else (
  0<=(28:Int)/\(28:Int).toNat<32/\
 0<=(28:Int)/\(28:Int).toNat<32/\
 bif decide (g.1.b28<g.2.1.b28)then (
  K (.int .i64 (-1)) [])
 else (
  0<=(28:Int)/\(28:Int).toNat<32/\
 0<=(28:Int)/\(28:Int).toNat<32/\
 bif decide (g.2.1.b28<g.1.b28)then (
  K (.int .i64 1) [])
 else (
  0<=(29:Int)/\(29:Int).toNat<32/\
 0<=(29:Int)/\(29:Int).toNat<32/\
 bif decide (g.1.b29<g.2.1.b29)then (
  K (.int .i64 (-1)) [])
 else (
  0<=(29:Int)/\(29:Int).toNat<32/\
 0<=(29:Int)/\(29:Int).toNat<32/\
 bif decide (g.2.1.b29<g.1.b29)then (
  K (.int .i64 1) [])
 else (
  0<=(30:Int)/\(30:Int).toNat<32/\
 0<=(30:Int)/\(30:Int).toNat<32/\
 bif decide (g.1.b30<g.2.1.b30)then (
  K (.int .i64 (-1)) [])
 else (
  0<=(30:Int)/\(30:Int).toNat<32/\
 0<=(30:Int)/\(30:Int).toNat<32/\
 bif decide (g.2.1.b30<g.1.b30)then (
  K (.int .i64 1) [])
 else (
  0<=(31:Int)/\(31:Int).toNat<32/\
 0<=(31:Int)/\(31:Int).toNat<32/\
 bif decide (g.1.b31<g.2.1.b31)then (
  K (.int .i64 (-1)) [])
 else (
  0<=(31:Int)/\(31:Int).toNat<32/\
 0<=(31:Int)/\(31:Int).toNat<32/\
 bif decide (g.2.1.b31<g.1.b31)then (
  K (.int .i64 1) [])
 else (
  K (.int .i64 0) []))))))))))))))))))))))))))))))))))))))))))))))))))))))))))))))))
theorem F124_eq (g:prodL L124) (K X:Kn):F124 g K=qJ D (qk [] []) (qx []) H124 J124 24 [.tmp 4] (qz Tryz.f124) (argsT S124 L124 g) [] (settle0 K) X:=by kernel_rfl
theorem F124_ok (g:prodL L124) (K X:Kn) (h:F124 g K):FCalls Tryz.prog 124 (argsT S124 L124 g) [] K X:=
 FCalls.settle0 (qq qY (jq z8) qj rfl Tryz.func124 (c:=qz Tryz.f124) rfl Tryz.ntmps124 Tryz.results124 (by unfold qv;rw [Tryz.func124];kernel_rfl) (Nat.le_of_ble_eq_true (by kernel_rfl)) (c0:=0) (Eq.mp (F124_eq g K X) h))
end Go.Proofs.YtbglndogddddoaaGreatDoor
namespace Go.Proofs.YtbglndogddddoaaGreatDoor
open Go.RowKit
theorem F34_is {l:List ByteArray} {K:Kn} (hl:sumP l) (h:K (.bool (kf l)) []):F34 (l,()) K:=by
 unfold sumP at hl
 rw [sum_bk] at hl
 unfold F34
 refine qQ.countTo l.length (fun n=>(l,((((l.take n).map ByteArray.size).sum:Nat):Int),(n:Int),())) (fun _=>True) rfl (fun n hn _ W hW=> ?_) trivial
 show F34_B2 K W l ((((l.take n).map ByteArray.size).sum:Nat):Int) n
 unfold F34_B2
 by_cases hlt:n<l.length
 . rw [qt hlt,cond_true]
   refine qE hlt ?_
   have:=hW hlt trivial
   rw [sum_take hlt] at this
   have h1:=sum_le (l:=l) (n+1)
   rw [sum_take hlt] at h1
   rw [zJ hlt (by omega),w64 (by omega)]
   exact_mod_cast this
 . have:n=l.length:=by omega
   subst this
   rw [qm,cond_false,List.take_length]
   unfold kf at h
   have e1:decide (40< (l.length:Int))=decide (40<l.length):=by rw [decide_eq_decide];omega
   have e2:decide (3000< (((l.map ByteArray.size).sum:Nat):Int))=decide (3000< (l.map ByteArray.size).sum):=by rw [decide_eq_decide];omega
   rw [e1,e2]
   cases c:decide (40<l.length)<;>simp only [c,Bool.true_or,Bool.false_or,cond_true,cond_false] at h ⊢ <;>exact h
def sp34:Sp:=⟨S34,L34,fun g=>sumP g.1,fun g=> .bool (kf g.1),fun _=>none⟩
theorem sp34_ok:sp34.Ok Tryz.prog 34 true:=
 ⟨fun g K X hp h=>F34_ok g K X (F34_is hp h),fun _ _ _=>rfl,fun _=>rfl,by first | exact fun _ _=>⟨rfl,rfl⟩ | (intro h;cases h)⟩
theorem F41_is {a b:Int} {K:Kn} (h:K (.int .i64 (Qr a b)) []):F41 (a,b,()) K:=by
 unfold F41
 simp only [decide_true,Bool.not_true,cond_false]
 refine ⟨trivial,trivial, ?_⟩
 unfold Qr at h
 cases c:decide (a<b)<;>simp only [c,cond_true,cond_false] at h ⊢
 . cases d:decide (b<a)<;>simp only [d,cond_true,cond_false] at h ⊢ <;>exact h
 . exact h
def sp41:Sp:=⟨S41,L41,fun _=>True,fun g=> .int .i64 (Qr g.1 g.2.1),fun _=>none⟩
theorem sp41_ok:sp41.Ok Tryz.prog 41 false:=
 ⟨fun g K X _ h=>F41_ok g K X (F41_is h),fun _ _ _=>rfl,fun _=>rfl,by first | exact fun _ _=>⟨rfl,rfl⟩ | (intro h;cases h)⟩
set_option maxRecDepth 100000 in
theorem F124_is {g:prodL L124} {K:Kn} (h:K (.int .i64 (ju g.1 g.2.1)) []):F124 g K:=by
 unfold F124
 unfold ju xD at h
 revert h
 show (fun v=>K (.int .i64 v) []) _->_
 iterate 32
  unfold cmpI
  intro h
  refine ⟨by decide,by decide,by decide,by decide, ?_⟩
  revert h
  refine qI (K:=fun v=>K (.int .i64 v) []) id ?_
  intro h
  refine ⟨by decide,by decide,by decide,by decide, ?_⟩
  revert h
  refine qI (K:=fun v=>K (.int .i64 v) []) id ?_
 exact id
def sp124:Sp:=⟨S124,L124,fun _=>True,fun g=> .int .i64 (ju g.1 g.2.1),fun _=>none⟩
theorem sp124_ok:sp124.Ok Tryz.prog 124 true:=
 ⟨fun g K X _ h=>F124_ok g K X (F124_is h),fun _ _ _=>rfl,fun _=>rfl,by first | exact fun _ _=>⟨rfl,rfl⟩ | (intro h;cases h)⟩
end Go.Proofs.YtbglndogddddoaaGreatDoor
namespace Go.Proofs.YtbglndogddddoaaGreatDoor
open Go.RowKit Go.Lib
theorem Xf {P:Program} [Bd P] {g:G P} {st:St} {w:World} (hg:Good g st w) {full:Bool} {l:List Int} {x:Value} (h:R g (.sl full .u8 l) x):(Extern.Bytes.bytesOf x).run P w= .ok ⟨(bs l).toArray⟩ w:=by
 cases h with
 | sl _ _ _ A c h1 h2 h3 h4=>
  by_cases hl:l=[]
  . subst hl
    cases A with
    | none=>rfl
    | some a=>rfl
  . obtain ⟨b,off,cs,rfl,k2,k3⟩:=h4 hl
    obtain ⟨blk,E,fr,p1,p2⟩:=hg.ro b cs k2
    obtain ⟨he,_⟩:=XI (e:= .u8) (f:=id) rfl l
    have hrow:=zM.ofR p2 p1 off (l.length*sz .u8) (by rw [k3];exact zZ)
    rw [k3,he] at hrow
    have hc: ∀(j:Nat) (y:Int),l[j]? =some y->w.cell? ((⟨b,off,none⟩:Addr).add j)=some (.int .u8 y):=fun j y hj=>by
     obtain ⟨z,y1,_,y3⟩:=hrow j (.int .u8 y) (by simp only [id,List.getElem?_map,hj];rfl)
     cases y3
     rw [Addr.add_lit];exact y1
    have hl:=run_loadBytesX (P:=P) w l ⟨b,off,none⟩ .empty hc
    show (Extern.Bytes.loadBytes ⟨b,off,none⟩ l.length .empty).run P w=_
    rw [hl]
    congr 1
    apply ByteArray.ext
    show (#[]:Array UInt8)++(Lib.bytesOf l).toArray=(bs l).toArray
    rw [Array.empty_append]
    rfl
theorem run_compare {P:Program} {w:World} {x y:Value} {l m:List UInt8} (hx:(Extern.Bytes.bytesOf x).run P w= .ok ⟨l.toArray⟩ w) (hy:(Extern.Bytes.bytesOf y).run P w= .ok ⟨m.toArray⟩ w):
  (Extern.BytealgCompare.compare #[x,y]).run P w= .ok (.int .i64 (compareBytes l m)) w:=by
 change Sem.run P (do pure (goInt (Extern.BytealgCompare.cmp (<- Extern.Bytes.bytesOf x) (<- Extern.Bytes.bytesOf y)))) w=_
 simp only [Sem.run_bind,hx,hy,Sem.run_pure,Result.andThen]
 rw [cmp_eq]
 rfl
set_option maxHeartbeats 1000000 in
set_option maxRecDepth 100000 in
theorem YR {w:World} {x y:Value} {l m:List UInt8} (hx:(Extern.Bytes.bytesOf x).run Tryz.prog w= .ok ⟨l.toArray⟩ w) (hy:(Extern.Bytes.bytesOf y).run Tryz.prog w= .ok ⟨m.toArray⟩ w):
  Calls Tryz.prog 40 #[x,y] w fun e w'=>e= .returned (.int .i64 (compareBytes l m))/\w'=w:=by
 go_enter Tryz.func40,Tryz.ntmps40
 go_wp2
 rw [run_callFunc_extern Tryz.func82 (by kernel_rfl) (by kernel_rfl) (by kernel_rfl) (e:=Extern.BytealgCompare.compare) (by kernel_rfl),run_compare hx hy]
 simp only [Result.andThen]
 rw [Oper.upon_value]
 go_wp2
 go_ret
 exact ⟨rfl,rfl⟩
set_option maxHeartbeats 1000000 in
set_option maxRecDepth 100000 in
theorem idx_calls {w:World} {s:ByteArray} {c:Int}:
  Calls Tryz.prog 208 #[.string s, .int .u8 c] w fun e w'=>e= .returned (.int .i64 (Lib.indexByte s.data.toList c.toNat.toUInt8))/\w'=w:=by
 go_enter Tryz.func208,Tryz.ntmps208
 go_wp2
 rw [run_callFunc_extern Tryz.func227 (by kernel_rfl) (by kernel_rfl) (by kernel_rfl) (e:=Extern.BytealgIndexByte.indexByte) (by kernel_rfl),Lib.run_indexByteString]
 simp only [Result.andThen]
 rw [Oper.upon_value]
 go_wp2
 go_ret
 exact ⟨rfl,rfl⟩
theorem rl_two {P:Program} {g:G P} {u v:T} {args:Array Value} (h:RL g [u,v] args): ∃x y,args= #[x,y]/\R g u x/\R g v y:=by
 have h2:args.size=2:=h.len.symm
 refine ⟨args[0],args[1],Array.ext (by simpa using h2) fun i h1 h3=> ?_,h.val 0 u _ rfl (Array.getElem?_eq_getElem (by omega)),h.val 1 v _ rfl (Array.getElem?_eq_getElem (by omega))⟩
 have:i=0∨i=1:=by simp at h3;omega
 rcases this with rfl | rfl<;>rfl
def cmpBs (l m:List Int):Int:=compareBytes (bs l) (bs m)
def Yf (s:ByteArray) (c:Int):Int:=Lib.indexByte s.data.toList c.toNat.toUInt8
def sp40:Sp:=⟨[.leaf, .leaf],[.sl .u8, .sl .u8],fun _=>True,fun g=> .int .i64 (cmpBs g.1 g.2.1),fun _=>none⟩
theorem sp40_ok:sp40.Ok Tryz.prog 40 true:=
 ⟨by
  rintro ⟨l,m,⟨⟩⟩ K X hp hK g w hg
  refine ke.of (by kernel_rfl) fun args hr=> ?_
  obtain ⟨x,y,rfl,hx,hy⟩:=rl_two hr
  refine (YR (Xf hg hx) (Xf hg hy)).mono ?_
  rintro e w' ⟨rfl,rfl⟩
  exact ⟨g,[],hg,Step.refl,_,hK, .int _ _⟩,fun _ _ _=>rfl,fun _=>rfl,fun _ _=>⟨rfl,rfl⟩⟩
def sp208:Sp:=⟨[.leaf, .leaf],[.str, .int .u8],fun _=>True,fun g=> .int .i64 (Yf g.1 g.2.1),fun _=>none⟩
theorem sp208_ok:sp208.Ok Tryz.prog 208 true:=
 ⟨by
  rintro ⟨s,c,⟨⟩⟩ K X hp hK g w hg
  refine ke.of (by kernel_rfl) fun args hr=> ?_
  obtain ⟨x,y,rfl,hx,hy⟩:=rl_two hr
  cases hx
  cases hy
  refine idx_calls.mono ?_
  rintro e w' ⟨rfl,rfl⟩
  exact ⟨g,[],hg,Step.refl,_,hK, .int _ _⟩,fun _ _ _=>rfl,fun _=>rfl,fun _ _=>⟨rfl,rfl⟩⟩
end Go.Proofs.YtbglndogddddoaaGreatDoor
namespace Go.Proofs.YtbglndogddddoaaGreatDoor
open Go.RowKit
attribute [local irreducible] qJ qd
set_option maxRecDepth 100000
def H18:List (Nat×Hint):=[]
def J18:List (Nat×Hint):=[]
abbrev S18:List Sh:=[.leaf, .leaf]
abbrev L18:List Lf:=[.el .dig, .el .dig]
def F18 (g:prodL L18) (K:Kn):Prop:=
 True/\
 K (.int .i64 (cmpBs (xD g.1) (xD g.2.1))) []
theorem F18_eq (g:prodL L18) (K X:Kn):F18 g K=qJ D (qk [] [(40,true,sp40)]) (qx []) H18 J18 8 [.tmp 4] (qz Tryz.f18) (argsT S18 L18 g) [] (settle0 K) X:=by kernel_rfl
theorem F18_ok (g:prodL L18) (K X:Kn) (h:F18 g K):FCalls Tryz.prog 18 (argsT S18 L18 g) [] K X:=
 FCalls.settle0 (qq (Γ:=qk [] [(40,true,sp40)]) (mu:=qx []) (H:=H18) (J:=J18) qY (qV (rs:=[]) (l:=[(40,true,sp40)]) (fun p hp=>by cases hp) (by intro p hp;simp only [List.mem_cons,List.not_mem_nil,or_false] at hp;subst hp;exact sp40_ok)) qj rfl Tryz.func18 (c:=qz Tryz.f18) rfl Tryz.ntmps18 Tryz.results18 (by unfold qv;rw [Tryz.func18];kernel_rfl) (Nat.le_of_ble_eq_true (by kernel_rfl)) (c0:=0) (Eq.mp (F18_eq g K X) h))
def sp18:Sp:=⟨S18,L18,fun _=>True,fun g=> .int .i64 (zG g.1 g.2.1),fun _=>none⟩
theorem sp18_ok:sp18.Ok Tryz.prog 18 true:=
 ⟨fun g K X hp h=>F18_ok g K X (by
  have h:K (.int .i64 (zG g.1 g.2.1)) []:=h
  exact ⟨trivial,h⟩),fun _ _ _=>rfl,fun _=>rfl,by first | exact fun _ _=>⟨rfl,rfl⟩ | (intro h;cases h)⟩
def H159:List (Nat×Hint):=[]
def J159:List (Nat×Hint):=[]
abbrev S159:List Sh:=[.leaf, .leaf]
abbrev L159:List Lf:=[.str, .int .u8]
def F159 (g:prodL L159) (K:Kn):Prop:=
 True/\
 K (.int .i64 (Yf g.1 g.2.1)) []
theorem F159_eq (g:prodL L159) (K X:Kn):F159 g K=qJ D (qk [] [(208,true,sp208)]) (qx []) H159 J159 8 [.tmp 4] (qz Tryz.f159) (argsT S159 L159 g) [] (settle0 K) X:=by kernel_rfl
theorem F159_ok (g:prodL L159) (K X:Kn) (h:F159 g K):FCalls Tryz.prog 159 (argsT S159 L159 g) [] K X:=
 FCalls.settle0 (qq (Γ:=qk [] [(208,true,sp208)]) (mu:=qx []) (H:=H159) (J:=J159) qY (qV (rs:=[]) (l:=[(208,true,sp208)]) (fun p hp=>by cases hp) (by intro p hp;simp only [List.mem_cons,List.not_mem_nil,or_false] at hp;subst hp;exact sp208_ok)) qj rfl Tryz.func159 (c:=qz Tryz.f159) rfl Tryz.ntmps159 Tryz.results159 (by unfold qv;rw [Tryz.func159];kernel_rfl) (Nat.le_of_ble_eq_true (by kernel_rfl)) (c0:=0) (Eq.mp (F159_eq g K X) h))
def sp159:Sp:=⟨S159,L159,fun _=>True,fun g=> .int .i64 (Yf g.1 g.2.1),fun _=>none⟩
theorem sp159_ok:sp159.Ok Tryz.prog 159 true:=
 ⟨fun g K X hp h=>F159_ok g K X (by
  have h:K (.int .i64 (Yf g.1 g.2.1)) []:=h
  exact ⟨trivial,h⟩),fun _ _ _=>rfl,fun _=>rfl,by first | exact fun _ _=>⟨rfl,rfl⟩ | (intro h;cases h)⟩
def H214:List (Nat×Hint):=[]
def J214:List (Nat×Hint):=[]
abbrev S214:List Sh:=[.leaf, .leaf]
abbrev L214:List Lf:=[.el .idk, .el .idk]
def F214 (g:prodL L214) (K:Kn):Prop:=
 True/\
 bif !decide (ju g.1.patch g.2.1.patch=0)then (
  K (.int .i64 (ju g.1.patch g.2.1.patch)) [])
 else (
  bif decide (g.1.n<g.2.1.n)then (
  K (.int .i64 (-1)) [])
 else (
  bif decide (g.2.1.n<g.1.n)then (
  K (.int .i64 1) [])
 else (
  K (.int .i64 0) [])))
theorem F214_eq (g:prodL L214) (K X:Kn):F214 g K=qJ D (qk [] [(124,true,sp124)]) (qx []) H214 J214 24 [.tmp 4] (qz Tryz.f214) (argsT S214 L214 g) [] (settle0 K) X:=by kernel_rfl
theorem F214_ok (g:prodL L214) (K X:Kn) (h:F214 g K):FCalls Tryz.prog 214 (argsT S214 L214 g) [] K X:=
 FCalls.settle0 (qq (Γ:=qk [] [(124,true,sp124)]) (mu:=qx []) (H:=H214) (J:=J214) qY (qV (rs:=[]) (l:=[(124,true,sp124)]) (fun p hp=>by cases hp) (by intro p hp;simp only [List.mem_cons,List.not_mem_nil,or_false] at hp;subst hp;exact sp124_ok)) qj rfl Tryz.func214 (c:=qz Tryz.f214) rfl Tryz.ntmps214 Tryz.results214 (by unfold qv;rw [Tryz.func214];kernel_rfl) (Nat.le_of_ble_eq_true (by kernel_rfl)) (c0:=0) (Eq.mp (F214_eq g K X) h))
def sp214:Sp:=⟨S214,L214,fun _=>True,fun g=> .int .i64 (idI g.1 g.2.1),fun _=>none⟩
theorem sp214_ok:sp214.Ok Tryz.prog 214 true:=
 ⟨fun g K X hp h=>F214_ok g K X (by
  have h:K (.int .i64 (idI g.1 g.2.1)) []:=h
  revert h;unfold F214 idI Qr;show (fun v=>K (.int .i64 v) []) _->_
  repeat' (first | exact id | refine qI (K:=fun v=>K (.int .i64 v) []) ?_ ?_ | (intro h;refine ⟨trivial, ?_⟩;revert h))),fun _ _ _=>rfl,fun _=>rfl,by first | exact fun _ _=>⟨rfl,rfl⟩ | (intro h;cases h)⟩
def H17:List (Nat×Hint):=[]
def J17:List (Nat×Hint):=[]
abbrev S17:List Sh:=[.leaf, .leaf]
abbrev L17:List Lf:=[.el .idk, .el .idk]
def F17 (g:prodL L17) (K:Kn):Prop:=
 True/\
 bif !decide (cmpBs (xD g.1.patch) (xD g.2.1.patch)=0)then (
  K (.int .i64 (cmpBs (xD g.1.patch) (xD g.2.1.patch))) [])
 else (
  True/\
 K (.int .i64 (Qr g.1.n g.2.1.n)) [])
theorem F17_eq (g:prodL L17) (K X:Kn):F17 g K=qJ D (qk [] [(40,true,sp40),(41,false,sp41)]) (qx []) H17 J17 19 [.tmp 4] (qz Tryz.f17) (argsT S17 L17 g) [] (settle0 K) X:=by kernel_rfl
theorem F17_ok (g:prodL L17) (K X:Kn) (h:F17 g K):FCalls Tryz.prog 17 (argsT S17 L17 g) [] K X:=
 FCalls.settle0 (qq qY (jq (zq sp40_ok (zq sp41_ok z8))) qj rfl Tryz.func17 (c:=qz Tryz.f17) rfl Tryz.ntmps17 Tryz.results17 (by unfold qv;rw [Tryz.func17];kernel_rfl) (Nat.le_of_ble_eq_true (by kernel_rfl)) (c0:=0) (Eq.mp (F17_eq g K X) h))
def sp17:Sp:=⟨S17,L17,fun _=>True,fun g=> .int .i64 (idC g.1 g.2.1),fun _=>none⟩
theorem sp17_ok:sp17.Ok Tryz.prog 17 true:=
 ⟨fun g K X hp h=>F17_ok g K X (by
  have h:K (.int .i64 (idC g.1 g.2.1)) []:=h
  revert h;unfold F17 idC;show (fun v=>K (.int .i64 v) []) _->_
  repeat' (first | exact id | refine qI (K:=fun v=>K (.int .i64 v) []) ?_ ?_ | (intro h;refine ⟨trivial, ?_⟩;revert h))),fun _ _ _=>rfl,fun _=>rfl,by first | exact fun _ _=>⟨rfl,rfl⟩ | (intro h;cases h)⟩
def H176:List (Nat×Hint):=[(2,⟨[],[(0, .leaf),(3, .leaf)],[],[.sl .idk, .int .i64]⟩)]
def J176:List (Nat×Hint):=[]
abbrev S176:List Sh:=[.leaf]
abbrev L176:List Lf:=[.sl .idk]
def Jx (K:Kn) (W2:prodL [.sl .idk, .int .i64]->Prop) (l_1:List Idn) (i_1:Int):Prop:=
 bif decide (i_1< (l_1.length:Int))then (
  At l_1 (IntKind.i64.wrap (i_1-1)) fun u3=>
 At l_1 i_1 fun u4=>
 True/\
 bif decide (0<=idI u3 u4)then (
  K (.bool false) [])
 else (
  W2 (l_1,IntKind.i64.wrap (i_1+1),())))
 else (
  K (.bool true) [])
def F176_L2 (K:Kn) (g:prodL [.sl .idk, .int .i64]):Prop:=
 qQ (γ:=prodL [.sl .idk, .int .i64]) (fun V y=>Jx K V y.1 y.2.1) g
def F176 (g:prodL L176) (K:Kn):Prop:=
 F176_L2 K (g.1,1,())
theorem F176_eq (g:prodL L176) (K X:Kn):F176 g K=qJ D (qk [] [(214,true,sp214)]) (qx []) H176 J176 21 [.tmp 2] (qz Tryz.f176) (argsT S176 L176 g) [] (settle0 K) X:=by kernel_rfl
theorem F176_ok (g:prodL L176) (K X:Kn) (h:F176 g K):FCalls Tryz.prog 176 (argsT S176 L176 g) [] K X:=
 FCalls.settle0 (qq (Γ:=qk [] [(214,true,sp214)]) (mu:=qx []) (H:=H176) (J:=J176) qY (qV (rs:=[]) (l:=[(214,true,sp214)]) (fun p hp=>by cases hp) (by intro p hp;simp only [List.mem_cons,List.not_mem_nil,or_false] at hp;subst hp;exact sp214_ok)) qj rfl Tryz.func176 (c:=qz Tryz.f176) rfl Tryz.ntmps176 Tryz.results176 (by unfold qv;rw [Tryz.func176];kernel_rfl) (Nat.le_of_ble_eq_true (by kernel_rfl)) (c0:=0) (Eq.mp (F176_eq g K X) h))
end Go.Proofs.YtbglndogddddoaaGreatDoor
namespace Go.Proofs.YtbglndogddddoaaGreatDoor
open Go.RowKit
def szP (s:ByteArray):Prop:=s.size<=2147483648
theorem getB {s:ByteArray} {n:Nat} (h:n<s.size):s.data.toList[n]? =some (s.data[n]'h):=by
 rw [List.getElem?_eq_getElem (by simpa using h)];simp
theorem j6 {s:ByteArray} {n:Nat} {K:Int->Prop} (h:n<s.size) (hK:K ((s.data[n]'h).toNat:Int)):QV s (n:Int) K:=
 ⟨Int.natCast_nonneg _,s.data[n]'h,getElem?_pos s n h,hK⟩
theorem JC (s:ByteArray) (q:UInt8->Bool):s.data.toList.all q=decide (∀n,n<s.size->(s.data.toList[n]?).all q=true):=by
 rw [dec_allO];rfl
theorem F115_is {s:ByteArray} {K:Kn} (hs:szP s) (h:K (.bool (xk s)) []):F115 (s,()) K:=by
 unfold szP at hs
 unfold xk at h
 rw [JC] at h
 unfold F115
 refine qQ.all s.size (fun n=>(s,(s.size:Int),(n:Int),())) (fun n=>(s.data.toList[n]?).all chrB) (fun r=>K (.bool (r&&restN s)) []) h rfl (fun W n hn ht hf=> ?_) fun ht W=> ?_
 . show Zv K W s (s.size:Int) n
   unfold Zv
   rw [qt hn,cond_true]
   refine j6 hn ?_
   simp only [getB hn,Option.all_some] at ht hf
   rw [Bool.false_and] at hf
   generalize s.data[n]'hn=c at ht hf ⊢
   have e1:chrB c=true->qo K W s s.size n false:=fun e=>by unfold qo;rw [cond_false,zJ hn (by omega)];exact ht e
   have e2:chrB c=false->qo K W s s.size n true:=fun e=>by unfold qo;rw [cond_true];exact hf e
   simp only [Bool.cond_eq_ite,decide_eq_true_eq,Bool.not_eq_true',decide_eq_false_iff_not]
   (repeat' split)<;>first
    | exact e1 (decide_eq_true (by omega))
    | exact e2 (decide_eq_false (by omega))
    | (by_cases d:((c.toNat:Nat):Int)=45<;>simp only [d,decide_true,decide_false,Bool.not_true,Bool.not_false]<;>first | exact e1 (decide_eq_true (by omega)) | exact e2 (decide_eq_false (by omega)))
 . show Zv K W s (s.size:Int) (s.size:Int)
   unfold Zv
   rw [qm,cond_false]
   rw [Bool.true_and] at ht
   revert ht
   unfold restN
   repeat' (first | exact id | refine qI (K:=fun v=>K (.bool v) []) ?_ ?_)
def sp115:Sp:=⟨S115,L115,fun g=>szP g.1,fun g=> .bool (xk g.1),fun _=>none⟩
theorem sp115_ok:sp115.Ok Tryz.prog 115 true:=
 ⟨fun g K X hp h=>F115_ok g K X (F115_is hp h),fun _ _ _=>rfl,fun _=>rfl,fun _ _=>⟨rfl,rfl⟩⟩
theorem F71_is {s:ByteArray} {K:Kn} (hs:szP s) (h:K (.bool (xk s)) []):F71 (s,()) K:=by
 unfold szP at hs
 unfold xk at h
 rw [JC] at h
 unfold F71
 refine qQ.all s.size (fun n=>(s,(n:Int),())) (fun n=>(s.data.toList[n]?).all chrB) (fun r=>K (.bool (r&&restN s)) []) h rfl (fun W n hn ht hf=> ?_) fun ht W=> ?_
 . show WD K W s n
   unfold WD
   rw [qt hn,cond_true]
   refine j6 hn ?_
   simp only [getB hn,Option.all_some] at ht hf
   rw [Bool.false_and] at hf
   generalize s.data[n]'hn=c at ht hf ⊢
   have e1:chrB c=true->qH K W s n false:=fun e=>by unfold qH;rw [cond_false,zJ hn (by omega)];exact ht e
   have e2:chrB c=false->qH K W s n true:=fun e=>by unfold qH;rw [cond_true];exact hf e
   simp only [Bool.cond_eq_ite,decide_eq_true_eq,Bool.not_eq_true',decide_eq_false_iff_not]
   (repeat' split)<;>first
    | exact e1 (decide_eq_true (by omega))
    | exact e2 (decide_eq_false (by omega))
    | (by_cases d:((c.toNat:Nat):Int)=45<;>simp only [d,decide_true,decide_false,Bool.not_true,Bool.not_false]<;>first | exact e1 (decide_eq_true (by omega)) | exact e2 (decide_eq_false (by omega)))
 . show WD K W s (s.size:Int)
   unfold WD
   rw [qm,cond_false]
   rw [Bool.true_and] at ht
   have e:decide (1<=(s.size:Int))= !decide (s=(⟨#[]⟩:ByteArray)):=by
    by_cases hz:s=⟨#[]⟩
    . subst hz;rfl
    . rw [decide_eq_false hz]
      have:s.size≠0:=fun h0=>hz (ByteArray.ext (Array.eq_empty_of_size_eq_zero h0))
      exact decide_eq_true (by omega)
   rw [e]
   revert ht
   unfold restN
   repeat' (first | exact id | refine qI (K:=fun v=>K (.bool v) []) ?_ ?_)
def sp71:Sp:=⟨S71,L71,fun g=>szP g.1,fun g=> .bool (xk g.1),fun _=>none⟩
theorem sp71_ok:sp71.Ok Tryz.prog 71 true:=
 ⟨fun g K X hp h=>F71_ok g K X (F71_is hp h),fun _ _ _=>rfl,fun _=>rfl,fun _ _=>⟨rfl,rfl⟩⟩
theorem F230_is {s:ByteArray} {a b:Int} {K:Kn} (hs:szP s) (h:K (.bool (QA s a b)) []):F230 (s,a,b,()) K:=by
 unfold szP at hs
 unfold QA at h
 rw [JC] at h
 unfold F230
 refine qQ.all s.size (fun n=>(s,a,b,(n:Int),())) (fun n=>(s.data.toList[n]?).all fun x=> !(decide ((x.toNat:Int)=a)||decide ((x.toNat:Int)=b))) (fun r=>K (.bool r) []) h rfl (fun W n hn ht hf=> ?_) fun ht W=> ?_
 . show Jw K W s a b n
   unfold Jw
   rw [qt hn,cond_true]
   refine j6 hn ?_
   simp only [getB hn,Option.all_some] at ht hf
   cases e1:decide (((s.data[n]'hn).toNat:Int)=a)
   . simp only [cond_false]
     refine j6 hn ?_
     unfold X0
     rw [e1,Bool.false_or] at ht hf
     cases e2:decide (((s.data[n]'hn).toNat:Int)=b)
     . rw [cond_false,zJ hn (by omega)];exact ht (by rw [e2];rfl)
     . rw [cond_true];exact hf (by rw [e2];rfl)
   . simp only [cond_true]
     unfold X0
     rw [cond_true]
     exact hf (by rw [e1];rfl)
 . show Jw K W s a b (s.size:Int)
   unfold Jw
   rw [qm,cond_false]
   exact ht
def sp230:Sp:=⟨S230,L230,fun g=>szP g.1,fun g=> .bool (QA g.1 g.2.1 g.2.2.1),fun _=>none⟩
theorem sp230_ok:sp230.Ok Tryz.prog 230 true:=
 ⟨fun g K X hp h=>F230_ok g K X (F230_is hp h),fun _ _ _=>rfl,fun _=>rfl,fun _ _=>⟨rfl,rfl⟩⟩
end Go.Proofs.YtbglndogddddoaaGreatDoor
namespace Go.Proofs.YtbglndogddddoaaGreatDoor
open Go.RowKit
attribute [local irreducible] qJ qd
set_option maxRecDepth 100000
def H213:List (Nat×Hint):=[]
def J213:List (Nat×Hint):=[]
abbrev S213:List Sh:=[.leaf]
abbrev L213:List Lf:=[.str]
def F213 (g:prodL L213) (K:Kn):Prop:=
 bif decide ((g.1.size:Int)<=1000)then (
  sp230.pre (g.1,10,0,())/\
  K (.bool (QA g.1 10 0)) [])
 else (
  K (.bool false) [])
theorem F213_eq (g:prodL L213) (K X:Kn):F213 g K=qJ D (qk [] [(230,true,sp230)]) (qx []) H213 J213 10 [.tmp 2] (qz Tryz.f213) (argsT S213 L213 g) [] (settle0 K) X:=by kernel_rfl
theorem F213_ok (g:prodL L213) (K X:Kn) (h:F213 g K):FCalls Tryz.prog 213 (argsT S213 L213 g) [] K X:=
 FCalls.settle0 (qq (Γ:=qk [] [(230,true,sp230)]) (mu:=qx []) (H:=H213) (J:=J213) qY (qV (rs:=[]) (l:=[(230,true,sp230)]) (fun p hp=>by cases hp) (by intro p hp;simp only [List.mem_cons,List.not_mem_nil,or_false] at hp;subst hp;exact sp230_ok)) qj rfl Tryz.func213 (c:=qz Tryz.f213) rfl Tryz.ntmps213 Tryz.results213 (by unfold qv;rw [Tryz.func213];kernel_rfl) (Nat.le_of_ble_eq_true (by kernel_rfl)) (c0:=0) (Eq.mp (F213_eq g K X) h))
def H117:List (Nat×Hint):=[]
def J117:List (Nat×Hint):=[]
abbrev S117:List Sh:=[.leaf]
abbrev L117:List Lf:=[.str]
def F117 (g:prodL L117) (K:Kn):Prop:=
 bif decide ((g.1.size:Int)<=1000)then (
  True/\
  bif decide (Yf g.1 10<0)then (
   True/\
   K (.bool (decide (Yf g.1 0<0))) [])
  else (
   K (.bool false) []))
 else (
  K (.bool false) [])
theorem F117_eq (g:prodL L117) (K X:Kn):F117 g K=qJ D (qk [] [(159,true,sp159)]) (qx []) H117 J117 16 [.tmp 2] (qz Tryz.f117) (argsT S117 L117 g) [] (settle0 K) X:=by kernel_rfl
theorem F117_ok (g:prodL L117) (K X:Kn) (h:F117 g K):FCalls Tryz.prog 117 (argsT S117 L117 g) [] K X:=
 FCalls.settle0 (qq (Γ:=qk [] [(159,true,sp159)]) (mu:=qx []) (H:=H117) (J:=J117) qY (qV (rs:=[]) (l:=[(159,true,sp159)]) (fun p hp=>by cases hp) (by intro p hp;simp only [List.mem_cons,List.not_mem_nil,or_false] at hp;subst hp;exact sp159_ok)) qj rfl Tryz.func117 (c:=qz Tryz.f117) rfl Tryz.ntmps117 Tryz.results117 (by unfold qv;rw [Tryz.func117];kernel_rfl) (Nat.le_of_ble_eq_true (by kernel_rfl)) (c0:=0) (Eq.mp (F117_eq g K X) h))
def H207:List (Nat×Hint):=[(2,⟨[],[(0, .leaf),(1, .leaf),(7, .leaf),(8, .leaf)],[],[.sl .i64, .int .i64, .int .i64, .int .i64]⟩)]
def J207:List (Nat×Hint):=[]
abbrev S207:List Sh:=[.leaf, .leaf]
abbrev L207:List Lf:=[.sl .i64, .int .i64]
def qqL (K:Kn) (W2:prodL [.sl .i64, .int .i64, .int .i64, .int .i64]->Prop) (s_1:List Int) (v_1 t_1 t2_1:Int):Prop:=
 bif decide (t2_1<t_1)then (
  At s_1 t2_1 fun u3=>
 bif decide (v_1=u3)then (
  K (.int .i64 t2_1) [])
 else (
  W2 (s_1,v_1,t_1,IntKind.i64.wrap (t2_1+1),())))
 else (
  K (.int .i64 (-1)) [])
def F207_L2 (K:Kn) (g:prodL [.sl .i64, .int .i64, .int .i64, .int .i64]):Prop:=
 qQ (γ:=prodL [.sl .i64, .int .i64, .int .i64, .int .i64]) (fun V y=>qqL K V y.1 y.2.1 y.2.2.1 y.2.2.2.1) g
def F207 (g:prodL L207) (K:Kn):Prop:=
 F207_L2 K (g.1,g.2.1,(g.1.length:Int),0,())
theorem F207_eq (g:prodL L207) (K X:Kn):F207 g K=qJ D (qk [] []) (qx []) H207 J207 19 [.tmp 4] (qz Tryz.f207) (argsT S207 L207 g) [] (settle0 K) X:=by kernel_rfl
theorem F207_ok (g:prodL L207) (K X:Kn) (h:F207 g K):FCalls Tryz.prog 207 (argsT S207 L207 g) [] K X:=
 FCalls.settle0 (qq qY (jq z8) qj rfl Tryz.func207 (c:=qz Tryz.f207) rfl Tryz.ntmps207 Tryz.results207 (by unfold qv;rw [Tryz.func207];kernel_rfl) (Nat.le_of_ble_eq_true (by kernel_rfl)) (c0:=0) (Eq.mp (F207_eq g K X) h))
end Go.Proofs.YtbglndogddddoaaGreatDoor
namespace Go.Proofs.YtbglndogddddoaaGreatDoor
open Go.RowKit
theorem qzk: ∀(l:List UInt8) (c:UInt8),decide (Lib.indexByte l c<0)=l.all fun x=> !(x==c)
 | [],c=>rfl
 | b::l,c=>by
  have ih:=qzk l c
  unfold Lib.indexByte
  cases e:b==c
  . simp only [Bool.false_eq_true,if_false,List.all_cons,e,Bool.not_false,Bool.true_and]
    rw [<- ih]
    have hg:=Lib.indexByte_ge l c
    by_cases h:Lib.indexByte l c= -1
    . rw [h];rfl
    . have:(Lib.indexByte l c== -1)=false:=by simpa using h
      rw [this,decide_eq_decide]
      simp only [Bool.false_eq_true,if_false]
      omega
  . simp [e]
theorem lineB_eq (s:ByteArray):wu s=bif decide ((s.size:Int)<=1000)then (bif decide (Yf s 10<0)then decide (Yf s 0<0)else false)else false:=by
 unfold wu
 have:QA s 10 0=bif decide (Yf s 10<0)then decide (Yf s 0<0)else false:=by
  unfold QA Yf
  rw [qzk,qzk]
  have e1: ∀x:UInt8,decide ((x.toNat:Int)=10)=(x==(10:Int).toNat.toUInt8):=fun x=>by
   rw [Bool.eq_iff_iff,decide_eq_true_eq,beq_iff_eq, <- UInt8.toNat_inj]
   show _↔x.toNat=10
   omega
  have e2: ∀x:UInt8,decide ((x.toNat:Int)=0)=(x==(0:Int).toNat.toUInt8):=fun x=>by
   rw [Bool.eq_iff_iff,decide_eq_true_eq,beq_iff_eq, <- UInt8.toNat_inj]
   show _↔x.toNat=0
   omega
  simp only [e1,e2,Bool.not_or]
  induction s.data.toList with
  | nil=>rfl
  | cons a l ih=>
   simp only [List.all_cons,ih]
   cases a==(10:Int).toNat.toUInt8<;>cases a==(0:Int).toNat.toUInt8<;>simp
 rw [this]
theorem F213_is {s:ByteArray} {K:Kn} (hs:szP s) (h:K (.bool (wu s)) []):F213 (s,()) K:=by
 revert h
 unfold F213 wu
 exact qI (K:=fun v=>K (.bool v) []) (fun h=>⟨hs,h⟩) id
def sp213:Sp:=⟨S213,L213,fun g=>szP g.1,fun g=> .bool (wu g.1),fun _=>none⟩
theorem sp213_ok:sp213.Ok Tryz.prog 213 true:=
 ⟨fun g K X hp h=>F213_ok g K X (F213_is hp h),fun _ _ _=>rfl,fun _=>rfl,fun _ _=>⟨rfl,rfl⟩⟩
def sp117:Sp:=⟨S117,L117,fun _=>True,fun g=> .bool (wu g.1),fun _=>none⟩
theorem sp117_ok:sp117.Ok Tryz.prog 117 true:=
 ⟨fun g K X _ h=>F117_ok g K X (by
  have h:K (.bool (wu g.1)) []:=h
  rw [lineB_eq] at h
  revert h
  unfold F117
  exact qI (K:=fun v=>K (.bool v) []) (fun h=>⟨trivial,qI (K:=fun v=>K (.bool v) []) (fun h=>⟨trivial,h⟩) id h⟩) id),fun _ _ _=>rfl,fun _=>rfl,fun _ _=>⟨rfl,rfl⟩⟩
theorem F207_is {l:List Int} {n:Int} {K:Kn} (hl:spL l.length) (h:K (.int .i64 (wJ l n)) []):F207 (l,n,()) K:=by
 unfold spL at hl
 unfold F207
 have key: ∀(m:Nat),m<=l.length->(∀j,j<m->l[j]? ≠some n)->(K (.int .i64 (wJ l n)) [])->wJ l n=(if wJ (l.drop m) n<0 then -1 else wJ (l.drop m) n+m):=by
  intro m hm hj _
  induction m with
  | zero=>
   rw [List.drop_zero]
   have:=qq1 l n
   split<;>omega
  | succ m ih=>
   have e:=ih (by omega) fun j hj'=>hj j (by omega)
   have hlt:m<l.length:=by omega
   rw [List.drop_eq_getElem_cons hlt,wJ] at e
   have: ¬n=l[m]:=fun q=>hj m (by omega) (by rw [List.getElem?_eq_getElem hlt,q])
   rw [decide_eq_false this,cond_false] at e
   have:=qq1 (l.drop (m+1)) n
   cases c:decide (wJ (l.drop (m+1)) n<0)<;>simp only [c,cond_true,cond_false] at e
   . have c:=of_decide_eq_false c
     rw [if_neg c];rw [if_neg (by omega)] at e;omega
   . have c:=of_decide_eq_true c
     rw [if_pos c];simpa using e
 refine qQ.countTo l.length (fun m=>(l,n,(l.length:Int),(m:Int),())) (fun m=> ∀j,j<m->l[j]? ≠some n) rfl (fun m hm hj W hW=> ?_) (by omega)
 show qqL K W l n l.length m
 unfold qqL
 have e:=key m hm hj h
 by_cases hlt:m<l.length
 . rw [qt hlt,cond_true]
   refine qE hlt ?_
   by_cases q:n=l[m]
   . rw [decide_eq_true q,cond_true]
     rw [List.drop_eq_getElem_cons hlt,wJ,decide_eq_true q,cond_true] at e
     rw [e] at h
     simpa using h
   . rw [decide_eq_false q,cond_false,zJ hlt (by omega)]
     refine hW hlt fun j hj'=> ?_
     by_cases c:j=m
     . subst c;rw [List.getElem?_eq_getElem hlt];simpa using fun c=>q c.symm
     . exact hj j (by omega)
 . have:m=l.length:=by omega
   subst this
   rw [qm,cond_false]
   rw [List.drop_length,wJ] at e
   rw [e] at h
   simpa using h
def sp207:Sp:=⟨S207,L207,fun g=>spL g.1.length,fun g=> .int .i64 (wJ g.1 g.2.1),fun _=>none⟩
theorem sp207_ok:sp207.Ok Tryz.prog 207 true:=
 ⟨fun g K X hp h=>F207_ok g K X (F207_is hp h),fun _ _ _=>rfl,fun _=>rfl,fun _ _=>⟨rfl,rfl⟩⟩
end Go.Proofs.YtbglndogddddoaaGreatDoor
namespace Go.Proofs.YtbglndogddddoaaGreatDoor
open Go.RowKit
attribute [local irreducible] qJ qd
set_option maxRecDepth 100000
def H158:List (Nat×Hint):=[]
def J158:List (Nat×Hint):=[]
abbrev S158:List Sh:=[.leaf, .leaf]
abbrev L158:List Lf:=[.sl .i64, .int .i64]
def F158 (g:prodL L158) (K:Kn):Prop:=
 sp207.pre (g.1,g.2.1,())/\
 K (.bool (decide (0<=wJ g.1 g.2.1))) []
theorem F158_eq (g:prodL L158) (K X:Kn):F158 g K=qJ D (qk [] [(207,true,sp207)]) (qx []) H158 J158 9 [.tmp 4] (qz Tryz.f158) (argsT S158 L158 g) [] (settle0 K) X:=by kernel_rfl
theorem F158_ok (g:prodL L158) (K X:Kn) (h:F158 g K):FCalls Tryz.prog 158 (argsT S158 L158 g) [] K X:=
 FCalls.settle0 (qq (Γ:=qk [] [(207,true,sp207)]) (mu:=qx []) (H:=H158) (J:=J158) qY (qV (rs:=[]) (l:=[(207,true,sp207)]) (fun p hp=>by cases hp) (by intro p hp;simp only [List.mem_cons,List.not_mem_nil,or_false] at hp;subst hp;exact sp207_ok)) qj rfl Tryz.func158 (c:=qz Tryz.f158) rfl Tryz.ntmps158 Tryz.results158 (by unfold qv;rw [Tryz.func158];kernel_rfl) (Nat.le_of_ble_eq_true (by kernel_rfl)) (c0:=0) (Eq.mp (F158_eq g K X) h))
def sp158:Sp:=⟨S158,L158,fun g=>spL g.1.length,fun g=> .bool (decide (0<=wJ g.1 g.2.1)),fun _=>none⟩
theorem sp158_ok:sp158.Ok Tryz.prog 158 true:=
 ⟨fun g K X hp h=>F158_ok g K X (by
  have h:K (.bool (decide (0<=wJ g.1 g.2.1))) []:=h
  exact ⟨hp,h⟩),fun _ _ _=>rfl,fun _=>rfl,by first | exact fun _ _=>⟨rfl,rfl⟩ | (intro h;cases h)⟩
def H157:List (Nat×Hint):=[]
def J157:List (Nat×Hint):=[]
abbrev S157:List Sh:=[.leaf, .leaf]
abbrev L157:List Lf:=[.sl .i64, .pr .i64]
def F157 (g:prodL L157) (K:Kn):Prop:=
 sp158.pre (g.1,g.2.1,())/\
 K (.bool (decide (0<=wJ g.1 g.2.1))) []
theorem F157_eq (g:prodL L157) (K X:Kn):F157 g K=qJ D (qk [] [(158,true,sp158)]) (qx []) H157 J157 7 [.tmp 3] (qz Tryz.f157) (argsT S157 L157 g) [] (settle0 K) X:=by kernel_rfl
theorem F157_ok (g:prodL L157) (K X:Kn) (h:F157 g K):FCalls Tryz.prog 157 (argsT S157 L157 g) [] K X:=
 FCalls.settle0 (qq (Γ:=qk [] [(158,true,sp158)]) (mu:=qx []) (H:=H157) (J:=J157) qY (qV (rs:=[]) (l:=[(158,true,sp158)]) (fun p hp=>by cases hp) (by intro p hp;simp only [List.mem_cons,List.not_mem_nil,or_false] at hp;subst hp;exact sp158_ok)) qj rfl Tryz.func157 (c:=qz Tryz.f157) rfl Tryz.ntmps157 Tryz.results157 (by unfold qv;rw [Tryz.func157];kernel_rfl) (Nat.le_of_ble_eq_true (by kernel_rfl)) (c0:=0) (Eq.mp (F157_eq g K X) h))
def qc:Sp:=⟨S157,L157,fun g=>spL g.1.length,fun g=> .bool (decide (0<=wJ g.1 g.2.1)),fun _=>none⟩
theorem vC:qc.Ok Tryz.prog 157 true:=
 ⟨fun g K X hp h=>F157_ok g K X (by
  have h:K (.bool (decide (0<=wJ g.1 g.2.1))) []:=h
  exact ⟨hp,h⟩),fun _ _ _=>rfl,fun _=>rfl,by first | exact fun _ _=>⟨rfl,rfl⟩ | (intro h;cases h)⟩
set_option maxRecDepth 100000
def H116k1:List (Nat×Hint):=[]
def J116k1:List (Nat×Hint):=[]
abbrev S116k1:List Sh:=[.leaf]
abbrev kV:List Lf:=[.el .chg]
def kv116k1 (g:prodL kV):prodL kV:=(⟨1,g.1.file,g.1.typ,g.1.parent,g.1.name,g.1.mode,g.1.data,g.1.after,g.1.before,g.1.lines,g.1.over⟩,g.2)
def qqu (g:prodL kV) (K:Kn):Prop:=
 qc.pre ([1],1,())/\
 qc.pre ([2,3,4,5,6],1,())/\
 bif qs g.1.file iz then (
  qc.pre ([2],1,())/\
  bif qs g.1.parent iz then (
   bif decide (g.1.name=(⟨#[]⟩:ByteArray))then (
    qc.pre ([3],1,())/\
    bif decide (g.1.mode=0)then (
     qc.pre ([4],1,())/\
     bif decide (g.1.data=(⟨#[]⟩:ByteArray))then (
      qc.pre ([5,6],1,())/\
      bif qs g.1.after iz then (
       bif qs g.1.before iz then (
        qc.pre ([5],1,())/\
        bif decide ((g.1.lines.length:Int)=0)then (
         qc.pre ([2,3,4,6,7],1,())/\
         K (.bool (decide ((g.1.over.length:Int)=0))) [])
        else (
         K (.bool false) []))
       else (
        K (.bool false) []))
      else (
       K (.bool false) []))
     else (
      K (.bool false) []))
    else (
     K (.bool false) []))
   else (
    K (.bool false) []))
  else (
   K (.bool false) []))
 else (
  K (.bool false) [])
theorem F116k1_eq (g:prodL kV) (K X:Kn):qqu g K=qJ D (qk [] [(157,true,qc)]) (qx []) H116k1 J116k1 104 [.tmp 2] (qz Tryz.f116) (argsT S116k1 kV (kv116k1 g)) [] (settle0 K) X:=by kernel_rfl
theorem F116k1_ok (g:prodL kV) (K X:Kn) (h:qqu g K):FCalls Tryz.prog 116 (argsT S116k1 kV (kv116k1 g)) [] K X:=
 FCalls.settle0 (qq (Γ:=qk [] [(157,true,qc)]) (mu:=qx []) (H:=H116k1) (J:=J116k1) qY (qV (rs:=[]) (l:=[(157,true,qc)]) (fun p hp=>by cases hp) (by intro p hp;simp only [List.mem_cons,List.not_mem_nil,or_false] at hp;subst hp;exact vC)) qj rfl Tryz.func116 (c:=qz Tryz.f116) rfl Tryz.ntmps116 Tryz.results116 (by unfold qv;rw [Tryz.func116];kernel_rfl) (Nat.le_of_ble_eq_true (by kernel_rfl)) (c0:=0) (Eq.mp (F116k1_eq g K X) h))
def H116k2:List (Nat×Hint):=[]
def J116k2:List (Nat×Hint):=[]
abbrev S116k2:List Sh:=[.leaf]
abbrev QI:List Lf:=[.el .chg]
def kv116k2 (g:prodL QI):prodL QI:=(⟨2,g.1.file,g.1.typ,g.1.parent,g.1.name,g.1.mode,g.1.data,g.1.after,g.1.before,g.1.lines,g.1.over⟩,g.2)
def qzq (g:prodL QI) (K:Kn):Prop:=
 qc.pre ([1],2,())/\
 bif decide (g.1.typ=0)then (
  qc.pre ([2,3,4,5,6],2,())/\
  qc.pre ([2],2,())/\
  qc.pre ([3],2,())/\
  bif decide (g.1.mode=0)then (
   qc.pre ([4],2,())/\
   bif decide (g.1.data=(⟨#[]⟩:ByteArray))then (
    qc.pre ([5,6],2,())/\
    bif qs g.1.after iz then (
     bif qs g.1.before iz then (
      qc.pre ([5],2,())/\
      bif decide ((g.1.lines.length:Int)=0)then (
       qc.pre ([2,3,4,6,7],2,())/\
       K (.bool true) [])
      else (
       K (.bool false) []))
     else (
      K (.bool false) []))
    else (
     K (.bool false) []))
   else (
    K (.bool false) []))
  else (
   K (.bool false) []))
 else (
  K (.bool false) [])
theorem F116k2_eq (g:prodL QI) (K X:Kn):qzq g K=qJ D (qk [] [(157,true,qc)]) (qx []) H116k2 J116k2 104 [.tmp 2] (qz Tryz.f116) (argsT S116k2 QI (kv116k2 g)) [] (settle0 K) X:=by kernel_rfl
theorem F116k2_ok (g:prodL QI) (K X:Kn) (h:qzq g K):FCalls Tryz.prog 116 (argsT S116k2 QI (kv116k2 g)) [] K X:=
 FCalls.settle0 (qq (Γ:=qk [] [(157,true,qc)]) (mu:=qx []) (H:=H116k2) (J:=J116k2) qY (qV (rs:=[]) (l:=[(157,true,qc)]) (fun p hp=>by cases hp) (by intro p hp;simp only [List.mem_cons,List.not_mem_nil,or_false] at hp;subst hp;exact vC)) qj rfl Tryz.func116 (c:=qz Tryz.f116) rfl Tryz.ntmps116 Tryz.results116 (by unfold qv;rw [Tryz.func116];kernel_rfl) (Nat.le_of_ble_eq_true (by kernel_rfl)) (c0:=0) (Eq.mp (F116k2_eq g K X) h))
def H116k3:List (Nat×Hint):=[]
def J116k3:List (Nat×Hint):=[]
abbrev S116k3:List Sh:=[.leaf]
abbrev Q8:List Lf:=[.el .chg]
def kv116k3 (g:prodL Q8):prodL Q8:=(⟨3,g.1.file,g.1.typ,g.1.parent,g.1.name,g.1.mode,g.1.data,g.1.after,g.1.before,g.1.lines,g.1.over⟩,g.2)
def F116k3 (g:prodL Q8) (K:Kn):Prop:=
 qc.pre ([1],3,())/\
 bif decide (g.1.typ=0)then (
  qc.pre ([2,3,4,5,6],3,())/\
  qc.pre ([2],3,())/\
  bif qs g.1.parent iz then (
   bif decide (g.1.name=(⟨#[]⟩:ByteArray))then (
    qc.pre ([3],3,())/\
    qc.pre ([4],3,())/\
    bif decide (g.1.data=(⟨#[]⟩:ByteArray))then (
     qc.pre ([5,6],3,())/\
     bif qs g.1.after iz then (
      bif qs g.1.before iz then (
       qc.pre ([5],3,())/\
       bif decide ((g.1.lines.length:Int)=0)then (
        qc.pre ([2,3,4,6,7],3,())/\
        K (.bool true) [])
       else (
        K (.bool false) []))
      else (
       K (.bool false) []))
     else (
      K (.bool false) []))
    else (
     K (.bool false) []))
   else (
    K (.bool false) []))
  else (
   K (.bool false) []))
 else (
  K (.bool false) [])
theorem F116k3_eq (g:prodL Q8) (K X:Kn):F116k3 g K=qJ D (qk [] [(157,true,qc)]) (qx []) H116k3 J116k3 104 [.tmp 2] (qz Tryz.f116) (argsT S116k3 Q8 (kv116k3 g)) [] (settle0 K) X:=by kernel_rfl
theorem F116k3_ok (g:prodL Q8) (K X:Kn) (h:F116k3 g K):FCalls Tryz.prog 116 (argsT S116k3 Q8 (kv116k3 g)) [] K X:=
 FCalls.settle0 (qq (Γ:=qk [] [(157,true,qc)]) (mu:=qx []) (H:=H116k3) (J:=J116k3) qY (qV (rs:=[]) (l:=[(157,true,qc)]) (fun p hp=>by cases hp) (by intro p hp;simp only [List.mem_cons,List.not_mem_nil,or_false] at hp;subst hp;exact vC)) qj rfl Tryz.func116 (c:=qz Tryz.f116) rfl Tryz.ntmps116 Tryz.results116 (by unfold qv;rw [Tryz.func116];kernel_rfl) (Nat.le_of_ble_eq_true (by kernel_rfl)) (c0:=0) (Eq.mp (F116k3_eq g K X) h))
def H116k4:List (Nat×Hint):=[]
def J116k4:List (Nat×Hint):=[]
abbrev S116k4:List Sh:=[.leaf]
abbrev Qn:List Lf:=[.el .chg]
def kv116k4 (g:prodL Qn):prodL Qn:=(⟨4,g.1.file,g.1.typ,g.1.parent,g.1.name,g.1.mode,g.1.data,g.1.after,g.1.before,g.1.lines,g.1.over⟩,g.2)
def qqA (g:prodL Qn) (K:Kn):Prop:=
 qc.pre ([1],4,())/\
 bif decide (g.1.typ=0)then (
  qc.pre ([2,3,4,5,6],4,())/\
  qc.pre ([2],4,())/\
  bif qs g.1.parent iz then (
   bif decide (g.1.name=(⟨#[]⟩:ByteArray))then (
    qc.pre ([3],4,())/\
    bif decide (g.1.mode=0)then (
     qc.pre ([4],4,())/\
     qc.pre ([5,6],4,())/\
     bif qs g.1.after iz then (
      bif qs g.1.before iz then (
       qc.pre ([5],4,())/\
       bif decide ((g.1.lines.length:Int)=0)then (
        qc.pre ([2,3,4,6,7],4,())/\
        K (.bool true) [])
       else (
        K (.bool false) []))
      else (
       K (.bool false) []))
     else (
      K (.bool false) []))
    else (
     K (.bool false) []))
   else (
    K (.bool false) []))
  else (
   K (.bool false) []))
 else (
  K (.bool false) [])
theorem F116k4_eq (g:prodL Qn) (K X:Kn):qqA g K=qJ D (qk [] [(157,true,qc)]) (qx []) H116k4 J116k4 104 [.tmp 2] (qz Tryz.f116) (argsT S116k4 Qn (kv116k4 g)) [] (settle0 K) X:=by kernel_rfl
theorem F116k4_ok (g:prodL Qn) (K X:Kn) (h:qqA g K):FCalls Tryz.prog 116 (argsT S116k4 Qn (kv116k4 g)) [] K X:=
 FCalls.settle0 (qq (Γ:=qk [] [(157,true,qc)]) (mu:=qx []) (H:=H116k4) (J:=J116k4) qY (qV (rs:=[]) (l:=[(157,true,qc)]) (fun p hp=>by cases hp) (by intro p hp;simp only [List.mem_cons,List.not_mem_nil,or_false] at hp;subst hp;exact vC)) qj rfl Tryz.func116 (c:=qz Tryz.f116) rfl Tryz.ntmps116 Tryz.results116 (by unfold qv;rw [Tryz.func116];kernel_rfl) (Nat.le_of_ble_eq_true (by kernel_rfl)) (c0:=0) (Eq.mp (F116k4_eq g K X) h))
def H116k5:List (Nat×Hint):=[]
def J116k5:List (Nat×Hint):=[]
abbrev S116k5:List Sh:=[.leaf]
abbrev Qh:List Lf:=[.el .chg]
def kv116k5 (g:prodL Qh):prodL Qh:=(⟨5,g.1.file,g.1.typ,g.1.parent,g.1.name,g.1.mode,g.1.data,g.1.after,g.1.before,g.1.lines,g.1.over⟩,g.2)
def qqV (g:prodL Qh) (K:Kn):Prop:=
 qc.pre ([1],5,())/\
 bif decide (g.1.typ=0)then (
  qc.pre ([2,3,4,5,6],5,())/\
  qc.pre ([2],5,())/\
  bif qs g.1.parent iz then (
   bif decide (g.1.name=(⟨#[]⟩:ByteArray))then (
    qc.pre ([3],5,())/\
    bif decide (g.1.mode=0)then (
     qc.pre ([4],5,())/\
     bif decide (g.1.data=(⟨#[]⟩:ByteArray))then (
      qc.pre ([5,6],5,())/\
      qc.pre ([5],5,())/\
      qc.pre ([2,3,4,6,7],5,())/\
      K (.bool (decide ((g.1.over.length:Int)=0))) [])
     else (
      K (.bool false) []))
    else (
     K (.bool false) []))
   else (
    K (.bool false) []))
  else (
   K (.bool false) []))
 else (
  K (.bool false) [])
theorem F116k5_eq (g:prodL Qh) (K X:Kn):qqV g K=qJ D (qk [] [(157,true,qc)]) (qx []) H116k5 J116k5 104 [.tmp 2] (qz Tryz.f116) (argsT S116k5 Qh (kv116k5 g)) [] (settle0 K) X:=by kernel_rfl
theorem F116k5_ok (g:prodL Qh) (K X:Kn) (h:qqV g K):FCalls Tryz.prog 116 (argsT S116k5 Qh (kv116k5 g)) [] K X:=
 FCalls.settle0 (qq (Γ:=qk [] [(157,true,qc)]) (mu:=qx []) (H:=H116k5) (J:=J116k5) qY (qV (rs:=[]) (l:=[(157,true,qc)]) (fun p hp=>by cases hp) (by intro p hp;simp only [List.mem_cons,List.not_mem_nil,or_false] at hp;subst hp;exact vC)) qj rfl Tryz.func116 (c:=qz Tryz.f116) rfl Tryz.ntmps116 Tryz.results116 (by unfold qv;rw [Tryz.func116];kernel_rfl) (Nat.le_of_ble_eq_true (by kernel_rfl)) (c0:=0) (Eq.mp (F116k5_eq g K X) h))
def H116k6:List (Nat×Hint):=[]
def J116k6:List (Nat×Hint):=[]
abbrev S116k6:List Sh:=[.leaf]
abbrev QG:List Lf:=[.el .chg]
def kv116k6 (g:prodL QG):prodL QG:=(⟨6,g.1.file,g.1.typ,g.1.parent,g.1.name,g.1.mode,g.1.data,g.1.after,g.1.before,g.1.lines,g.1.over⟩,g.2)
def F116k6 (g:prodL QG) (K:Kn):Prop:=
 qc.pre ([1],6,())/\
 bif decide (g.1.typ=0)then (
  qc.pre ([2,3,4,5,6],6,())/\
  qc.pre ([2],6,())/\
  bif qs g.1.parent iz then (
   bif decide (g.1.name=(⟨#[]⟩:ByteArray))then (
    qc.pre ([3],6,())/\
    bif decide (g.1.mode=0)then (
     qc.pre ([4],6,())/\
     bif decide (g.1.data=(⟨#[]⟩:ByteArray))then (
      qc.pre ([5,6],6,())/\
      qc.pre ([5],6,())/\
      bif decide ((g.1.lines.length:Int)=0)then (
       qc.pre ([2,3,4,6,7],6,())/\
       K (.bool true) [])
      else (
       K (.bool false) []))
     else (
      K (.bool false) []))
    else (
     K (.bool false) []))
   else (
    K (.bool false) []))
  else (
   K (.bool false) []))
 else (
  K (.bool false) [])
theorem F116k6_eq (g:prodL QG) (K X:Kn):F116k6 g K=qJ D (qk [] [(157,true,qc)]) (qx []) H116k6 J116k6 104 [.tmp 2] (qz Tryz.f116) (argsT S116k6 QG (kv116k6 g)) [] (settle0 K) X:=by kernel_rfl
theorem F116k6_ok (g:prodL QG) (K X:Kn) (h:F116k6 g K):FCalls Tryz.prog 116 (argsT S116k6 QG (kv116k6 g)) [] K X:=
 FCalls.settle0 (qq (Γ:=qk [] [(157,true,qc)]) (mu:=qx []) (H:=H116k6) (J:=J116k6) qY (qV (rs:=[]) (l:=[(157,true,qc)]) (fun p hp=>by cases hp) (by intro p hp;simp only [List.mem_cons,List.not_mem_nil,or_false] at hp;subst hp;exact vC)) qj rfl Tryz.func116 (c:=qz Tryz.f116) rfl Tryz.ntmps116 Tryz.results116 (by unfold qv;rw [Tryz.func116];kernel_rfl) (Nat.le_of_ble_eq_true (by kernel_rfl)) (c0:=0) (Eq.mp (F116k6_eq g K X) h))
def H116k7:List (Nat×Hint):=[]
def J116k7:List (Nat×Hint):=[]
abbrev S116k7:List Sh:=[.leaf]
abbrev Q7:List Lf:=[.el .chg]
def kv116k7 (g:prodL Q7):prodL Q7:=(⟨7,g.1.file,g.1.typ,g.1.parent,g.1.name,g.1.mode,g.1.data,g.1.after,g.1.before,g.1.lines,g.1.over⟩,g.2)
def F116k7 (g:prodL Q7) (K:Kn):Prop:=
 qc.pre ([1],7,())/\
 bif decide (g.1.typ=0)then (
  qc.pre ([2,3,4,5,6],7,())/\
  bif qs g.1.file iz then (
   qc.pre ([2],7,())/\
   bif qs g.1.parent iz then (
    bif decide (g.1.name=(⟨#[]⟩:ByteArray))then (
     qc.pre ([3],7,())/\
     bif decide (g.1.mode=0)then (
      qc.pre ([4],7,())/\
      bif decide (g.1.data=(⟨#[]⟩:ByteArray))then (
       qc.pre ([5,6],7,())/\
       bif qs g.1.after iz then (
        bif qs g.1.before iz then (
         qc.pre ([5],7,())/\
         bif decide ((g.1.lines.length:Int)=0)then (
          qc.pre ([2,3,4,6,7],7,())/\
          K (.bool true) [])
         else (
          K (.bool false) []))
        else (
         K (.bool false) []))
       else (
        K (.bool false) []))
      else (
       K (.bool false) []))
     else (
      K (.bool false) []))
    else (
     K (.bool false) []))
   else (
    K (.bool false) []))
  else (
   K (.bool false) []))
 else (
  K (.bool false) [])
theorem F116k7_eq (g:prodL Q7) (K X:Kn):F116k7 g K=qJ D (qk [] [(157,true,qc)]) (qx []) H116k7 J116k7 104 [.tmp 2] (qz Tryz.f116) (argsT S116k7 Q7 (kv116k7 g)) [] (settle0 K) X:=by kernel_rfl
theorem F116k7_ok (g:prodL Q7) (K X:Kn) (h:F116k7 g K):FCalls Tryz.prog 116 (argsT S116k7 Q7 (kv116k7 g)) [] K X:=
 FCalls.settle0 (qq (Γ:=qk [] [(157,true,qc)]) (mu:=qx []) (H:=H116k7) (J:=J116k7) qY (qV (rs:=[]) (l:=[(157,true,qc)]) (fun p hp=>by cases hp) (by intro p hp;simp only [List.mem_cons,List.not_mem_nil,or_false] at hp;subst hp;exact vC)) qj rfl Tryz.func116 (c:=qz Tryz.f116) rfl Tryz.ntmps116 Tryz.results116 (by unfold qv;rw [Tryz.func116];kernel_rfl) (Nat.le_of_ble_eq_true (by kernel_rfl)) (c0:=0) (Eq.mp (F116k7_eq g K X) h))
end Go.Proofs.YtbglndogddddoaaGreatDoor
namespace Go.Proofs.YtbglndogddddoaaGreatDoor
open Go.RowKit
abbrev KI (K:Kn):Int->Prop:=fun v=>K (.int .i64 v) []
abbrev Ko (K:Kn):Bool->Prop:=fun v=>K (.bool v) []
theorem xF {α β:Type} {J:β->Prop} {f:β->α} {K:α->Prop} (hJ: ∀t,K (f t)->J t) {c:Bool} {a b:β} (h:K (f (bif c then a else b))):bif c then J a else J b:=by
 cases c
 . exact hJ _ h
 . exact hJ _ h
def wZ (c:Chg):Bool:=bif qs c.file iz then (bif decide (c.typ=0)then (bif qs c.parent iz then (bif decide (c.name=(⟨#[]⟩:ByteArray))then (bif decide (c.mode=0)then (bif decide (c.data=(⟨#[]⟩:ByteArray))then
 (bif qs c.after iz then (bif qs c.before iz then (bif decide ((c.lines.length:Int)=0)then decide ((c.over.length:Int)=0)else false)else false)else false)else false)else false)else false)else false)else false)else false
def rC9 (c:Chg):Chg:=bif decide (c.kind=1)then ⟨c.kind,c.file,0,c.parent,c.name,c.mode,c.data,c.after,c.before,c.lines,c.over⟩
 else bif decide (c.kind=2)then ⟨c.kind,c.file,c.typ,iz,⟨#[]⟩,c.mode,c.data,c.after,c.before,c.lines,c.over⟩
 else bif decide (c.kind=3)then ⟨c.kind,c.file,c.typ,c.parent,c.name,0,c.data,c.after,c.before,c.lines,c.over⟩
 else bif decide (c.kind=4)then ⟨c.kind,c.file,c.typ,c.parent,c.name,c.mode,⟨#[]⟩,c.after,c.before,c.lines,c.over⟩
 else bif decide (c.kind=5)then ⟨c.kind,c.file,c.typ,c.parent,c.name,c.mode,c.data,iz,iz,[],c.over⟩
 else bif decide (c.kind=6)then ⟨c.kind,c.file,c.typ,c.parent,c.name,c.mode,c.data,iz,iz,c.lines,c.over⟩else c
def rC5 (t:Bool) (c:Chg):Chg:=bif t then rC9 ⟨c.kind,c.file,c.typ,c.parent,c.name,c.mode,c.data,c.after,c.before,c.lines,[]⟩else rC9 c
def rC10 (c:Chg):Chg:=rC5 (bif !decide (c.kind=1)then !decide (c.kind=5)else false) c
def rC2 (t:Bool) (c:Chg):Chg:=bif t then rC10 ⟨c.kind,iz,c.typ,c.parent,c.name,c.mode,c.data,c.after,c.before,c.lines,c.over⟩else rC10 c
def yq (c:Chg):Chg:=rC2 (bif decide (2<=c.kind)then decide (c.kind<=6)else false) c
def wW (c:Chg):Bool:=bif decide (c.typ=0)then (bif qs c.file iz then (bif qs c.parent iz then (bif decide (c.name=(⟨#[]⟩:ByteArray))then (bif decide (c.mode=0)then (bif decide (c.data=(⟨#[]⟩:ByteArray))then
 (bif qs c.after iz then (bif qs c.before iz then (bif decide ((c.lines.length:Int)=0)then decide ((c.over.length:Int)=0)else false)else false)else false)else false)else false)else false)else false)else false)else false
theorem emptyT_eq (c:Chg):wW c=wZ c:=by
 unfold wW wZ
 cases decide (c.typ=0)<;>cases qs c.file iz<;>rfl
def jn (c:Chg):Bool:=wW (yq c)
def jk (c:Chg):Prop:=1<=c.kind/\c.kind<=7
theorem WI:qs iz iz=true:=by rw [Z8];exact decide_eq_true rfl
theorem F116k1_is {file:Idn} {typ:Int} {parent:Idn} {name:ByteArray} {mode:Int} {data:ByteArray} {after before:Idn} {lines:List ByteArray} {over:List Idn} {K:Kn} (h:K (.bool (jn ⟨1,file,typ,parent,name,mode,data,after,before,lines,over⟩)) []):qqu (⟨1,file,typ,parent,name,mode,data,after,before,lines,over⟩,()) K:=by
 revert h
 unfold qqu jn
 rw [show yq ⟨1,file,typ,parent,name,mode,data,after,before,lines,over⟩=⟨1,file,0,parent,name,mode,data,after,before,lines,over⟩ from rfl]
 unfold wW
 simp only [WI,decide_true,List.length_nil,Int.natCast_zero,Int.ofNat_zero,cond_true,cond_false]
 repeat' (first | exact id | (intro h;refine ⟨Nat.le_of_ble_eq_true rfl, ?_⟩;revert h) | refine qI (K:=Ko K) ?_ ?_)
theorem F116k2_is {file:Idn} {typ:Int} {parent:Idn} {name:ByteArray} {mode:Int} {data:ByteArray} {after before:Idn} {lines:List ByteArray} {over:List Idn} {K:Kn} (h:K (.bool (jn ⟨2,file,typ,parent,name,mode,data,after,before,lines,over⟩)) []):qzq (⟨2,file,typ,parent,name,mode,data,after,before,lines,over⟩,()) K:=by
 revert h
 unfold qzq jn
 rw [show yq ⟨2,file,typ,parent,name,mode,data,after,before,lines,over⟩=⟨2,iz,typ,iz,⟨#[]⟩,mode,data,after,before,lines,[]⟩ from rfl]
 unfold wW
 simp only [WI,decide_true,List.length_nil,Int.natCast_zero,Int.ofNat_zero,cond_true,cond_false]
 repeat' (first | exact id | (intro h;refine ⟨Nat.le_of_ble_eq_true rfl, ?_⟩;revert h) | refine qI (K:=Ko K) ?_ ?_)
theorem F116k3_is {file:Idn} {typ:Int} {parent:Idn} {name:ByteArray} {mode:Int} {data:ByteArray} {after before:Idn} {lines:List ByteArray} {over:List Idn} {K:Kn} (h:K (.bool (jn ⟨3,file,typ,parent,name,mode,data,after,before,lines,over⟩)) []):F116k3 (⟨3,file,typ,parent,name,mode,data,after,before,lines,over⟩,()) K:=by
 revert h
 unfold F116k3 jn
 rw [show yq ⟨3,file,typ,parent,name,mode,data,after,before,lines,over⟩=⟨3,iz,typ,parent,name,0,data,after,before,lines,[]⟩ from rfl]
 unfold wW
 simp only [WI,decide_true,List.length_nil,Int.natCast_zero,Int.ofNat_zero,cond_true,cond_false]
 repeat' (first | exact id | (intro h;refine ⟨Nat.le_of_ble_eq_true rfl, ?_⟩;revert h) | refine qI (K:=Ko K) ?_ ?_)
theorem F116k4_is {file:Idn} {typ:Int} {parent:Idn} {name:ByteArray} {mode:Int} {data:ByteArray} {after before:Idn} {lines:List ByteArray} {over:List Idn} {K:Kn} (h:K (.bool (jn ⟨4,file,typ,parent,name,mode,data,after,before,lines,over⟩)) []):qqA (⟨4,file,typ,parent,name,mode,data,after,before,lines,over⟩,()) K:=by
 revert h
 unfold qqA jn
 rw [show yq ⟨4,file,typ,parent,name,mode,data,after,before,lines,over⟩=⟨4,iz,typ,parent,name,mode,⟨#[]⟩,after,before,lines,[]⟩ from rfl]
 unfold wW
 simp only [WI,decide_true,List.length_nil,Int.natCast_zero,Int.ofNat_zero,cond_true,cond_false]
 repeat' (first | exact id | (intro h;refine ⟨Nat.le_of_ble_eq_true rfl, ?_⟩;revert h) | refine qI (K:=Ko K) ?_ ?_)
theorem F116k5_is {file:Idn} {typ:Int} {parent:Idn} {name:ByteArray} {mode:Int} {data:ByteArray} {after before:Idn} {lines:List ByteArray} {over:List Idn} {K:Kn} (h:K (.bool (jn ⟨5,file,typ,parent,name,mode,data,after,before,lines,over⟩)) []):qqV (⟨5,file,typ,parent,name,mode,data,after,before,lines,over⟩,()) K:=by
 revert h
 unfold qqV jn
 rw [show yq ⟨5,file,typ,parent,name,mode,data,after,before,lines,over⟩=⟨5,iz,typ,parent,name,mode,data,iz,iz,[],over⟩ from rfl]
 unfold wW
 simp only [WI,decide_true,List.length_nil,Int.natCast_zero,Int.ofNat_zero,cond_true,cond_false]
 repeat' (first | exact id | (intro h;refine ⟨Nat.le_of_ble_eq_true rfl, ?_⟩;revert h) | refine qI (K:=Ko K) ?_ ?_)
theorem F116k6_is {file:Idn} {typ:Int} {parent:Idn} {name:ByteArray} {mode:Int} {data:ByteArray} {after before:Idn} {lines:List ByteArray} {over:List Idn} {K:Kn} (h:K (.bool (jn ⟨6,file,typ,parent,name,mode,data,after,before,lines,over⟩)) []):F116k6 (⟨6,file,typ,parent,name,mode,data,after,before,lines,over⟩,()) K:=by
 revert h
 unfold F116k6 jn
 rw [show yq ⟨6,file,typ,parent,name,mode,data,after,before,lines,over⟩=⟨6,iz,typ,parent,name,mode,data,iz,iz,lines,[]⟩ from rfl]
 unfold wW
 simp only [WI,decide_true,List.length_nil,Int.natCast_zero,Int.ofNat_zero,cond_true,cond_false]
 repeat' (first | exact id | (intro h;refine ⟨Nat.le_of_ble_eq_true rfl, ?_⟩;revert h) | refine qI (K:=Ko K) ?_ ?_)
theorem F116k7_is {file:Idn} {typ:Int} {parent:Idn} {name:ByteArray} {mode:Int} {data:ByteArray} {after before:Idn} {lines:List ByteArray} {over:List Idn} {K:Kn} (h:K (.bool (jn ⟨7,file,typ,parent,name,mode,data,after,before,lines,over⟩)) []):F116k7 (⟨7,file,typ,parent,name,mode,data,after,before,lines,over⟩,()) K:=by
 revert h
 unfold F116k7 jn
 rw [show yq ⟨7,file,typ,parent,name,mode,data,after,before,lines,over⟩=⟨7,file,typ,parent,name,mode,data,after,before,lines,[]⟩ from rfl]
 unfold wW
 simp only [WI,decide_true,List.length_nil,Int.natCast_zero,Int.ofNat_zero,cond_true,cond_false]
 repeat' (first | exact id | (intro h;refine ⟨Nat.le_of_ble_eq_true rfl, ?_⟩;revert h) | refine qI (K:=Ko K) ?_ ?_)
def sp116:Sp:=⟨S116k1,kV,fun g=>jk g.1,fun g=> .bool (jn g.1),fun _=>none⟩
set_option maxRecDepth 100000 in
theorem sp116_ok:sp116.Ok Tryz.prog 116 true:=
 ⟨fun g K X hp h=>by
  obtain ⟨⟨kind,file,typ,parent,name,mode,data,after,before,lines,over⟩,⟨⟩⟩:=g
  have hk1:(1:Int)<=kind/\kind<=7:=hp
  have:kind=1∨kind=2∨kind=3∨kind=4∨kind=5∨kind=6∨kind=7:=by omega
  rcases this with rfl | rfl | rfl | rfl | rfl | rfl | rfl
  . exact F116k1_ok (⟨1,file,typ,parent,name,mode,data,after,before,lines,over⟩,()) K X (F116k1_is h)
  . exact F116k2_ok (⟨2,file,typ,parent,name,mode,data,after,before,lines,over⟩,()) K X (F116k2_is h)
  . exact F116k3_ok (⟨3,file,typ,parent,name,mode,data,after,before,lines,over⟩,()) K X (F116k3_is h)
  . exact F116k4_ok (⟨4,file,typ,parent,name,mode,data,after,before,lines,over⟩,()) K X (F116k4_is h)
  . exact F116k5_ok (⟨5,file,typ,parent,name,mode,data,after,before,lines,over⟩,()) K X (F116k5_is h)
  . exact F116k6_ok (⟨6,file,typ,parent,name,mode,data,after,before,lines,over⟩,()) K X (F116k6_is h)
  . exact F116k7_ok (⟨7,file,typ,parent,name,mode,data,after,before,lines,over⟩,()) K X (F116k7_is h)
  ,fun _ _ _=>rfl,fun _=>rfl,fun _ _=>⟨rfl,rfl⟩⟩
def az:Atm:=⟨iz,0,iz,0,iz,⟨#[]⟩,0,⟨#[]⟩,⟨#[]⟩,iz,iz,[]⟩
def cz:Chg:=⟨0,iz,0,iz,⟨#[]⟩,0,⟨#[]⟩,iz,iz,[],[]⟩
def nilT:T->T
 | .sl _ _ _=> .nil
 | x=>x
def nilE (e:El) (x:ty e):List T:=(enc e x).map nilT
def errs:List Int->Int
 | []=>0
 | e::l=>bif decide (e=0)then errs l else e
theorem Xp: ∀(l m:List Int),errs (l++m)=bif decide (errs l=0)then errs m else errs l
 | [],m=>rfl
 | e::l,m=>by
  rw [List.cons_append,errs,errs,Xp l m]
  cases h:decide (e=0)
  . rw [cond_false,cond_false,h,cond_false]
  . rw [cond_true,cond_true]
theorem qQ.errs {γ:Type} {body:(γ->Prop)->γ->Prop} {g:γ} (l:List Int) (S:Nat->γ) (Q:Int->Prop) (hQ:Q (errs l)) (hg:g=S 0)
  (step: ∀(W:γ->Prop) (n:Nat) (h:n<l.length),(l[n]=0->W (S (n+1)))->(l[n]≠0->Q l[n])->body W (S n)) (last:Q 0-> ∀W:γ->Prop,body W (S l.length)):qQ body g:=by
 refine qQ.countTo l.length S (fun n=>Q (Go.Proofs.YtbglndogddddoaaGreatDoor.errs (l.drop n))) hg (fun n hn hp W hW=> ?_) (by simpa using hQ)
 by_cases hlt:n<l.length
 . rw [List.drop_eq_getElem_cons hlt,Go.Proofs.YtbglndogddddoaaGreatDoor.errs] at hp
   refine step W n hlt (fun h=> ?_) fun h=> ?_
   . rw [decide_eq_true h,cond_true] at hp
     exact hW hlt hp
   . rw [decide_eq_false h,cond_false] at hp
     exact hp
 . have:n=l.length:=by omega
   subst this
   rw [List.drop_length] at hp
   exact last hp W
def errsN (N:Nat) (f:Nat->Int):Int:=errs ((List.range N).map f)
theorem qQ.errsN {γ:Type} {body:(γ->Prop)->γ->Prop} {g:γ} (N:Nat) (f:Nat->Int) (S:Nat->γ) (Q:Int->Prop) (hQ:Q (errsN N f)) (hg:g=S 0)
  (step: ∀(W:γ->Prop) (n:Nat),n<N->(f n=0->W (S (n+1)))->(f n≠0->Q (f n))->body W (S n)) (last:Q 0-> ∀W:γ->Prop,body W (S N)):qQ body g:=by
 have hl:((List.range N).map f).length=N:=by simp
 refine qQ.errs ((List.range N).map f) S Q hQ hg (fun W n h h1 h2=> ?_) (by rw [hl];exact last)
 simp only [List.getElem_map,List.getElem_range] at h1 h2
 exact step W n (by omega) h1 h2
theorem Xk {N:Nat} {f f':Nat->Int} (h: ∀n,n<N->f n=f' n):errsN N f=errsN N f':=by
 unfold errsN
 rw [List.map_congr_left fun n hn=>h n (List.mem_range.1 hn)]
theorem qqz: ∀{l:List Int},errs l=0↔ ∀e∈l,e=0
 | []=>by simp [errs]
 | e::l=>by
  rw [errs]
  by_cases h:e=0
  . rw [decide_eq_true h,cond_true,qqz]
    simp [h]
  . rw [decide_eq_false h,cond_false]
    simp [h]
theorem errsN_zero {N:Nat} {f:Nat->Int}:errsN N f=0↔ ∀n,n<N->f n=0:=by
 unfold errsN
 rw [qqz]
 simp
def depE (cmp:Dig->Dig->Int) (ds:List Dig) (n:Nat):Int:=match ds[n]? with
 | none=>0
 | some d=>bif zk d dz then 1 else bif decide (0<n)then (match ds[n-1]? with
  | none=>0
  | some c=>bif decide (0<=cmp c d)then 9 else 0)else 0
def depsE (cmp:Dig->Dig->Int) (ds:List Dig):Int:=errsN ds.length (depE cmp ds)
def jy (cmp:Dig->Dig->Int) (ds:List Dig):Int:=bif decide (100< (ds.length:Int))then 4 else depsE cmp ds
def zP (cmp:Dig->Dig->Int) (a m:ByteArray) (t:Int) (ds:List Dig) (cs:List Chg):Int:=
 bif !(xk a)then 5 else bif decide (1000< (m.size:Int))then 4 else bif (bif decide (t<0)then true else decide (1099511627776<t))then 2 else
 bif !decide (jy cmp ds=0)then jy cmp ds else bif decide ((cs.length:Int)=0)then 1 else bif decide (400< (cs.length:Int))then 4 else 0
def We (cmp:Idn->Idn->Int) (l:List Idn) (n:Nat):Int:=match l[n]?,l[n+1]? with
 | some a,some b=>bif decide (0<=cmp a b)then 9 else 0
 | _,_=>0
def vu (cmp:Idn->Idn->Int) (l:List Idn):Int:=errsN (l.length-1) (We cmp l)
def ascI (l:List Idn):Bool:=decide (vu idI l=0)
def lineE (l:List ByteArray) (n:Nat):Int:=match l[n]? with
 | some s=>bif !(wu s)then 3 else 0
 | none=>0
def ZB (l:List ByteArray):Int:=errsN l.length (lineE l)
def J9 (l:List ByteArray):Int:=bif decide ((l.length:Int)=0)then 1 else bif decide (2000< (l.length:Int))then 4 else ZB l
def fR10 (t:Bool) (c:Chg):Int:=bif t then 1 else bif decide (400< (c.over.length:Int))then 4 else bif !(ascI c.over)then 9 else 0
def fR8 (t:Bool) (c:Chg):Int:=bif t then 2 else bif decide (65536< (c.data.size:Int))then 4 else bif decide (c.kind=5)then J9 c.lines else fR10 (bif decide (c.kind=7)then decide ((c.over.length:Int)=0)else false) c
def fR6 (t:Bool) (c:Chg):Int:=bif t then 5 else fR8 (bif decide (c.kind=3)then (bif decide (c.mode<0)then true else decide (511<c.mode))else false) c
def fR4 (t:Bool) (c:Chg):Int:=bif t then 8 else fR6 (bif decide (c.kind=2)then !(xk c.name)else false) c
def fR2 (t:Bool) (c:Chg):Int:=bif t then 8 else bif !(wZ (yq c))then 1 else fR4 (bif decide (c.kind=1)then (bif decide (c.typ<1)then true else decide (4<c.typ))else false) c
def jH (c:Chg):Int:=fR2 (bif decide (c.kind<1)then true else decide (7<c.kind)) c
def fP15 (t:Bool) (c:Chg):Int:=bif t then 1 else bif decide (400< (c.over.length:Int))then 4 else vu idC c.over
def fP12 (c:Chg):Int:=bif !decide (ZB c.lines=0)then ZB c.lines else fP15 (bif decide (c.kind=7)then decide ((c.over.length:Int)=0)else false) c
def fP6 (t:Bool) (c:Chg):Int:=bif t then 1 else bif decide (2000< (c.lines.length:Int))then 4 else fP12 c
def fP7 (t:Bool) (c:Chg):Int:=bif t then 2 else bif decide (65536< (c.data.size:Int))then 4 else fP6 (bif decide (c.kind=5)then decide ((c.lines.length:Int)=0)else false) c
def fP8 (t:Bool) (c:Chg):Int:=bif t then 5 else fP7 (bif decide (c.mode<0)then true else decide (511<c.mode)) c
def fP9 (t:Bool) (c:Chg):Int:=bif t then 8 else fP8 (bif decide (c.kind=2)then !(xk c.name)else false) c
def fP10 (t:Bool) (c:Chg):Int:=bif t then 8 else bif !(jn c)then 1 else fP9 (bif decide (c.kind=1)then (bif decide (c.typ<1)then true else decide (4<c.typ))else false) c
def zo (c:Chg):Int:=fP10 (bif decide (c.kind<1)then true else decide (7<c.kind)) c
def alwB (x:Idn) (n:Int):Bool:=bif zk x.patch dz then (bif decide (0<=x.n)then decide (x.n<n)else false)else bif decide (0<=x.n)then decide (x.n<100000)else false
def jp (x:Idn) (own:List Atm) (fits:Bool):Int:=bif !(alwB x (own.length:Int))then 7 else bif (bif zk x.patch dz then !fits else false)then 8 else 0
def vv (own:List Atm) (x:Idn):Atm:=bif (bif zk x.patch dz then (bif decide (0<=x.n)then decide (x.n< (own.length:Int))else false)else false)then own.getD x.n.toNat az else az
def QU (own:List Atm) (f x:Idn):Bool:=bif qs x f then true else Kz f (vv own x)
def KW (c:Chg):Int:=bif (bif decide (c.kind=2)then qs c.parent c.file else false)then 20 else
 bif (bif kn c.kind then (bif qs c.after c.before then (bif decide (c.kind=6)then true else !(qs c.after c.file))else false)else false)then 1 else 0
def Zz (c:Chg) (own:List Atm):List Int:=c.over.map fun x=>jp x own (ZZ c.kind c.file (vv own x))
def rF25 (own:List Atm) (c:Chg):Int:=bif !decide (errs (Zz c own)=0)then errs (Zz c own)else KW c
def rF26 (own:List Atm) (c:Chg):Int:=bif kn c.kind then (bif !decide (jp c.after own (QU own c.file c.after)=0)then jp c.after own (QU own c.file c.after)else
 bif !decide (jp c.before own (QU own c.file c.before)=0)then jp c.before own (QU own c.file c.before)else rF25 own c)else rF25 own c
def rF6 (own:List Atm) (e:Int) (c:Chg):Int:=bif !decide (e=0)then e else rF26 own c
def rF7 (own:List Atm) (t:Bool) (c:Chg):Int:=bif t then rF6 own (jp c.parent own (bif decide ((vv own c.parent).kind=1)then decide ((vv own c.parent).typ=4)else false)) c else rF26 own c
def rF27 (own:List Atm) (c:Chg):Int:=rF7 own (bif decide (c.kind=2)then !(qs c.parent ⟨dz, -1⟩)else false) c
def rF1 (own:List Atm) (c:Chg):Int:=bif !decide (jp c.file own (yt c.kind (vv own c.file))=0)then jp c.file own (yt c.kind (vv own c.file))else rF27 own c
def rF2 (own:List Atm) (t:Bool) (c:Chg):Int:=bif t then rF1 own c else rF27 own c
def QZ (c:Chg) (own:List Atm):Int:=rF2 own (bif decide (2<=c.kind)then decide (c.kind<=6)else false) c
def wl (c:Chg):Prop:=qr c<=4194304
theorem ZI {α:Type} (f:α->Nat): ∀{l:List α} {x:α},x∈l->f x<=(l.map f).sum
 | y::l,x,h=>by
  rw [List.map_cons,List.sum_cons]
  rcases List.mem_cons.1 h with rfl | h
  . omega
  . have:=ZI f h;omega
theorem yb {α:Type} (f:α->Nat) (k:Nat): ∀(l:List α),(∀x∈l,k<=f x)->k*l.length<=(l.map f).sum
 | [],_=>by simp
 | y::l,h=>by
  rw [List.map_cons,List.sum_cons,List.length_cons,Nat.mul_succ]
  have:=yb f k l fun x hx=>h x (List.mem_cons_of_mem _ hx)
  have:=h y (List.mem_cons_self ..)
  omega
theorem zV {c:Chg} (h:wl c):c.name.size<=4194304/\c.data.size<=4194304/\c.lines.length<=4194304/\(∀s∈c.lines,s.size<=4194304)/\c.over.length<=4194304:=by
 unfold wl qr at h
 have h1:=yb ja 1 c.lines fun x _=>by unfold ja;omega
 have h2:=yb yQ 33 c.over fun x _=>Nat.le_refl _
 refine ⟨by omega,by omega,by omega,fun s hs=> ?_,by omega⟩
 have:=ZI ja hs
 have e:ja s=s.size+1:=rfl
 omega
end Go.Proofs.YtbglndogddddoaaGreatDoor
namespace Go.Proofs.YtbglndogddddoaaGreatDoor
open Go.RowKit
attribute [local irreducible] qJ qd
set_option maxRecDepth 100000
def H72:List (Nat×Hint):=[(4,⟨[],[(0, .leaf),(3, .leaf)],[],[.sl .dig, .int .i64]⟩)]
def J72:List (Nat×Hint):=[(9,⟨[],[(0, .leaf),(3, .leaf),(32, .leaf)],[],[.sl .dig, .int .i64, .bool]⟩)]
abbrev S72:List Sh:=[.leaf]
abbrev L72:List Lf:=[.sl .dig]
def WQ (K:Kn) (W2:prodL [.sl .dig, .int .i64]->Prop) (l_6:List Dig) (i_6:Int) (t_6:Bool):Prop:=
 bif t_6 then (
  K (.int .i64 9) [])
 else (
  W2 (l_6,IntKind.i64.wrap (i_6+1),()))
def V5 (K:Kn) (W2:prodL [.sl .dig, .int .i64]->Prop) (l_1:List Dig) (i_1:Int):Prop:=
 bif decide (i_1< (l_1.length:Int))then (
  At l_1 i_1 fun u3=>
 True/\
 bif zk u3 dz then (
  K (.int .i64 1) [])
 else (
  bif decide (0<i_1)then (
  At l_1 (IntKind.i64.wrap (i_1-1)) fun u4=>
  At l_1 i_1 fun u5=>
  True/\
  WQ K W2 l_1 i_1 (decide (0<=ju u4 u5)))
 else (
  WQ K W2 l_1 i_1 false)))
 else (
  K (.int .i64 0) [])
def F72_L2 (K:Kn) (g:prodL [.sl .dig, .int .i64]):Prop:=
 qQ (γ:=prodL [.sl .dig, .int .i64]) (fun V y=>V5 K V y.1 y.2.1) g
def F72 (g:prodL L72) (K:Kn):Prop:=
 bif decide (100< (g.1.length:Int))then (
  K (.int .i64 4) [])
 else (
  F72_L2 K (g.1,0,()))
theorem F72_eq (g:prodL L72) (K X:Kn):F72 g K=qJ D (qk [] [(123,true,QY),(124,true,sp124)]) (qx []) H72 J72 33 [.tmp 2] (qz Tryz.f72) (argsT S72 L72 g) [] (settle0 K) X:=by kernel_rfl
theorem F72_ok (g:prodL L72) (K X:Kn) (h:F72 g K):FCalls Tryz.prog 72 (argsT S72 L72 g) [] K X:=
 FCalls.settle0 (qq qY (jq (zq kB (zq sp124_ok z8))) qj rfl Tryz.func72 (c:=qz Tryz.f72) rfl Tryz.ntmps72 Tryz.results72 (by unfold qv;rw [Tryz.func72];kernel_rfl) (Nat.le_of_ble_eq_true (by kernel_rfl)) (c0:=0) (Eq.mp (F72_eq g K X) h))
def H67:List (Nat×Hint):=[(10,⟨[((1,[]),none)],[(1, .pt 0 0),(31, .leaf),(32, .leaf),(33, .leaf)],[.cells [.leaf, .leaf, .leaf, .leaf, .leaf]],[.sl .dig, .int .i64, .int .i64, .str, .str, .int .i64, .sl .dig, .sl .chg]⟩)]
def J67:List (Nat×Hint):=[(6,⟨[((1,[]),none)],[(1, .pt 0 0),(16, .leaf)],[.cells [.leaf, .leaf, .leaf, .leaf, .leaf]],[.bool, .str, .str, .int .i64, .sl .dig, .sl .chg]⟩),(15,⟨[((1,[]),none)],[(1, .pt 0 0),(31, .leaf),(32, .leaf),(33, .leaf),(53, .leaf)],[.cells [.leaf, .leaf, .leaf, .leaf, .leaf]],[.sl .dig, .int .i64, .int .i64, .bool, .str, .str, .int .i64, .sl .dig, .sl .chg]⟩)]
abbrev S67:List Sh:=[.ag [.leaf, .leaf, .leaf, .leaf, .leaf]]
abbrev L67:List Lf:=[.str, .str, .int .i64, .sl .dig, .sl .chg]
def Vf (K:Kn) (W4:prodL [.sl .dig, .int .i64, .int .i64, .str, .str, .int .i64, .sl .dig, .sl .chg]->Prop) (t_7:List Dig) (t2_7 t3_7:Int) (t4_7:Bool) (p1_7 p2_7:ByteArray) (p3_7:Int) (p4_7:List Dig) (p5_7:List Chg):Prop:=
 bif t4_7 then (
  K (.int .i64 9) [])
 else (
  W4 (t_7,t2_7,IntKind.i64.wrap (t3_7+1),p1_7,p2_7,p3_7,p4_7,p5_7,()))
def Yc (K:Kn) (W4:prodL [.sl .dig, .int .i64, .int .i64, .str, .str, .int .i64, .sl .dig, .sl .chg]->Prop) (t_3:List Dig) (t2_3 t3_3:Int) (p1_3 p2_3:ByteArray) (p3_3:Int) (p4_3:List Dig) (p5_3:List Chg):Prop:=
 bif decide (t3_3<t2_3)then (
  At t_3 t3_3 fun u5=>
 bif zk u5 dz then (
  K (.int .i64 1) [])
 else (
  bif decide (0<t3_3)then (
  At p4_3 (IntKind.i64.wrap (t3_3-1)) fun u6=>
  True/\
  Vf K W4 t_3 t2_3 t3_3 (decide (0<=zG u6 u5)) p1_3 p2_3 p3_3 p4_3 p5_3)
 else (
  Vf K W4 t_3 t2_3 t3_3 false p1_3 p2_3 p3_3 p4_3 p5_3)))
 else (
  bif decide ((p5_3.length:Int)=0)then (
  K (.int .i64 1) [])
 else (
  bif decide (400< (p5_3.length:Int))then (
   K (.int .i64 4) [])
  else (
   K (.int .i64 0) [])))
def F67_L4 (K:Kn) (g:prodL [.sl .dig, .int .i64, .int .i64, .str, .str, .int .i64, .sl .dig, .sl .chg]):Prop:=
 qQ (γ:=prodL [.sl .dig, .int .i64, .int .i64, .str, .str, .int .i64, .sl .dig, .sl .chg]) (fun V y=>Yc K V y.1 y.2.1 y.2.2.1 y.2.2.2.1 y.2.2.2.2.1 y.2.2.2.2.2.1 y.2.2.2.2.2.2.1 y.2.2.2.2.2.2.2.1) g
def YK (K:Kn) (t_1:Bool) (p1_1 p2_1:ByteArray) (p3_1:Int) (p4_1:List Dig) (p5_1:List Chg):Prop:=
 bif t_1 then (
    K (.int .i64 2) [])
   else (
    bif decide (100< (p4_1.length:Int))then (
     K (.int .i64 4) [])
    else (
     F67_L4 K (p4_1,(p4_1.length:Int),0,p1_1,p2_1,p3_1,p4_1,p5_1,())))
def F67 (g:prodL L67) (K:Kn):Prop:=
 sp115.pre (g.1,())/\
 bif !(xk g.1)then (
  K (.int .i64 5) [])
 else (
  bif decide (1000< (g.2.1.size:Int))then (
   K (.int .i64 4) [])
  else (
   bif decide (g.2.2.1<0)then (
    YK K true g.1 g.2.1 g.2.2.1 g.2.2.2.1 g.2.2.2.2.1)
   else (
    YK K (decide (1099511627776<g.2.2.1)) g.1 g.2.1 g.2.2.1 g.2.2.2.1 g.2.2.2.2.1)))
theorem F67_eq (g:prodL L67) (K X:Kn):F67 g K=qJ D (qk [] [(18,true,sp18),(115,true,sp115)]) (qx []) H67 J67 64 [.tmp 2] (qz Tryz.f67) (argsT S67 L67 g) [] (settle0 K) X:=by kernel_rfl
theorem F67_ok (g:prodL L67) (K X:Kn) (h:F67 g K):FCalls Tryz.prog 67 (argsT S67 L67 g) [] K X:=
 FCalls.settle0 (qq qY (jq (zq sp18_ok (zq sp115_ok z8))) qj rfl Tryz.func67 (c:=qz Tryz.f67) rfl Tryz.ntmps67 Tryz.results67 (by unfold qv;rw [Tryz.func67];kernel_rfl) (Nat.le_of_ble_eq_true (by kernel_rfl)) (c0:=0) (Eq.mp (F67_eq g K X) h))
def H175:List (Nat×Hint):=[(6,⟨[],[(0, .leaf),(3, .leaf)],[],[.sl .str, .int .i64]⟩)]
def J175:List (Nat×Hint):=[]
abbrev S175:List Sh:=[.leaf]
abbrev L175:List Lf:=[.sl .str]
def Z3 (K:Kn) (W2:prodL [.sl .str, .int .i64]->Prop) (l_1:List ByteArray) (i_1:Int):Prop:=
 bif decide (i_1< (l_1.length:Int))then (
  At l_1 i_1 fun u3=>
 sp213.pre (u3,())/\
 bif !(wu u3)then (
  K (.int .i64 3) [])
 else (
  W2 (l_1,IntKind.i64.wrap (i_1+1),())))
 else (
  K (.int .i64 0) [])
def F175_L2 (K:Kn) (g:prodL [.sl .str, .int .i64]):Prop:=
 qQ (γ:=prodL [.sl .str, .int .i64]) (fun V y=>Z3 K V y.1 y.2.1) g
def F175 (g:prodL L175) (K:Kn):Prop:=
 bif decide ((g.1.length:Int)=0)then (
  K (.int .i64 1) [])
 else (
  bif decide (2000< (g.1.length:Int))then (
  K (.int .i64 4) [])
 else (
  F175_L2 K (g.1,0,())))
theorem F175_eq (g:prodL L175) (K X:Kn):F175 g K=qJ D (qk [] [(213,true,sp213)]) (qx []) H175 J175 22 [.tmp 2] (qz Tryz.f175) (argsT S175 L175 g) [] (settle0 K) X:=by kernel_rfl
theorem F175_ok (g:prodL L175) (K X:Kn) (h:F175 g K):FCalls Tryz.prog 175 (argsT S175 L175 g) [] K X:=
 FCalls.settle0 (qq (Γ:=qk [] [(213,true,sp213)]) (mu:=qx []) (H:=H175) (J:=J175) qY (qV (rs:=[]) (l:=[(213,true,sp213)]) (fun p hp=>by cases hp) (by intro p hp;simp only [List.mem_cons,List.not_mem_nil,or_false] at hp;subst hp;exact sp213_ok)) qj rfl Tryz.func175 (c:=qz Tryz.f175) rfl Tryz.ntmps175 Tryz.results175 (by unfold qv;rw [Tryz.func175];kernel_rfl) (Nat.le_of_ble_eq_true (by kernel_rfl)) (c0:=0) (Eq.mp (F175_eq g K X) h))
def H173:List (Nat×Hint):=[]
def J173:List (Nat×Hint):=[]
abbrev S173:List Sh:=[.leaf]
abbrev L173:List Lf:=[.el .chg]
def F173 (g:prodL L173) (K:Kn):Prop:=
 True/\
 bif qs g.1.file iz then (
  bif decide (g.1.typ=0)then (
   True/\
   bif qs g.1.parent iz then (
    bif decide (g.1.name=(⟨#[]⟩:ByteArray))then (
     bif decide (g.1.mode=0)then (
      bif decide (g.1.data=(⟨#[]⟩:ByteArray))then (
       True/\
       bif qs g.1.after iz then (
        True/\
        bif qs g.1.before iz then (
         bif decide ((g.1.lines.length:Int)=0)then (
          K (.bool (decide ((g.1.over.length:Int)=0))) [])
         else (
          K (.bool false) []))
        else (
         K (.bool false) []))
       else (
        K (.bool false) []))
      else (
       K (.bool false) []))
     else (
      K (.bool false) []))
    else (
     K (.bool false) []))
   else (
    K (.bool false) []))
  else (
   K (.bool false) []))
 else (
  K (.bool false) [])
theorem F173_eq (g:prodL L173) (K X:Kn):F173 g K=qJ D (qk [] [(212,false,Vc)]) (qx []) H173 J173 57 [.tmp 2] (qz Tryz.f173) (argsT S173 L173 g) [] (settle0 K) X:=by kernel_rfl
theorem F173_ok (g:prodL L173) (K X:Kn) (h:F173 g K):FCalls Tryz.prog 173 (argsT S173 L173 g) [] K X:=
 FCalls.settle0 (qq (Γ:=qk [] [(212,false,Vc)]) (mu:=qx []) (H:=H173) (J:=J173) qY (qV (rs:=[]) (l:=[(212,false,Vc)]) (fun p hp=>by cases hp) (by intro p hp;simp only [List.mem_cons,List.not_mem_nil,or_false] at hp;subst hp;exact sp212_ok)) qj rfl Tryz.func173 (c:=qz Tryz.f173) rfl Tryz.ntmps173 Tryz.results173 (by unfold qv;rw [Tryz.func173];kernel_rfl) (Nat.le_of_ble_eq_true (by kernel_rfl)) (c0:=0) (Eq.mp (F173_eq g K X) h))
def sp173:Sp:=⟨S173,L173,fun _=>True,fun g=> .bool (wZ g.1),fun _=>none⟩
theorem sp173_ok:sp173.Ok Tryz.prog 173 true:=
 ⟨fun g K X hp h=>F173_ok g K X (by
  have h:K (.bool (wZ g.1)) []:=h
  revert h;unfold F173 wZ;show (fun v=>K (.bool v) []) _->_
  repeat' (first | exact id | refine qI (K:=fun v=>K (.bool v) []) ?_ ?_ | (intro h;refine ⟨trivial, ?_⟩;revert h))),fun _ _ _=>rfl,fun _=>rfl,by first | exact fun _ _=>⟨rfl,rfl⟩ | (intro h;cases h)⟩
def H178:List (Nat×Hint):=[]
def J178:List (Nat×Hint):=[]
abbrev S178:List Sh:=[.leaf, .leaf]
abbrev L178:List Lf:=[.int .i64, .el .atm]
def F178 (g:prodL L178) (K:Kn):Prop:=
 bif !decide (g.2.1.kind=1)then (
  K (.bool false) [])
 else (
  True/\
 bif kn g.1 then (
  K (.bool (decide (g.2.1.typ=1))) [])
 else (
  bif !decide (g.1=4)then (
  K (.bool true) [])
 else (
  bif decide (g.2.1.typ=2)then (
   K (.bool true) [])
  else (
   K (.bool (decide (g.2.1.typ=3))) []))))
theorem F178_eq (g:prodL L178) (K X:Kn):F178 g K=qJ D (qk [] [(180,false,sp180)]) (qx []) H178 J178 25 [.tmp 4] (qz Tryz.f178) (argsT S178 L178 g) [] (settle0 K) X:=by kernel_rfl
theorem F178_ok (g:prodL L178) (K X:Kn) (h:F178 g K):FCalls Tryz.prog 178 (argsT S178 L178 g) [] K X:=
 FCalls.settle0 (qq (Γ:=qk [] [(180,false,sp180)]) (mu:=qx []) (H:=H178) (J:=J178) qY (qV (rs:=[]) (l:=[(180,false,sp180)]) (fun p hp=>by cases hp) (by intro p hp;simp only [List.mem_cons,List.not_mem_nil,or_false] at hp;subst hp;exact sp180_ok)) qj rfl Tryz.func178 (c:=qz Tryz.f178) rfl Tryz.ntmps178 Tryz.results178 (by unfold qv;rw [Tryz.func178];kernel_rfl) (Nat.le_of_ble_eq_true (by kernel_rfl)) (c0:=0) (Eq.mp (F178_eq g K X) h))
def sp178:Sp:=⟨S178,L178,fun _=>True,fun g=> .bool (yt g.1 g.2.1),fun _=>none⟩
theorem sp178_ok:sp178.Ok Tryz.prog 178 true:=
 ⟨fun g K X hp h=>F178_ok g K X (by
  have h:K (.bool (yt g.1 g.2.1)) []:=h
  unfold F178
  unfold yt at h
  revert h
  cases decide (g.2.1.kind=1)
  . exact id
  . intro h
    refine ⟨trivial, ?_⟩
    show bif kn g.1 then _ else _
    change Ko K (bif kn g.1 then _ else _)at h
    revert h
    exact qI (K:=Ko K) id (qI (K:=Ko K) id (qI (K:=Ko K) id id))),fun _ _ _=>rfl,fun _=>rfl,by first | exact fun _ _=>⟨rfl,rfl⟩ | (intro h;cases h)⟩
def H182:List (Nat×Hint):=[]
def J182:List (Nat×Hint):=[]
abbrev S182:List Sh:=[.leaf, .leaf, .leaf]
abbrev L182:List Lf:=[.int .i64, .el .idk, .el .atm]
def F182 (g:prodL L182) (K:Kn):Prop:=
 True/\
 bif decide (Xo g.1=0)then (
  K (.bool true) [])
 else (
  True/\
  bif decide (g.2.2.1.kind=Xo g.1)then (
   K (.bool (qs g.2.2.1.file g.2.1)) [])
  else (
   K (.bool false) []))
theorem F182_eq (g:prodL L182) (K X:Kn):F182 g K=qJ D (qk [] [(216,false,sp216)]) (qx []) H182 J182 23 [.tmp 6] (qz Tryz.f182) (argsT S182 L182 g) [] (settle0 K) X:=by kernel_rfl
theorem F182_ok (g:prodL L182) (K X:Kn) (h:F182 g K):FCalls Tryz.prog 182 (argsT S182 L182 g) [] K X:=
 FCalls.settle0 (qq (Γ:=qk [] [(216,false,sp216)]) (mu:=qx []) (H:=H182) (J:=J182) qY (qV (rs:=[]) (l:=[(216,false,sp216)]) (fun p hp=>by cases hp) (by intro p hp;simp only [List.mem_cons,List.not_mem_nil,or_false] at hp;subst hp;exact sp216_ok)) qj rfl Tryz.func182 (c:=qz Tryz.f182) rfl Tryz.ntmps182 Tryz.results182 (by unfold qv;rw [Tryz.func182];kernel_rfl) (Nat.le_of_ble_eq_true (by kernel_rfl)) (c0:=0) (Eq.mp (F182_eq g K X) h))
def sp182:Sp:=⟨S182,L182,fun _=>True,fun g=> .bool (ZZ g.1 g.2.1 g.2.2.1),fun _=>none⟩
theorem sp182_ok:sp182.Ok Tryz.prog 182 true:=
 ⟨fun g K X hp h=>F182_ok g K X (by
  have h:K (.bool (ZZ g.1 g.2.1 g.2.2.1)) []:=h
  revert h;unfold F182 ZZ;show (fun v=>K (.bool v) []) _->_
  repeat' (first | exact id | refine qI (K:=fun v=>K (.bool v) []) ?_ ?_ | (intro h;refine ⟨trivial, ?_⟩;revert h))),fun _ _ _=>rfl,fun _=>rfl,by first | exact fun _ _=>⟨rfl,rfl⟩ | (intro h;cases h)⟩
def H215:List (Nat×Hint):=[]
def J215:List (Nat×Hint):=[]
abbrev S215:List Sh:=[.leaf, .leaf]
abbrev L215:List Lf:=[.el .idk, .int .i64]
def F215 (g:prodL L215) (K:Kn):Prop:=
 True/\
 bif zk g.1.patch dz then (
  bif decide (0<=g.1.n)then (
   K (.bool (decide (g.1.n<g.2.1))) [])
  else (
   K (.bool false) []))
 else (
  bif decide (0<=g.1.n)then (
  K (.bool (decide (g.1.n<100000))) [])
 else (
  K (.bool false) []))
theorem F215_eq (g:prodL L215) (K X:Kn):F215 g K=qJ D (qk [] [(123,true,QY)]) (qx []) H215 J215 25 [.tmp 4] (qz Tryz.f215) (argsT S215 L215 g) [] (settle0 K) X:=by kernel_rfl
theorem F215_ok (g:prodL L215) (K X:Kn) (h:F215 g K):FCalls Tryz.prog 215 (argsT S215 L215 g) [] K X:=
 FCalls.settle0 (qq (Γ:=qk [] [(123,true,QY)]) (mu:=qx []) (H:=H215) (J:=J215) qY (qV (rs:=[]) (l:=[(123,true,QY)]) (fun p hp=>by cases hp) (by intro p hp;simp only [List.mem_cons,List.not_mem_nil,or_false] at hp;subst hp;exact kB)) qj rfl Tryz.func215 (c:=qz Tryz.f215) rfl Tryz.ntmps215 Tryz.results215 (by unfold qv;rw [Tryz.func215];kernel_rfl) (Nat.le_of_ble_eq_true (by kernel_rfl)) (c0:=0) (Eq.mp (F215_eq g K X) h))
def sp215:Sp:=⟨S215,L215,fun _=>True,fun g=> .bool (alwB g.1 g.2.1),fun _=>none⟩
theorem sp215_ok:sp215.Ok Tryz.prog 215 true:=
 ⟨fun g K X hp h=>F215_ok g K X (by
  have h:K (.bool (alwB g.1 g.2.1)) []:=h
  revert h;unfold F215 alwB;show (fun v=>K (.bool v) []) _->_
  repeat' (first | exact id | refine qI (K:=fun v=>K (.bool v) []) ?_ ?_ | (intro h;refine ⟨trivial, ?_⟩;revert h))),fun _ _ _=>rfl,fun _=>rfl,by first | exact fun _ _=>⟨rfl,rfl⟩ | (intro h;cases h)⟩
def H177:List (Nat×Hint):=[]
def J177:List (Nat×Hint):=[(4,⟨[],[(18, .leaf)],[],[.bool]⟩)]
abbrev S177:List Sh:=[.leaf, .leaf, .leaf]
abbrev L177:List Lf:=[.el .idk, .sl .atm, .bool]
def Vy (K:Kn) (t_1:Bool):Prop:=
 bif t_1 then (
  K (.int .i64 8) [])
 else (
  K (.int .i64 0) [])
def F177 (g:prodL L177) (K:Kn):Prop:=
 True/\
 bif !(alwB g.1 (g.2.1.length:Int))then (
  K (.int .i64 7) [])
 else (
  True/\
 bif zk g.1.patch dz then (
  Vy K (!g.2.2.1))
 else (
  Vy K false))
theorem F177_eq (g:prodL L177) (K X:Kn):F177 g K=qJ D (qk [] [(123,true,QY),(215,true,sp215)]) (qx []) H177 J177 19 [.tmp 6] (qz Tryz.f177) (argsT S177 L177 g) [] (settle0 K) X:=by kernel_rfl
theorem F177_ok (g:prodL L177) (K X:Kn) (h:F177 g K):FCalls Tryz.prog 177 (argsT S177 L177 g) [] K X:=
 FCalls.settle0 (qq qY (jq (zq kB (zq sp215_ok z8))) qj rfl Tryz.func177 (c:=qz Tryz.f177) rfl Tryz.ntmps177 Tryz.results177 (by unfold qv;rw [Tryz.func177];kernel_rfl) (Nat.le_of_ble_eq_true (by kernel_rfl)) (c0:=0) (Eq.mp (F177_eq g K X) h))
def sp177:Sp:=⟨S177,L177,fun _=>True,fun g=> .int .i64 (jp g.1 g.2.1 g.2.2.1),fun _=>none⟩
theorem sp177_ok:sp177.Ok Tryz.prog 177 true:=
 ⟨fun g K X hp h=>F177_ok g K X (by
  have h:K (.int .i64 (jp g.1 g.2.1 g.2.2.1)) []:=h
  unfold F177
  unfold jp at h
  refine ⟨trivial, ?_⟩
  show bif !(alwB g.1 (g.2.1.length:Int))then _ else _
  revert h
  refine qI (K:=KI K) id fun h=>⟨trivial, ?_⟩
  exact xF (J:=Vy K) (f:=fun b:Bool=>bif b then (8:Int)else 0) (K:=KI K) (fun b=>by unfold Vy;exact qI (K:=KI K) id id) h),fun _ _ _=>rfl,fun _=>rfl,by first | exact fun _ _=>⟨rfl,rfl⟩ | (intro h;cases h)⟩
def H174:List (Nat×Hint):=[]
def J174:List (Nat×Hint):=[(2,⟨[((1,[]),none),((2,[]),none)],[(1, .pt 0 0),(2, .pt 1 0),(10, .leaf)],[.el, .el],[.bool, .el .chg, .el .chg]⟩),(3,⟨[((1,[]),none),((2,[]),none)],[(1, .pt 0 0),(2, .pt 1 0)],[.el, .el],[.el .chg, .el .chg]⟩),(4,⟨[((1,[]),none),((2,[]),none)],[(1, .pt 0 0),(2, .pt 1 0),(20, .leaf)],[.el, .el],[.bool, .el .chg, .el .chg]⟩),(5,⟨[((1,[]),none),((2,[]),none)],[(1, .pt 0 0),(2, .pt 1 0)],[.el, .el],[.el .chg, .el .chg]⟩),(18,⟨[((1,[]),none),((2,[]),none)],[(1, .pt 0 0),(2, .pt 1 0)],[.el, .el],[.el .chg, .el .chg]⟩)]
abbrev S174:List Sh:=[.leaf]
abbrev L174:List Lf:=[.el .chg]
def yg (K:Kn) (c_7 t_7:Chg):Prop:=
 K (.ag (enc .chg c_7)) []
def X1 (K:Kn) (c_6 t_6:Chg):Prop:=
 bif decide (c_6.kind=1)then (
  yg K (⟨c_6.kind,c_6.file,0,c_6.parent,c_6.name,c_6.mode,c_6.data,c_6.after,c_6.before,c_6.lines,c_6.over⟩:Chg) t_6)
 else (
  bif decide (c_6.kind=2)then (
   True/\
   yg K (⟨c_6.kind,c_6.file,c_6.typ,iz,(⟨#[]⟩:ByteArray),c_6.mode,c_6.data,c_6.after,c_6.before,c_6.lines,c_6.over⟩:Chg) t_6)
  else (
   bif decide (c_6.kind=3)then (
    yg K (⟨c_6.kind,c_6.file,c_6.typ,c_6.parent,c_6.name,0,c_6.data,c_6.after,c_6.before,c_6.lines,c_6.over⟩:Chg) t_6)
   else (
    bif decide (c_6.kind=4)then (
     yg K (⟨c_6.kind,c_6.file,c_6.typ,c_6.parent,c_6.name,c_6.mode,(⟨#[]⟩:ByteArray),c_6.after,c_6.before,c_6.lines,c_6.over⟩:Chg) t_6)
    else (
     bif decide (c_6.kind=5)then (
      True/\
      True/\
      yg K (⟨c_6.kind,c_6.file,c_6.typ,c_6.parent,c_6.name,c_6.mode,c_6.data,iz,iz,[],c_6.over⟩:Chg) t_6)
     else (
      bif decide (c_6.kind=6)then (
       True/\
       True/\
       yg K (⟨c_6.kind,c_6.file,c_6.typ,c_6.parent,c_6.name,c_6.mode,c_6.data,iz,iz,c_6.lines,c_6.over⟩:Chg) t_6)
      else (
       yg K c_6 t_6))))))
def Zo (K:Kn) (t_4:Bool) (c_4 t2_4:Chg):Prop:=
 bif t_4 then (
  X1 K (⟨c_4.kind,c_4.file,c_4.typ,c_4.parent,c_4.name,c_4.mode,c_4.data,c_4.after,c_4.before,c_4.lines,[]⟩:Chg) t2_4)
 else (
  X1 K c_4 t2_4)
def WO (K:Kn) (c_3 t_3:Chg):Prop:=
 bif !decide (c_3.kind=1)then (
  Zo K (!decide (c_3.kind=5)) c_3 t_3)
 else (
  Zo K false c_3 t_3)
def JX (K:Kn) (t_1:Bool) (c_1 t2_1:Chg):Prop:=
 bif t_1 then (
  True/\
  WO K (⟨c_1.kind,iz,c_1.typ,c_1.parent,c_1.name,c_1.mode,c_1.data,c_1.after,c_1.before,c_1.lines,c_1.over⟩:Chg) t2_1)
 else (
  WO K c_1 t2_1)
def F174 (g:prodL L174) (K:Kn):Prop:=
 bif decide (2<=g.1.kind)then (
  JX K (decide (g.1.kind<=6)) g.1 cz)
 else (
  JX K false g.1 cz)
theorem F174_eq (g:prodL L174) (K X:Kn):F174 g K=qJ D (qk [] [(212,false,Vc)]) (qx []) H174 J174 52 [.cell 2 50] (qz Tryz.f174) (argsT S174 L174 g) [] (settle0 K) X:=by kernel_rfl
theorem F174_ok (g:prodL L174) (K X:Kn) (h:F174 g K):FCalls Tryz.prog 174 (argsT S174 L174 g) [] K X:=
 FCalls.settle0 (qq (Γ:=qk [] [(212,false,Vc)]) (mu:=qx []) (H:=H174) (J:=J174) qY (qV (rs:=[]) (l:=[(212,false,Vc)]) (fun p hp=>by cases hp) (by intro p hp;simp only [List.mem_cons,List.not_mem_nil,or_false] at hp;subst hp;exact sp212_ok)) qj rfl Tryz.func174 (c:=qz Tryz.f174) rfl Tryz.ntmps174 Tryz.results174 (by unfold qv;rw [Tryz.func174];kernel_rfl) (Nat.le_of_ble_eq_true (by kernel_rfl)) (c0:=0) (Eq.mp (F174_eq g K X) h))
def H179:List (Nat×Hint):=[]
def J179:List (Nat×Hint):=[(2,⟨[((3,[]),none),((4,[]),none)],[(0, .leaf),(3, .pt 0 0),(4, .pt 1 0),(19, .leaf)],[.el, .el],[.sl .atm, .bool, .el .idk, .el .atm]⟩)]
abbrev S179:List Sh:=[.leaf, .leaf]
abbrev L179:List Lf:=[.sl .atm, .el .idk]
def Jj (K:Kn) (own_1:List Atm) (t_1:Bool) (x_1:Idn) (t2_1:Atm):Prop:=
 bif t_1 then (
  At own_1 x_1.n fun u2=>
  K (.ag (enc .atm u2)) [])
 else (
  K (.ag (nilE .atm az)) [])
def F179 (g:prodL L179) (K:Kn):Prop:=
 True/\
 bif zk g.2.1.patch dz then (
  bif decide (0<=g.2.1.n)then (
   Jj K g.1 (decide (g.2.1.n< (g.1.length:Int))) g.2.1 az)
  else (
   Jj K g.1 false g.2.1 az))
 else (
  Jj K g.1 false g.2.1 az)
theorem F179_eq (g:prodL L179) (K X:Kn):F179 g K=qJ D (qk [] [(123,true,QY)]) (qx []) H179 J179 26 [.cell 4 54] (qz Tryz.f179) (argsT S179 L179 g) [] (settle0 K) X:=by kernel_rfl
theorem F179_ok (g:prodL L179) (K X:Kn) (h:F179 g K):FCalls Tryz.prog 179 (argsT S179 L179 g) [] K X:=
 FCalls.settle0 (qq (Γ:=qk [] [(123,true,QY)]) (mu:=qx []) (H:=H179) (J:=J179) qY (qV (rs:=[]) (l:=[(123,true,QY)]) (fun p hp=>by cases hp) (by intro p hp;simp only [List.mem_cons,List.not_mem_nil,or_false] at hp;subst hp;exact kB)) qj rfl Tryz.func179 (c:=qz Tryz.f179) rfl Tryz.ntmps179 Tryz.results179 (by unfold qv;rw [Tryz.func179];kernel_rfl) (Nat.le_of_ble_eq_true (by kernel_rfl)) (c0:=0) (Eq.mp (F179_eq g K X) h))
end Go.Proofs.YtbglndogddddoaaGreatDoor
namespace Go.Proofs.YtbglndogddddoaaGreatDoor
open Go.RowKit
set_option maxRecDepth 100000
theorem wrapP {n:Nat} (h:0<n/\n<=4294967296):IntKind.i64.wrap ((n:Int) - 1)=((n-1:Nat):Int):=by
 rw [w64 (by omega)];omega
theorem posI {n:Nat} (h:0<n):decide ((0:Int) < (n:Int))=true:=decide_eq_true (by omega)
theorem Jc {cmp:Dig->Dig->Int} {l:List Dig} {n:Nat} (h:n<l.length):depE cmp l n=bif zk l[n] dz then 1 else bif decide (0<n)then (bif decide (0<=cmp l[n-1] l[n])then 9 else 0)else 0:=by
 unfold depE
 rw [xQ h,xQ (show n-1<l.length by omega)]
theorem F72_is {l:List Dig} {K:Kn} (h:KI K (jy ju l)):F72 (l,()) K:=by
 unfold F72
 unfold jy at h
 cases c0:decide (100< (l.length:Int))
 rotate_left
 . rw [c0] at h;exact h
 have hl:l.length<=100:=by have:=of_decide_eq_false c0;omega
 rw [c0,cond_false] at h
 rw [cond_false]
 unfold F72_L2
 refine qQ.errsN l.length (depE ju l) (fun n=>(l,(n:Int),())) (KI K) h rfl (fun W n hn h0 h1=> ?_) fun h W=> ?_
 . show V5 K W l n
   unfold V5
   rw [qt hn,cond_true]
   rw [Jc hn] at h0 h1
   refine qE hn ⟨trivial, ?_⟩
   cases c1:zk l[n] dz
   . rw [c1] at h0 h1
     rw [cond_false] at h0 h1 ⊢
     by_cases hz:0<n
     . rw [posI hz,cond_true]
       rw [decide_eq_true hz,cond_true] at h0 h1
       rw [wrapP (by omega)]
       refine qE (by omega) (qE hn ⟨trivial, ?_⟩)
       unfold WQ
       cases c2:decide (0<=ju l[n-1] l[n])
       . rw [c2] at h0;rw [cond_false,zJ hn (by omega)];exact h0 rfl
       . rw [c2] at h1;exact h1 (by decide)
     . have:n=0:=by omega
       subst this
       show WQ K W l 0 false
       unfold WQ
       rw [cond_false]
       have:=zJ hn (show l.length<=4294967296 by omega)
       have e:IntKind.i64.wrap ((0:Int)+1)=((0+1:Nat):Int):=this
       rw [e]
       exact h0 rfl
   . rw [c1] at h1;exact h1 (show (1:Int)≠0 by decide)
 . show V5 K W l (l.length:Int)
   unfold V5
   rw [qm,cond_false];exact h
def sp72:Sp:=⟨S72,L72,fun _=>True,fun g=> .int .i64 (jy ju g.1),fun _=>none⟩
theorem sp72_ok:sp72.Ok Tryz.prog 72 true:=
 ⟨fun g K X _ h=>F72_ok g K X (F72_is h),fun _ _ _=>rfl,fun _=>rfl,fun _ _=>⟨rfl,rfl⟩⟩
theorem F67_is {a m:ByteArray} {t:Int} {ds:List Dig} {cs:List Chg} {K:Kn} (ha:szP a) (h:KI K (zP zG a m t ds cs)):F67 (a,m,t,ds,cs,()) K:=by
 unfold F67
 unfold zP at h
 refine ⟨ha, ?_⟩
 show bif !(xk a)then _ else _
 cases c1:xk a
 . rw [c1] at h;exact h
 rw [c1] at h
 simp only [Bool.not_true,cond_false] at h ⊢
 cases c2:decide (1000< (m.size:Int))
 rotate_left
 . rw [c2] at h;exact h
 rw [c2] at h
 rw [cond_false] at h ⊢
 have hJ: ∀b,KI K (bif b then 2 else bif !decide (jy zG ds=0)then jy zG ds else bif decide ((cs.length:Int)=0)then 1 else bif decide (400< (cs.length:Int))then 4 else 0)->YK K b a m t ds cs:=by
  intro b h
  unfold YK
  cases b
  rotate_left
  . exact h
  rw [cond_false] at h ⊢
  unfold jy at h
  cases c0:decide (100< (ds.length:Int))
  rotate_left
  . rw [c0] at h;exact h
  have hl:ds.length<=100:=by have:=of_decide_eq_false c0;omega
  rw [c0,cond_false] at h
  rw [cond_false]
  unfold F67_L4
  refine qQ.errsN ds.length (depE zG ds) (fun n=>(ds,(ds.length:Int),(n:Int),a,m,t,ds,cs,())) (fun e=>KI K (bif !decide (e=0)then e else bif decide ((cs.length:Int)=0)then 1 else bif decide (400< (cs.length:Int))then 4 else 0)) h rfl (fun W n hn h0 h1=> ?_) fun h W=> ?_
  . show Yc K W ds (ds.length:Int) n a m t ds cs
    unfold Yc
    rw [qt hn,cond_true]
    rw [Jc hn] at h0 h1
    refine qE hn ?_
    cases c1:zk ds[n] dz
    . rw [c1] at h0 h1
      rw [cond_false] at h0 h1 ⊢
      by_cases hz:0<n
      . rw [posI hz,cond_true]
        rw [decide_eq_true hz,cond_true] at h0 h1
        rw [wrapP (by omega)]
        refine qE (by omega) ⟨trivial, ?_⟩
        unfold Vf
        cases c2:decide (0<=zG ds[n-1] ds[n])
        . rw [c2] at h0;rw [cond_false,zJ hn (by omega)];exact h0 rfl
        . rw [c2] at h1;exact h1 (by decide)
      . have:n=0:=by omega
        subst this
        show Vf K W ds ds.length 0 false a m t ds cs
        unfold Vf
        rw [cond_false]
        have:=zJ hn (show ds.length<=4294967296 by omega)
        have e:IntKind.i64.wrap ((0:Int)+1)=((0+1:Nat):Int):=this
        rw [e]
        exact h0 rfl
    . rw [c1] at h1;exact h1 (show (1:Int)≠0 by decide)
  . show Yc K W ds (ds.length:Int) (ds.length:Int) a m t ds cs
    unfold Yc
    rw [qm,cond_false]
    change KI K (bif decide ((cs.length:Int)=0)then 1 else bif decide (400< (cs.length:Int))then 4 else 0)at h
    revert h
    exact qI (K:=KI K) id (qI (K:=KI K) id id)
 exact xF (J:=fun b=>YK K b a m t ds cs) (f:=fun b=>bif b then 2 else bif !decide (jy zG ds=0)then jy zG ds else bif decide ((cs.length:Int)=0)then 1 else bif decide (400< (cs.length:Int))then 4 else 0) (K:=KI K) hJ h
def sp67:Sp:=⟨S67,L67,fun g=>szP g.1,fun g=> .int .i64 (zP zG g.1 g.2.1 g.2.2.1 g.2.2.2.1 g.2.2.2.2.1),fun _=>none⟩
theorem sp67_ok:sp67.Ok Tryz.prog 67 true:=
 ⟨fun g K X hp h=>F67_ok g K X (F67_is hp h),fun _ _ _=>rfl,fun _=>rfl,fun _ _=>⟨rfl,rfl⟩⟩
theorem lineE_at {l:List ByteArray} {n:Nat} (h:n<l.length):lineE l n=bif !(wu l[n])then 3 else 0:=by
 unfold lineE
 rw [xQ h]
theorem F175_is {l:List ByteArray} {K:Kn} (hs: ∀s∈l,s.size<=4194304) (h:KI K (J9 l)):F175 (l,()) K:=by
 unfold F175
 revert h
 unfold J9
 refine qI (K:=KI K) id fun h=> ?_
 show bif decide (2000< (l.length:Int))then _ else _
 cases c0:decide (2000< (l.length:Int))
 rotate_left
 . rw [c0] at h;exact h
 have hl:l.length<=2000:=by have:=of_decide_eq_false c0;omega
 rw [c0,cond_false] at h
 rw [cond_false]
 unfold F175_L2
 refine qQ.errsN l.length (lineE l) (fun n=>(l,(n:Int),())) (KI K) h rfl (fun W n hn h0 h1=> ?_) fun h W=> ?_
 . show Z3 K W l n
   unfold Z3
   rw [qt hn,cond_true]
   rw [lineE_at hn] at h0 h1
   refine qE hn ⟨Nat.le_trans (hs _ (List.getElem_mem _)) (by omega), ?_⟩
   cases c:wu l[n]
   . rw [c] at h1;exact h1 (by decide)
   . rw [c] at h0;simp only [Bool.not_true,cond_false];rw [zJ hn (by omega)];exact h0 rfl
 . show Z3 K W l (l.length:Int)
   unfold Z3
   rw [qm,cond_false];exact h
def sp175:Sp:=⟨S175,L175,fun g=> ∀s∈g.1,s.size<=4194304,fun g=> .int .i64 (J9 g.1),fun _=>none⟩
theorem sp175_ok:sp175.Ok Tryz.prog 175 true:=
 ⟨fun g K X hp h=>F175_ok g K X (F175_is hp h),fun _ _ _=>rfl,fun _=>rfl,fun _ _=>⟨rfl,rfl⟩⟩
theorem overE_at {cmp:Idn->Idn->Int} {l:List Idn} {n:Nat} (h:n+1<l.length):We cmp l n=bif decide (0<=cmp l[n] l[n+1])then 9 else 0:=by
 unfold We
 rw [xQ (show n<l.length by omega),xQ h]
theorem F176_is {l:List Idn} {K:Kn} (hl:spL l.length) (h:Ko K (ascI l)):F176 (l,()) K:=by
 unfold spL at hl
 unfold F176
 unfold ascI vu at h
 unfold F176_L2
 refine qQ.errsN (l.length-1) (We idI l) (fun n=>(l,((n+1:Nat):Int),())) (fun e=>Ko K (decide (e=0))) h rfl (fun W n hn h0 h1=> ?_) fun h W=> ?_
 . show Jx K W l ((n+1:Nat):Int)
   unfold Jx
   rw [qt (show n+1<l.length by omega),cond_true]
   rw [overE_at (by omega)] at h0 h1
   rw [wrapP (by omega)]
   refine qE (show n+1-1<l.length by omega) (qE (show n+1<l.length by omega) ⟨trivial, ?_⟩)
   simp only [Nat.add_sub_cancel]
   cases c:decide (0<=idI l[n] l[n+1])
   . rw [c] at h0;rw [cond_false,zJ (show n+1<l.length by omega) (by omega)];exact h0 rfl
   . rw [c] at h1;exact h1 (by decide)
 . show Jx K W l ((l.length-1+1:Nat):Int)
   unfold Jx
   rw [decide_eq_false (by omega),cond_false];exact h
def sp176:Sp:=⟨S176,L176,fun g=>spL g.1.length,fun g=> .bool (ascI g.1),fun _=>none⟩
theorem sp176_ok:sp176.Ok Tryz.prog 176 true:=
 ⟨fun g K X hp h=>F176_ok g K X (F176_is hp h),fun _ _ _=>rfl,fun _=>rfl,fun _ _=>⟨rfl,rfl⟩⟩
abbrev KC (K:Kn):Chg->Prop:=fun c=>K (.ag (enc .chg c)) []
theorem WY {c t:Chg} {K:Kn} (h:KC K (rC9 c)):X1 K c t:=by
 unfold X1
 revert h
 unfold rC9
 exact qI (K:=KC K) id (qI (K:=KC K) (fun h=>⟨trivial,h⟩) (qI (K:=KC K) id (qI (K:=KC K) id (qI (K:=KC K) (fun h=>⟨trivial,trivial,h⟩) (qI (K:=KC K) (fun h=>⟨trivial,trivial,h⟩) id)))))
theorem F174_J5_is {b:Bool} {c t:Chg} {K:Kn} (h:KC K (rC5 b c)):Zo K b c t:=by
 unfold Zo
 revert h
 unfold rC5
 exact qI (K:=KC K) WY WY
theorem Xt {c t:Chg} {K:Kn} (h:KC K (rC10 c)):WO K c t:=
 xF (J:=fun b=>Zo K b c t) (f:=fun b=>rC5 b c) (K:=KC K) (fun _ h=>F174_J5_is h) h
theorem F174_J2_is {b:Bool} {c t:Chg} {K:Kn} (h:KC K (rC2 b c)):JX K b c t:=by
 unfold JX
 revert h
 unfold rC2
 exact qI (K:=KC K) (fun h=>⟨trivial,Xt h⟩) Xt
theorem F174_is {c:Chg} {K:Kn} (h:KC K (yq c)):F174 (c,()) K:=
 xF (J:=fun b=>JX K b c cz) (f:=fun b=>rC2 b c) (K:=KC K) (fun _ h=>F174_J2_is h) h
def sp174:Sp:=⟨S174,L174,fun _=>True,fun g=> .ag (enc .chg (yq g.1)),fun _=>none⟩
theorem sp174_ok:sp174.Ok Tryz.prog 174 false:=
 ⟨fun g K X _ h=>F174_ok g K X (F174_is h),fun _ _ _=>rfl,fun _=>rfl,fun h=>(by cases h)⟩
def nilB:T->Bool
 | .sl b _ l=> !b&&l.isEmpty
 | _=>true
theorem nilE_weak {e:El} {x:ty e} (h:(enc e x).all nilB=true):zn (.ag (nilE e x)) (.ag (enc e x)):=by
 have key: ∀L:List T,L.all nilB=true->qM (L.map nilT) L:=by
  intro L
  induction L with
  | nil=>intro _;exact qM.nil
  | cons y L ih=>
   intro h
   rw [List.all_cons,Bool.and_eq_true] at h
   refine qM.cons ?_ (ih h.2)
   cases y with
   | sl b e l=>
    have h1:(!b&&l.isEmpty)=true:=h.1
    rw [Bool.and_eq_true,Bool.not_eq_true'] at h1
    obtain ⟨rfl,h2⟩:=h1
    obtain rfl:=List.isEmpty_iff.1 h2
    exact zn.nil e
   | _=>exact zn.refl _
 exact zn.ag (key _ h)
theorem az_nil:(enc .atm az).all nilB=true:=by kernel_rfl
theorem F179_is {own:List Atm} {x:Idn} {K:Kn} (h:K (.ag (enc .atm (vv own x))) []):F179 (own,x,()) (xw K):=by
 unfold F179
 refine ⟨trivial, ?_⟩
 have hJ: ∀b,(b=true->0<=x.n/\x.n< (own.length:Int))->K (.ag (enc .atm (bif b then own.getD x.n.toNat az else az))) []->Jj (xw K) own b x az:=by
  intro b hb h
  unfold Jj
  cases b
  . exact ⟨_,nilE_weak az_nil,h⟩
  . obtain ⟨b1,b2⟩:=hb rfl
    have hn:x.n.toNat<own.length:=by omega
    refine ⟨b1,own[x.n.toNat],xQ hn,xw.same ?_⟩
    rw [cond_true,List.getD_eq_getElem?_getD,xQ hn] at h
    exact h
 show bif zk x.patch dz then _ else _
 unfold vv at h
 cases c1:zk x.patch dz
 . rw [c1] at h;exact hJ false (by simp) h
 . rw [c1] at h
   rw [cond_true] at h ⊢
   cases c2:decide (0<=x.n)
   . rw [c2] at h;exact hJ false (by simp) h
   . rw [c2] at h
     exact hJ _ (fun e=>⟨of_decide_eq_true c2,of_decide_eq_true e⟩) h
def sp179:Sp:=⟨S179,L179,fun _=>True,fun g=> .ag (enc .atm (vv g.1 g.2.1)),fun _=>none⟩
theorem sp179_ok:sp179.Ok Tryz.prog 179 false:=
 ⟨fun g K X _ h=>FCalls.weak (F179_ok g (xw K) X (F179_is h)),fun _ _ _=>rfl,fun _=>rfl,fun h=>(by cases h)⟩
end Go.Proofs.YtbglndogddddoaaGreatDoor
namespace Go.Proofs.YtbglndogddddoaaGreatDoor
open Go.RowKit
attribute [local irreducible] qJ qd
set_option maxRecDepth 100000
def H68:List (Nat×Hint):=[(18,⟨[((1,[]),none)],[(1, .pt 0 0),(73, .leaf),(74, .leaf),(75, .leaf)],[.el],[.sl .str, .int .i64, .int .i64, .el .chg]⟩),(28,⟨[((1,[]),none)],[(1, .pt 0 0),(5, .leaf)],[.el],[.int .i64, .el .chg]⟩)]
def J68:List (Nat×Hint):=[(2,⟨[((1,[]),none)],[(1, .pt 0 0),(6, .leaf)],[.el],[.bool, .el .chg]⟩),(6,⟨[((1,[]),none)],[(1, .pt 0 0),(19, .leaf)],[.el],[.bool, .el .chg]⟩),(8,⟨[((1,[]),none)],[(1, .pt 0 0),(33, .leaf)],[.el],[.bool, .el .chg]⟩),(10,⟨[((1,[]),none)],[(1, .pt 0 0),(43, .leaf)],[.el],[.bool, .el .chg]⟩),(14,⟨[((1,[]),none)],[(1, .pt 0 0),(57, .leaf)],[.el],[.bool, .el .chg]⟩),(24,⟨[((1,[]),none)],[(1, .pt 0 0),(83, .leaf)],[.el],[.bool, .el .chg]⟩)]
abbrev S68:List Sh:=[.leaf]
abbrev L68:List Lf:=[.el .chg]
def Zr (K:Kn) (W17:prodL [.int .i64, .el .chg]->Prop) (i_16:Int) (c_16:Chg):Prop:=
 bif decide (i_16< (c_16.over.length:Int))then (
  At c_16.over (IntKind.i64.wrap (i_16-1)) fun u18=>
 At c_16.over i_16 fun u19=>
 True/\
 bif decide (0<=idC u18 u19)then (
  K (.int .i64 9) [])
 else (
  W17 (IntKind.i64.wrap (i_16+1),c_16,())))
 else (
  K (.int .i64 0) [])
def F68_L17 (K:Kn) (g:prodL [.int .i64, .el .chg]):Prop:=
 qQ (γ:=prodL [.int .i64, .el .chg]) (fun V y=>Zr K V y.1 y.2.1) g
def ZA (K:Kn) (t_14:Bool) (c_14:Chg):Prop:=
 bif t_14 then (
  K (.int .i64 1) [])
 else (
  bif decide (400< (c_14.over.length:Int))then (
   K (.int .i64 4) [])
  else (
   F68_L17 K (1,c_14,())))
def Z7 (K:Kn) (W12:prodL [.sl .str, .int .i64, .int .i64, .el .chg]->Prop) (t_11:List ByteArray) (t2_11 t3_11:Int) (c_11:Chg):Prop:=
 bif decide (t3_11<t2_11)then (
  At t_11 t3_11 fun u13=>
 sp117.pre (u13,())/\
 bif !(wu u13)then (
  K (.int .i64 3) [])
 else (
  W12 (t_11,t2_11,IntKind.i64.wrap (t3_11+1),c_11,())))
 else (
  bif decide (c_11.kind=7)then (
  ZA K (decide ((c_11.over.length:Int)=0)) c_11)
 else (
  ZA K false c_11))
def qq8 (K:Kn) (g:prodL [.sl .str, .int .i64, .int .i64, .el .chg]):Prop:=
 qQ (γ:=prodL [.sl .str, .int .i64, .int .i64, .el .chg]) (fun V y=>Z7 K V y.1 y.2.1 y.2.2.1 y.2.2.2.1) g
def WU (K:Kn) (t_5:Bool) (c_5:Chg):Prop:=
 bif t_5 then (
        K (.int .i64 1) [])
       else (
        bif decide (2000< (c_5.lines.length:Int))then (
         K (.int .i64 4) [])
        else (
         qq8 K (c_5.lines,(c_5.lines.length:Int),0,c_5,())))
def Yq (K:Kn) (t_4:Bool) (c_4:Chg):Prop:=
 bif t_4 then (
      K (.int .i64 2) [])
     else (
      bif decide (65536< (c_4.data.size:Int))then (
       K (.int .i64 4) [])
      else (
       bif decide (c_4.kind=5)then (
        WU K (decide ((c_4.lines.length:Int)=0)) c_4)
       else (
        WU K false c_4)))
def F68_J8 (K:Kn) (t_3:Bool) (c_3:Chg):Prop:=
 bif t_3 then (
     K (.int .i64 5) [])
    else (
     bif decide (c_3.mode<0)then (
      Yq K true c_3)
     else (
      Yq K (decide (511<c_3.mode)) c_3))
def JO (K:Kn) (t_2:Bool) (c_2:Chg):Prop:=
 bif t_2 then (
    K (.int .i64 8) [])
   else (
    bif decide (c_2.kind=2)then (
     sp115.pre (c_2.name,())/\
     F68_J8 K (!(xk c_2.name)) c_2)
    else (
     F68_J8 K false c_2))
def Vq (K:Kn) (t_1:Bool) (c_1:Chg):Prop:=
 bif t_1 then (
  K (.int .i64 8) [])
 else (
  sp116.pre (c_1,())/\
  bif !(jn c_1)then (
   K (.int .i64 1) [])
  else (
   bif decide (c_1.kind=1)then (
    bif decide (c_1.typ<1)then (
     JO K true c_1)
    else (
     JO K (decide (4<c_1.typ)) c_1))
   else (
    JO K false c_1)))
def F68 (g:prodL L68) (K:Kn):Prop:=
 bif decide (g.1.kind<1)then (
  Vq K true g.1)
 else (
  Vq K (decide (7<g.1.kind)) g.1)
theorem F68_eq (g:prodL L68) (K X:Kn):F68 g K=qJ D (qk [] [(17,true,sp17),(115,true,sp115),(116,true,sp116),(117,true,sp117)]) (qx []) H68 J68 118 [.tmp 2] (qz Tryz.f68) (argsT S68 L68 g) [] (settle0 K) X:=by kernel_rfl
theorem F68_ok (g:prodL L68) (K X:Kn) (h:F68 g K):FCalls Tryz.prog 68 (argsT S68 L68 g) [] K X:=
 FCalls.settle0 (qq qY (jq (zq sp17_ok (zq sp115_ok (zq sp116_ok (zq sp117_ok z8))))) qj rfl Tryz.func68 (c:=qz Tryz.f68) rfl Tryz.ntmps68 Tryz.results68 (by unfold qv;rw [Tryz.func68];kernel_rfl) (Nat.le_of_ble_eq_true (by kernel_rfl)) (c0:=0) (Eq.mp (F68_eq g K X) h))
def H125:List (Nat×Hint):=[]
def J125:List (Nat×Hint):=[(2,⟨[((1,[]),none)],[(1, .pt 0 0),(10, .leaf)],[.el],[.bool, .el .chg]⟩),(6,⟨[((1,[]),none)],[(1, .pt 0 0),(27, .leaf)],[.el],[.bool, .el .chg]⟩),(8,⟨[((1,[]),none)],[(1, .pt 0 0),(36, .leaf)],[.el],[.bool, .el .chg]⟩),(10,⟨[((1,[]),none)],[(1, .pt 0 0),(49, .leaf)],[.el],[.bool, .el .chg]⟩),(16,⟨[((1,[]),none)],[(1, .pt 0 0),(68, .leaf)],[.el],[.bool, .el .chg]⟩)]
abbrev S125:List Sh:=[.leaf]
abbrev L125:List Lf:=[.el .chg]
def ky (K:Kn) (t_9:Bool) (c_9:Chg):Prop:=
 bif t_9 then (
  K (.int .i64 1) [])
 else (
  bif decide (400< (c_9.over.length:Int))then (
  K (.int .i64 4) [])
 else (
  sp176.pre (c_9.over,())/\
 bif !(ascI c_9.over)then (
  K (.int .i64 9) [])
 else (
  K (.int .i64 0) [])))
def kF (K:Kn) (t_7:Bool) (c_7:Chg):Prop:=
 bif t_7 then (
  K (.int .i64 2) [])
 else (
  bif decide (65536< (c_7.data.size:Int))then (
  K (.int .i64 4) [])
 else (
  bif decide (c_7.kind=5)then (
  sp175.pre (c_7.lines,())/\
  K (.int .i64 (J9 c_7.lines)) [])
 else (
  bif decide (c_7.kind=7)then (
  ky K (decide ((c_7.over.length:Int)=0)) c_7)
 else (
  ky K false c_7))))
def VQ (K:Kn) (t_5:Bool) (c_5:Chg):Prop:=
 bif t_5 then (
  K (.int .i64 5) [])
 else (
  bif decide (c_5.kind=3)then (
  bif decide (c_5.mode<0)then (
   kF K true c_5)
  else (
   kF K (decide (511<c_5.mode)) c_5))
 else (
  kF K false c_5))
def kU (K:Kn) (t_3:Bool) (c_3:Chg):Prop:=
 bif t_3 then (
  K (.int .i64 8) [])
 else (
  bif decide (c_3.kind=2)then (
  sp71.pre (c_3.name,())/\
  VQ K (!(xk c_3.name)) c_3)
 else (
  VQ K false c_3))
def Jv (K:Kn) (t_1:Bool) (c_1:Chg):Prop:=
 bif t_1 then (
  K (.int .i64 8) [])
 else (
  True/\
 True/\
 bif !(wZ (yq c_1))then (
  K (.int .i64 1) [])
 else (
  bif decide (c_1.kind=1)then (
  bif decide (c_1.typ<1)then (
   kU K true c_1)
  else (
   kU K (decide (4<c_1.typ)) c_1))
 else (
  kU K false c_1)))
def F125 (g:prodL L125) (K:Kn):Prop:=
 bif decide (g.1.kind<1)then (
  Jv K true g.1)
 else (
  Jv K (decide (7<g.1.kind)) g.1)
theorem F125_eq (g:prodL L125) (K X:Kn):F125 g K=qJ D (qk [] [(71,true,sp71),(173,true,sp173),(174,false,sp174),(175,true,sp175),(176,true,sp176)]) (qx []) H125 J125 77 [.tmp 2] (qz Tryz.f125) (argsT S125 L125 g) [] (settle0 K) X:=by kernel_rfl
theorem F125_ok (g:prodL L125) (K X:Kn) (h:F125 g K):FCalls Tryz.prog 125 (argsT S125 L125 g) [] K X:=
 FCalls.settle0 (qq qY (jq (zq sp71_ok (zq sp173_ok (zq sp174_ok (zq sp175_ok (zq sp176_ok z8)))))) qj rfl Tryz.func125 (c:=qz Tryz.f125) rfl Tryz.ntmps125 Tryz.results125 (by unfold qv;rw [Tryz.func125];kernel_rfl) (Nat.le_of_ble_eq_true (by kernel_rfl)) (c0:=0) (Eq.mp (F125_eq g K X) h))
def H126:List (Nat×Hint):=[(13,⟨[((2,[]),none)],[(1, .leaf),(2, .pt 0 0),(8, .leaf),(9, .leaf)],[.el],[.sl .atm, .sl .idk, .int .i64, .el .chg]⟩),(19,⟨[((2,[]),none)],[(1, .leaf),(2, .pt 0 0),(11, .leaf)],[.el],[.sl .atm, .int .i64, .el .chg]⟩)]
def J126:List (Nat×Hint):=[(2,⟨[((2,[]),none)],[(1, .leaf),(2, .pt 0 0),(20, .leaf)],[.el],[.sl .atm, .bool, .el .chg]⟩),(5,⟨[((2,[]),none)],[(1, .leaf),(2, .pt 0 0)],[.el],[.sl .atm, .el .chg]⟩),(6,⟨[((2,[]),none)],[(1, .leaf),(2, .pt 0 0),(43, .leaf)],[.el],[.sl .atm, .bool, .el .chg]⟩),(8,⟨[((2,[]),none)],[(1, .leaf),(2, .pt 0 0),(7, .leaf)],[.el],[.sl .atm, .int .i64, .el .chg]⟩),(10,⟨[((2,[]),none)],[(1, .leaf),(2, .pt 0 0)],[.el],[.sl .atm, .el .chg]⟩),(16,⟨[((2,[]),none)],[(1, .leaf),(2, .pt 0 0),(8, .leaf),(9, .leaf),(10, .leaf)],[.el],[.sl .atm, .sl .idk, .int .i64, .int .i64, .el .chg]⟩),(18,⟨[((2,[]),none)],[(1, .leaf),(2, .pt 0 0)],[.el],[.sl .atm, .el .chg]⟩),(25,⟨[((2,[]),none)],[(2, .pt 0 0),(140, .leaf)],[.el],[.bool, .el .chg]⟩),(27,⟨[],[(162, .leaf)],[],[.bool]⟩)]
abbrev S126:List Sh:=[.leaf, .leaf]
abbrev L126:List Lf:=[.el .chg, .sl .atm]
def vG (K:Kn) (t_23:Bool):Prop:=
 bif t_23 then (
  K (.int .i64 1) [])
 else (
  K (.int .i64 0) [])
def vn (K:Kn) (t_21:Bool) (c_21:Chg):Prop:=
 bif t_21 then (
  K (.int .i64 20) [])
 else (
  True/\
 bif kn c_21.kind then (
  bif qs c_21.after c_21.before then (
   bif decide (c_21.kind=6)then (
    vG K true)
   else (
    vG K (!(qs c_21.after c_21.file))))
  else (
   vG K false))
 else (
  vG K false))
def yM (K:Kn) (W18:prodL [.sl .atm, .int .i64, .el .chg]->Prop) (own_17:List Atm) (i_17:Int) (c_17:Chg):Prop:=
 bif decide (i_17< (c_17.over.length:Int))then (
  At c_17.over i_17 fun u19=>
 At c_17.over i_17 fun u20=>
 True/\
 True/\
 True/\
 bif !decide (jp u19 own_17 (ZZ c_17.kind c_17.file (vv own_17 u20))=0)then (
  K (.int .i64 (jp u19 own_17 (ZZ c_17.kind c_17.file (vv own_17 u20)))) [])
 else (
  W18 (own_17,IntKind.i64.wrap (i_17+1),c_17,())))
 else (
  bif decide (c_17.kind=2)then (
  vn K (qs c_17.parent c_17.file) c_17)
 else (
  vn K false c_17))
def F126_L18 (K:Kn) (g:prodL [.sl .atm, .int .i64, .el .chg]):Prop:=
 qQ (γ:=prodL [.sl .atm, .int .i64, .el .chg]) (fun V y=>yM K V y.1 y.2.1 y.2.2.1) g
def ZL (K:Kn) (own_16:List Atm) (c_16:Chg):Prop:=
 F126_L18 K (own_16,0,c_16,())
def Jq (K:Kn) (W10:prodL [.sl .atm, .sl .idk, .int .i64, .el .chg]->Prop) (own_14:List Atm) (ends_14:List Idn) (i_14 e_14:Int) (c_14:Chg):Prop:=
 bif !decide (e_14=0)then (
   K (.int .i64 e_14) [])
  else (
   W10 (own_14,ends_14,IntKind.i64.wrap (i_14+1),c_14,()))
def kW (K:Kn) (W10:prodL [.sl .atm, .sl .idk, .int .i64, .el .chg]->Prop) (own_9:List Atm) (ends_9:List Idn) (i_9:Int) (c_9:Chg):Prop:=
 bif decide (i_9<2)then (
   At ends_9 i_9 fun u11=>
  At ends_9 i_9 fun u12=>
  bif qs u12 c_9.file then (
   True/\
   Jq K W10 own_9 ends_9 i_9 (jp u11 own_9 true) c_9)
  else (
   At ends_9 i_9 fun u13=>
   True/\
   True/\
   True/\
   Jq K W10 own_9 ends_9 i_9 (jp u11 own_9 (Kz c_9.file (vv own_9 u13))) c_9))
  else (
   ZL K own_9 c_9)
def F126_L10 (K:Kn) (g:prodL [.sl .atm, .sl .idk, .int .i64, .el .chg]):Prop:=
 qQ (γ:=prodL [.sl .atm, .sl .idk, .int .i64, .el .chg]) (fun V y=>kW K V y.1 y.2.1 y.2.2.1 y.2.2.2.1) g
def Zf (K:Kn) (own_8:List Atm) (c_8:Chg):Prop:=
 True/\
 bif kn c_8.kind then (
  F126_L10 K (own_8,[c_8.after,c_8.before],0,c_8,()))
 else (
  ZL K own_8 c_8)
def XT (K:Kn) (own_5:List Atm) (e_5:Int) (c_5:Chg):Prop:=
 bif !decide (e_5=0)then (
   K (.int .i64 e_5) [])
  else (
   Zf K own_5 c_5)
def Vw (K:Kn) (own_4:List Atm) (t_4:Bool) (c_4:Chg):Prop:=
 bif t_4 then (
  True/\
  bif decide ((vv own_4 c_4.parent).kind=1)then (
   True/\
   XT K own_4 (jp c_4.parent own_4 (decide ((vv own_4 c_4.parent).typ=4))) c_4)
  else (
   True/\
   XT K own_4 (jp c_4.parent own_4 false) c_4))
 else (
  Zf K own_4 c_4)
def Zu (K:Kn) (own_3:List Atm) (c_3:Chg):Prop:=
 bif decide (c_3.kind=2)then (
  True/\
  Vw K own_3 (!(qs c_3.parent (⟨dz, -1⟩:Idn))) c_3)
 else (
  Vw K own_3 false c_3)
def Zt (K:Kn) (own_1:List Atm) (t_1:Bool) (c_1:Chg):Prop:=
 bif t_1 then (
  True/\
  True/\
  True/\
  bif !decide (jp c_1.file own_1 (yt c_1.kind (vv own_1 c_1.file))=0)then (
   K (.int .i64 (jp c_1.file own_1 (yt c_1.kind (vv own_1 c_1.file)))) [])
  else (
   Zu K own_1 c_1))
 else (
  Zu K own_1 c_1)
def F126 (g:prodL L126) (K:Kn):Prop:=
 bif decide (2<=g.1.kind)then (
  Zt K g.2.1 (decide (g.1.kind<=6)) g.1)
 else (
  Zt K g.2.1 false g.1)
theorem F126_eq (g:prodL L126) (K X:Kn):F126 g K=qJ D (qk [] [(28,false,sp28),(177,true,sp177),(178,true,sp178),(179,false,sp179),(180,false,sp180),(181,true,sp181),(182,true,sp182)]) (qx []) H126 J126 163 [.tmp 4] (qz Tryz.f126) (argsT S126 L126 g) [] (settle0 K) X:=by kernel_rfl
theorem F126_ok (g:prodL L126) (K X:Kn) (h:F126 g K):FCalls Tryz.prog 126 (argsT S126 L126 g) [] K X:=
 FCalls.settle0 (qq qY (jq (zq qzz (zq sp177_ok (zq sp178_ok (zq sp179_ok (zq sp180_ok (zq sp181_ok (zq sp182_ok z8)))))))) qj rfl Tryz.func126 (c:=qz Tryz.f126) rfl Tryz.ntmps126 Tryz.results126 (by unfold qv;rw [Tryz.func126];kernel_rfl) (Nat.le_of_ble_eq_true (by kernel_rfl)) (c0:=0) (Eq.mp (F126_eq g K X) h))
end Go.Proofs.YtbglndogddddoaaGreatDoor
namespace Go.Proofs.YtbglndogddddoaaGreatDoor
open Go.RowKit
set_option maxRecDepth 100000
theorem F68_L17_is {c:Chg} {K:Kn} (hl:c.over.length<=4194304) (h:KI K (vu idC c.over)):F68_L17 K (1,c,()):=by
 unfold F68_L17
 unfold vu at h
 refine qQ.errsN (c.over.length-1) (We idC c.over) (fun n=>(((n+1:Nat):Int),c,())) (KI K) h rfl (fun W n hn h0 h1=> ?_) fun h W=> ?_
 . show Zr K W ((n+1:Nat):Int) c
   unfold Zr
   rw [qt (show n+1<c.over.length by omega),cond_true]
   rw [overE_at (by omega)] at h0 h1
   rw [wrapP (by omega)]
   refine qE (show n+1-1<c.over.length by omega) (qE (show n+1<c.over.length by omega) ⟨trivial, ?_⟩)
   simp only [Nat.add_sub_cancel]
   cases e:decide (0<=idC c.over[n] c.over[n+1])
   . rw [e] at h0;rw [cond_false,zJ (show n+1<c.over.length by omega) (by omega)];exact h0 rfl
   . rw [e] at h1;exact h1 (by decide)
 . show Zr K W ((c.over.length-1+1:Nat):Int) c
   unfold Zr
   rw [decide_eq_false (by omega),cond_false];exact h
theorem F68_J15_is {t:Bool} {c:Chg} {K:Kn} (hp:wl c) (h:KI K (fP15 t c)):ZA K t c:=by
 unfold ZA
 revert h
 unfold fP15
 exact qI (K:=KI K) id (qI (K:=KI K) id (F68_L17_is (zV hp).2.2.2.2))
theorem F68_L12_is {c:Chg} {K:Kn} (hp:wl c) (h:KI K (fP12 c)):qq8 K (c.lines,(c.lines.length:Int),0,c,()):=by
 obtain ⟨p1,p2,p3,p4,p5⟩:=zV hp
 unfold qq8
 unfold fP12 at h
 refine qQ.errsN c.lines.length (lineE c.lines) (fun n=>(c.lines,(c.lines.length:Int),(n:Int),c,())) (fun e=>KI K (bif !decide (e=0)then e else fP15 (bif decide (c.kind=7)then decide ((c.over.length:Int)=0)else false) c)) h rfl (fun W n hn h0 h1=> ?_) fun h W=> ?_
 . show Z7 K W c.lines c.lines.length n c
   unfold Z7
   rw [qt hn,cond_true]
   rw [lineE_at hn] at h0 h1
   refine qE hn ⟨trivial, ?_⟩
   cases e:wu c.lines[n]
   . rw [e] at h1;exact h1 (by decide)
   . rw [e] at h0;simp only [Bool.not_true,cond_false];rw [zJ hn (by omega)];exact h0 rfl
 . show Z7 K W c.lines c.lines.length c.lines.length c
   unfold Z7
   rw [qm,cond_false]
   exact xF (J:=fun b=>ZA K b c) (f:=fun b=>fP15 b c) (K:=KI K) (fun _ h=>F68_J15_is hp h) h
theorem F68_J6_is {t:Bool} {c:Chg} {K:Kn} (hp:wl c) (h:KI K (fP6 t c)):WU K t c:=by
 unfold WU
 revert h
 unfold fP6
 exact qI (K:=KI K) id (qI (K:=KI K) id (F68_L12_is hp))
theorem F68_J7_is {t:Bool} {c:Chg} {K:Kn} (hp:wl c) (h:KI K (fP7 t c)):Yq K t c:=by
 unfold Yq
 revert h
 unfold fP7
 exact qI (K:=KI K) id (qI (K:=KI K) id (xF (J:=fun b=>WU K b c) (f:=fun b=>fP6 b c) (K:=KI K) (fun _ h=>F68_J6_is hp h)))
theorem Kk {t:Bool} {c:Chg} {K:Kn} (hp:wl c) (h:KI K (fP8 t c)):F68_J8 K t c:=by
 unfold F68_J8
 revert h
 unfold fP8
 exact qI (K:=KI K) id (xF (J:=fun b=>Yq K b c) (f:=fun b=>fP7 b c) (K:=KI K) (fun _ h=>F68_J7_is hp h))
theorem K5 {t:Bool} {c:Chg} {K:Kn} (hp:wl c) (h:KI K (fP9 t c)):JO K t c:=by
 unfold JO
 revert h
 unfold fP9
 refine qI (K:=KI K) id fun h=> ?_
 show bif decide (c.kind=2)then _ else _
 cases e:decide (c.kind=2)
 . rw [e] at h;exact Kk hp h
 . rw [e] at h;exact ⟨Nat.le_trans (zV hp).1 (by omega),Kk hp h⟩
theorem YQ {t:Bool} {c:Chg} {K:Kn} (hp:wl c) (hk:t=false->jk c) (h:KI K (fP10 t c)):Vq K t c:=by
 unfold Vq
 unfold fP10 at h
 cases t
 rotate_left
 . exact h
 rw [cond_false] at h ⊢
 refine ⟨hk rfl, ?_⟩
 revert h
 refine qI (K:=KI K) id fun h=> ?_
 show bif decide (c.kind=1)then _ else _
 cases e:decide (c.kind=1)
 . rw [e] at h;exact K5 hp h
 . rw [e] at h
   exact xF (J:=fun b=>JO K b c) (f:=fun b=>fP9 b c) (K:=KI K) (fun _ h=>K5 hp h) h
theorem F68_is {c:Chg} {K:Kn} (hp:wl c) (h:KI K (zo c)):F68 (c,()) K:=by
 unfold F68
 unfold zo at h
 show bif decide (c.kind<1)then _ else _
 cases e:decide (c.kind<1)
 . rw [e] at h
   exact YQ hp (fun e2=>⟨by have: ¬c.kind<1:=of_decide_eq_false e;show 1<=c.kind;omega,by have: ¬7<c.kind:=of_decide_eq_false e2;show c.kind<=7;omega⟩) h
 . rw [e] at h
   exact YQ hp (fun e2=>by cases e2) h
def sp68:Sp:=⟨S68,L68,fun g=>wl g.1,fun g=> .int .i64 (zo g.1),fun _=>none⟩
theorem sp68_ok:sp68.Ok Tryz.prog 68 true:=
 ⟨fun g K X hp h=>F68_ok g K X (F68_is hp h),fun _ _ _=>rfl,fun _=>rfl,fun _ _=>⟨rfl,rfl⟩⟩
theorem F125_J10_is {t:Bool} {c:Chg} {K:Kn} (hp:wl c) (h:KI K (fR10 t c)):ky K t c:=by
 unfold ky
 revert h
 unfold fR10
 exact qI (K:=KI K) id (qI (K:=KI K) id fun h=>⟨Nat.le_trans (zV hp).2.2.2.2 (by omega),qI (K:=KI K) id id h⟩)
theorem Vr {t:Bool} {c:Chg} {K:Kn} (hp:wl c) (h:KI K (fR8 t c)):kF K t c:=by
 unfold kF
 revert h
 unfold fR8
 exact qI (K:=KI K) id (qI (K:=KI K) id (qI (K:=KI K) (fun h=>⟨(zV hp).2.2.2.1,h⟩) (xF (J:=fun b=>ky K b c) (f:=fun b=>fR10 b c) (K:=KI K) (fun _ h=>F125_J10_is hp h))))
theorem Wz {t:Bool} {c:Chg} {K:Kn} (hp:wl c) (h:KI K (fR6 t c)):VQ K t c:=by
 unfold VQ
 revert h
 unfold fR6
 refine qI (K:=KI K) id fun h=> ?_
 show bif decide (c.kind=3)then _ else _
 cases e:decide (c.kind=3)
 . rw [e] at h;exact Vr hp h
 . rw [e] at h
   exact xF (J:=fun b=>kF K b c) (f:=fun b=>fR8 b c) (K:=KI K) (fun _ h=>Vr hp h) h
theorem Wu {t:Bool} {c:Chg} {K:Kn} (hp:wl c) (h:KI K (fR4 t c)):kU K t c:=by
 unfold kU
 revert h
 unfold fR4
 refine qI (K:=KI K) id fun h=> ?_
 show bif decide (c.kind=2)then _ else _
 cases e:decide (c.kind=2)
 . rw [e] at h;exact Wz hp h
 . rw [e] at h;exact ⟨Nat.le_trans (zV hp).1 (by omega),Wz hp h⟩
theorem F125_J2_is {t:Bool} {c:Chg} {K:Kn} (hp:wl c) (h:KI K (fR2 t c)):Jv K t c:=by
 unfold Jv
 revert h
 unfold fR2
 refine qI (K:=KI K) id fun h=>⟨trivial,trivial, ?_⟩
 revert h
 refine qI (K:=KI K) id fun h=> ?_
 show bif decide (c.kind=1)then _ else _
 cases e:decide (c.kind=1)
 . rw [e] at h;exact Wu hp h
 . rw [e] at h
   exact xF (J:=fun b=>kU K b c) (f:=fun b=>fR4 b c) (K:=KI K) (fun _ h=>Wu hp h) h
theorem F125_is {c:Chg} {K:Kn} (hp:wl c) (h:KI K (jH c)):F125 (c,()) K:=
 xF (J:=fun b=>Jv K b c) (f:=fun b=>fR2 b c) (K:=KI K) (fun _ h=>F125_J2_is hp h) h
def sp125:Sp:=⟨S125,L125,fun g=>wl g.1,fun g=> .int .i64 (jH g.1),fun _=>none⟩
theorem sp125_ok:sp125.Ok Tryz.prog 125 true:=
 ⟨fun g K X hp h=>F125_ok g K X (F125_is hp h),fun _ _ _=>rfl,fun _=>rfl,fun _ _=>⟨rfl,rfl⟩⟩
theorem F126_J22_is {c:Chg} {K:Kn} (h:KI K (KW c)):(bif decide (c.kind=2)then vn K (qs c.parent c.file) c else vn K false c):=by
 unfold KW at h
 have hJ: ∀b,KI K (bif b then 20 else bif (bif kn c.kind then (bif qs c.after c.before then (bif decide (c.kind=6)then true else !(qs c.after c.file))else false)else false)then 1 else 0)->vn K b c:=by
  intro b
  unfold vn
  refine qI (K:=KI K) id fun h=>⟨trivial, ?_⟩
  have hL: ∀b:Bool,KI K (bif b then 1 else 0)->vG K b:=fun b=>by unfold vG;exact qI (K:=KI K) id id
  cases e1:kn c.kind
  . rw [e1] at h;exact hL _ h
  . rw [e1] at h
    show bif qs c.after c.before then _ else _
    cases e2:qs c.after c.before
    . rw [e2] at h;exact hL _ h
    . rw [e2] at h
      exact xF (J:=vG K) (f:=fun b:Bool=>bif b then (1:Int)else 0) (K:=KI K) hL h
 exact xF (J:=fun b=>vn K b c) (f:=fun b=>bif b then 20 else bif (bif kn c.kind then (bif qs c.after c.before then (bif decide (c.kind=6)then true else !(qs c.after c.file))else false)else false)then 1 else 0) (K:=KI K) hJ h
theorem Xd {own:List Atm} {c:Chg} {K:Kn} (hp:wl c) (h:KI K (rF25 own c)):ZL K own c:=by
 have hl:=(zV hp).2.2.2.2
 unfold ZL F126_L18
 unfold rF25 at h
 have hlen:(Zz c own).length=c.over.length:=by simp [Zz]
 refine qQ.errs (Zz c own) (fun n=>(own,(n:Int),c,())) (fun e=>KI K (bif !decide (e=0)then e else KW c)) h rfl (fun W n hn h0 h1=> ?_) fun h W=> ?_
 . show yM K W own n c
   rw [hlen] at hn
   unfold yM
   rw [qt hn,cond_true]
   simp only [Zz,List.getElem_map] at h0 h1
   refine qE hn (qE hn ⟨trivial,trivial,trivial, ?_⟩)
   generalize jp c.over[n] own (ZZ c.kind c.file (vv own c.over[n]))=e at h0 h1 ⊢
   by_cases z:e=0
   . rw [decide_eq_true z,Bool.not_true,cond_false,zJ hn (by omega)];exact h0 z
   . have h1:=h1 z
     rw [decide_eq_false z] at h1 ⊢
     exact h1
 . show yM K W own ((Zz c own).length:Nat) c
   rw [hlen]
   unfold yM
   rw [qm,cond_false]
   exact F126_J22_is h
theorem Xw {own:List Atm} {c:Chg} {K:Kn} (hp:wl c) (h:KI K (rF26 own c)):Zf K own c:=by
 unfold Zf
 unfold rF26 at h
 refine ⟨trivial, ?_⟩
 cases e1:kn c.kind
 . rw [e1] at h;exact Xd hp h
 rw [e1] at h
 rw [cond_true] at h ⊢
 unfold F126_L10
 refine qQ.errs [jp c.after own (QU own c.file c.after),jp c.before own (QU own c.file c.before)] (fun n=>(own,[c.after,c.before],(n:Int),c,())) (fun e=>KI K (bif !decide (e=0)then e else rF25 own c)) ?_ rfl (fun W n hn h0 h1=> ?_) fun h W=> ?_
 . show KI K (bif !decide (errs _=0)then errs _ else rF25 own c)
   revert h
   generalize jp c.after own (QU own c.file c.after)=a
   generalize jp c.before own (QU own c.file c.before)=b
   intro h
   by_cases z:a=0
   . rw [decide_eq_true z] at h
     rw [Bool.not_true,cond_false] at h
     by_cases y:b=0
     . have e:errs [a,b]=0:=by simp [errs,z,y]
       rw [decide_eq_true y] at h
       rw [e];exact h
     . have e:errs [a,b]=b:=by simp [errs,z,y]
       rw [e,decide_eq_false y]
       rw [decide_eq_false y] at h
       exact h
   . have e:errs [a,b]=a:=by simp [errs,z]
     rw [e,decide_eq_false z]
     rw [decide_eq_false z] at h
     exact h
 . show kW K W own [c.after,c.before] n c
   unfold kW
   have hn2:n< [c.after,c.before].length:=hn
   rw [show decide ((n:Int) <2)=true from decide_eq_true (by simp only [List.length_cons,List.length_nil] at hn;omega),cond_true]
   have hg: ∃x,[c.after,c.before][n]'hn2=x/\[jp c.after own (QU own c.file c.after),jp c.before own (QU own c.file c.before)][n]=jp x own (QU own c.file x):=by
    have:n=0∨n=1:=by simp only [List.length_cons,List.length_nil] at hn;omega
    rcases this with rfl | rfl
    . exact ⟨_,rfl,rfl⟩
    . exact ⟨_,rfl,rfl⟩
   obtain ⟨x,hx,hy⟩:=hg
   rw [hy] at h0 h1
   have hJ: ∀e:Int,(e=0->W (own,[c.after,c.before],((n+1:Nat):Int),c,()))->(e≠0->KI K (bif !decide (e=0)then e else rF25 own c))->Jq K W own [c.after,c.before] n e c:=by
    intro e h0 h1
    unfold Jq
    by_cases z:e=0
    . rw [decide_eq_true z,Bool.not_true,cond_false,zJ hn2 (by simp)];exact h0 z
    . have h1:=h1 z
      rw [decide_eq_false z] at h1 ⊢;exact h1
   refine qE hn2 (qE hn2 ?_)
   rw [hx]
   unfold QU at h0 h1
   cases e2:qs x c.file
   . rw [e2] at h0 h1
     rw [cond_false]
     refine qE hn2 ?_
     rw [hx]
     exact ⟨trivial,trivial,trivial,hJ _ h0 h1⟩
   . rw [e2] at h0 h1
     exact ⟨trivial,hJ _ h0 h1⟩
 . show kW K W own [c.after,c.before] 2 c
   unfold kW
   exact Xd hp h
theorem WZ {own:List Atm} {e:Int} {c:Chg} {K:Kn} (hp:wl c) (h:KI K (rF6 own e c)):XT K own e c:=by
 unfold XT
 revert h
 unfold rF6
 exact qI (K:=KI K) id (Xw hp)
theorem Wj {own:List Atm} {t:Bool} {c:Chg} {K:Kn} (hp:wl c) (h:KI K (rF7 own t c)):Vw K own t c:=by
 unfold Vw
 revert h
 unfold rF7
 refine qI (K:=KI K) (fun h=>⟨trivial, ?_⟩) (Xw hp)
 cases e:decide ((vv own c.parent).kind=1)
 . rw [e] at h;exact ⟨trivial,WZ hp h⟩
 . rw [e] at h;exact ⟨trivial,WZ hp h⟩
theorem Xa {own:List Atm} {c:Chg} {K:Kn} (hp:wl c) (h:KI K (rF27 own c)):Zu K own c:=by
 unfold Zu
 unfold rF27 at h
 cases e:decide (c.kind=2)
 . rw [e] at h;exact Wj hp h
 . rw [e] at h;exact ⟨trivial,Wj hp h⟩
theorem F126_J2_is {own:List Atm} {t:Bool} {c:Chg} {K:Kn} (hp:wl c) (h:KI K (rF2 own t c)):Zt K own t c:=by
 unfold Zt
 revert h
 unfold rF2
 refine qI (K:=KI K) (fun h=>⟨trivial,trivial,trivial, ?_⟩) (Xa hp)
 revert h
 unfold rF1
 exact qI (K:=KI K) id (Xa hp)
theorem F126_is {own:List Atm} {c:Chg} {K:Kn} (hp:wl c) (h:KI K (QZ c own)):F126 (c,own,()) K:=
 xF (J:=fun b=>Zt K own b c) (f:=fun b=>rF2 own b c) (K:=KI K) (fun _ h=>F126_J2_is hp h) h
def sp126:Sp:=⟨S126,L126,fun g=>wl g.1,fun g=> .int .i64 (QZ g.1 g.2.1),fun _=>none⟩
theorem sp126_ok:sp126.Ok Tryz.prog 126 true:=
 ⟨fun g K X hp h=>F126_ok g K X (F126_is hp h),fun _ _ _=>rfl,fun _=>rfl,fun _ _=>⟨rfl,rfl⟩⟩
set_option maxRecDepth 100000
theorem zi (x:Sx):(⟨x.isList,x.atom,x.list⟩:Sx)=x:=by cases x;rfl
def z6 (d:Dig):Sx:=qD (bif zk d dz then ⟨#[]⟩else XG d)
def qi (x:Idn):Sx:=zy [z6 x.patch,qW x.n]
def qp (l:List Idn):Sx:=zy (l.map qi)
def yw (l:List ByteArray):Sx:=zy (l.map qD)
def zH (k:Nat) (c:Chg):List Sx:=match k with
 | 1=>[qW c.typ]
 | 2=>[qi c.file,qi c.parent,qD c.name,qp c.over]
 | 3=>[qi c.file,qW c.mode,qp c.over]
 | 4=>[qi c.file,qD c.data,qp c.over]
 | 5=>[qi c.file,qi c.after,qi c.before,yw c.lines]
 | 6=>[qi c.file,qi c.after,qi c.before,qp c.over]
 | 7=>[qp c.over]
 | _=>[]
def chX (c:Chg):Sx:=zy (qW c.kind::zH c.kind.toNat c)
def WC:ByteArray:=⟨#[113,117,105,108,116,49]⟩
def zu (a m:ByteArray) (t:Int) (D:List Sx) (cs:List Chg):Sx:=zy [qD WC,qD a,qD m,qW t,zy D,zy (cs.map chX)]
def YD (a m:ByteArray) (t:Int) (ds:List Dig) (cs:List Chg):ByteArray×Int:=
 bif (bif !decide ((xi (zu a m t (ds.map z6) cs)).2=0)then true else decide (65536< ((xi (zu a m t (ds.map z6) cs)).1.size:Int)))then (⟨#[]⟩,4)else ((xi (zu a m t (ds.map z6) cs)).1,0)
def tblL:List (Int×ByteArray×Nat):=[(1,⟨#[]⟩,160),(2,⟨#[]⟩,161),(3,⟨#[]⟩,164),(4,⟨#[]⟩,165),(5,⟨#[]⟩,166),(6,⟨#[]⟩,168),(7,⟨#[]⟩,169)]
def chW (c:Chg):Prop:=jj c.typ/\jj c.mode/\jj c.file.n/\jj c.parent.n/\jj c.after.n/\jj c.before.n/\ ∀x∈c.over,jj x.n
def ovP (l:List Idn):Prop:=l.length<=4194304/\ ∀x∈l,jj x.n
theorem QD {c:Chg} (hp:wl c) (hw:chW c):ovP c.over:=⟨(zV hp).2.2.2.2,hw.2.2.2.2.2.2⟩
theorem bk_digX (d:Dig):xo (z6 d)<=35:=by
 unfold z6
 rw [y7]
 cases zk d dz
 . rw [cond_false,YT];omega
 . have:(⟨#[]⟩:ByteArray).size=0:=rfl
   rw [cond_true,this];omega
theorem Vg {x:Idn} (h:jj x.n):xo (qi x)<=62:=by
 have h1:=bk_digX x.patch
 have h2:=Z5 h
 unfold qi
 rw [wE]
 simp only [zl]
 omega
theorem VD {α:Type} (f:α->Sx) (m:Nat): ∀(l:List α),(∀x∈l,xo (f x)<=m)->zl (l.map f)<=m*l.length
 | [],_=>by simp [zl]
 | x::l,h=>by
  have h1:=h x (List.mem_cons_self ..)
  have h2:=VD f m l fun y hy=>h y (List.mem_cons_of_mem _ hy)
  simp only [List.map_cons,zl,List.length_cons,Nat.mul_succ]
  omega
theorem bk_overX {l:List Idn} (h:ovP l):xo (qp l)<=62*l.length+3:=by
 unfold qp
 rw [wE]
 have:=VD qi 62 l fun x hx=>Vg (h.2 x hx)
 omega
theorem bk_linesX (l:List ByteArray):xo (yw l)<=3*(l.map ja).sum+3:=by
 unfold yw
 rw [wE]
 have:zl (l.map qD)<=3*(l.map ja).sum:=by
  induction l with
  | nil=>simp [zl]
  | cons s l ih=>
   simp only [List.map_cons,zl,List.sum_cons,y7,ja] at ih ⊢
   omega
 omega
theorem bk_chX {c:Chg} (hp:wl c) (hw:chW c) (hk:jj c.kind):xo (chX c)<=5*qr c+300:=by
 have ho:=bk_overX (QD hp hw)
 have hl:=bk_linesX c.lines
 obtain ⟨w1,w2,w3,w4,w5,w6,w7⟩:=hw
 have e:=yb yQ 33 c.over fun x _=>Nat.le_refl _
 have h3:=Vg w3
 have h4:=Vg w4
 have h5:=Vg w5
 have h6:=Vg w6
 have h1:=Z5 w1
 have h2:=Z5 w2
 have hk:=Z5 hk
 have hb:qr c=(c.name.size+1)+(c.data.size+1)+((c.lines.map ja).sum+1)+((c.over.map yQ).sum+1)+135:=rfl
 unfold chX
 rw [wE]
 unfold zH
 split<;>simp only [zl,y7]<;>omega
end Go.Proofs.YtbglndogddddoaaGreatDoor
