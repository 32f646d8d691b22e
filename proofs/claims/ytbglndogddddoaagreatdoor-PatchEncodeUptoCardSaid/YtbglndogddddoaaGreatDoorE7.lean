import Derived.Shelf.RegionOpenPlain
import Derived.WalkKit
import Derived.Lib.Walk
import Derived.Lib.Bytealg
import Derived.Lib.BytesEntry
import Derived.BigCall
import Derived.BigGuard
import Derived.Deep.Draws
import Derived.Deep.QuietTactic
import Derived.BigQuiet
import Derived.Shelf.SlSortCmp.NoneTotal
import Derived.Test.YtbglndogddddoaaGreatDoorCards
import Derived.LaidLaws
import Derived.LaidHandle
import Derived.MakeChecks
import Derived.LaidMore
import Derived.OpenShut
import Derived.ProofKit
import Derived.Stop.Joined
import Derived.JoinedCond
import Derived.Test.YtbglndogddddoaaGreatDoorE6
set_option linter.unusedVariables false
set_option linter.unusedSimpArgs false
set_option linter.unusedSectionVars false
namespace Go.Proofs.YtbglndogddddoaaGreatDoor
open Go.RowKit Go.Lib Go.Shelf Go.Sort
theorem bytes_of {P:Program} {w:World} {b off:Nat} {l:List Int} (hc: ∀(j:Nat) (y:Int),l[j]? =some y->w.cell? ((⟨b,off,none⟩:Addr).add j)=some (.int .u8 y)) (c:Nat):
  (Extern.Bytes.bytesOf (.slice (some ⟨b,off,none⟩) l.length c)).run P w= .ok ⟨(bs l).toArray⟩ w:=by
 have hl:=run_loadBytesX (P:=P) w l ⟨b,off,none⟩ .empty hc
 show (Extern.Bytes.loadBytes ⟨b,off,none⟩ l.length .empty).run P w=_
 rw [hl]
 congr 1
 apply ByteArray.ext
 show (#[]:Array UInt8)++(Lib.bytesOf l).toArray=(bs l).toArray
 rw [Array.empty_append]
 rfl
set_option maxHeartbeats 1000000 in
set_option maxRecDepth 100000 in
theorem nan83 (x:Int) (W:World):Calls Tryz.prog 83 #[.int .i64 x] W fun e w'=>e= .returned (.bool false)/\w'=W:=by
 go_enter Tryz.func83,Tryz.ntmps83
 go_wp2
 go_ret
 exact ⟨rfl,rfl⟩
set_option maxHeartbeats 1000000 in
set_option maxRecDepth 100000 in
theorem cmp41 (x y:Int) (W:World):Calls Tryz.prog 41 #[.int .i64 x, .int .i64 y] W fun e w'=>e= .returned (.int .i64 (Qr x y))/\w'=W:=by
 have hn:=fun x W=>nan83 x W
 go_enter Tryz.func41,Tryz.ntmps41
 go_wp2_with (go_at_call 83;refine (hn _ _).mono ?_;rintro e w' ⟨rfl,rfl⟩)
 . have e:Qr x y= -1:=by unfold Qr;rw [decide_eq_true (by assumption)];rfl
   rw [e];go_ret;exact ⟨rfl,rfl⟩
 . have e:Qr x y=1:=by unfold Qr;rw [decide_eq_false (by omega),cond_false,decide_eq_true (by assumption)];rfl
   rw [e];go_ret;exact ⟨rfl,rfl⟩
 . have e:Qr x y=0:=by unfold Qr;rw [decide_eq_false (by omega),cond_false,decide_eq_false (by omega)];rfl
   rw [e];go_ret;exact ⟨rfl,rfl⟩
def j5 (x:Idn):List Value:=[.int .u8 x.patch.b0, .int .u8 x.patch.b1, .int .u8 x.patch.b2, .int .u8 x.patch.b3, .int .u8 x.patch.b4, .int .u8 x.patch.b5, .int .u8 x.patch.b6, .int .u8 x.patch.b7, .int .u8 x.patch.b8, .int .u8 x.patch.b9, .int .u8 x.patch.b10, .int .u8 x.patch.b11, .int .u8 x.patch.b12, .int .u8 x.patch.b13, .int .u8 x.patch.b14, .int .u8 x.patch.b15, .int .u8 x.patch.b16, .int .u8 x.patch.b17, .int .u8 x.patch.b18, .int .u8 x.patch.b19, .int .u8 x.patch.b20, .int .u8 x.patch.b21, .int .u8 x.patch.b22, .int .u8 x.patch.b23, .int .u8 x.patch.b24, .int .u8 x.patch.b25, .int .u8 x.patch.b26, .int .u8 x.patch.b27, .int .u8 x.patch.b28, .int .u8 x.patch.b29, .int .u8 x.patch.b30, .int .u8 x.patch.b31, .int .i64 x.n]
set_option maxHeartbeats 1000000 in
set_option maxRecDepth 100000 in
theorem cmp17a (x y:Idn) (W:World) (r r2:Int) (h3: ∀q,Calls Tryz.prog 40 #[.slice (some ⟨W.heap.size,0,none⟩) 32 32, .slice (some ⟨W.heap.size+1,0,none⟩) 32 32] ((((W.alloc (.cells (j5 x).toArray 36)).alloc (.cells (j5 y).toArray 36))).drewN q) fun e w'=>e= .returned (.int .i64 r)/\w'=((((W.alloc (.cells (j5 x).toArray 36)).alloc (.cells (j5 y).toArray 36))).drewN q))
  (h41: ∀W:World,Calls Tryz.prog 41 #[.int .i64 x.n, .int .i64 y.n] W fun e w'=>e= .returned (.int .i64 r2)/\w'=W):
  Calls Tryz.prog 17 #[.agg (j5 x).toArray, .agg (j5 y).toArray] W fun e w'=>e= .returned (.int .i64 (bif !decide (r=0)then r else r2))/\ ∃q os',w'=grow (W.drewN q) os':=by
 unfold j5 at h3 ⊢
 go_enter Tryz.func17,Tryz.ntmps17
 go_wp2
 go_quiet (first | (go_at_call 40;refine Calls.quiet_of_same (h3 _)))
 go_wp2_with (go_at_call 41;refine (h41 _).mono ?_;rintro e w' ⟨rfl,rfl⟩)
 . rename_i hh
   rw [show (bif !decide (r=0)then r else r2)=r by rw [decide_eq_false (by simpa using hh)];rfl]
   go_ret
   refine ⟨by kernel_rfl, ?_⟩
   exact ⟨_,_,by rw [alloc_eq_grow,alloc_eq_grow,grow_grow];rfl⟩
 . rename_i hh
   rw [show (bif !decide (r=0)then r else r2)=r2 by rw [decide_eq_true (by simpa using hh)];rfl]
   go_ret
   refine ⟨by kernel_rfl, ?_⟩
   exact ⟨_,_,by rw [alloc_eq_grow,alloc_eq_grow,grow_grow];rfl⟩
theorem cmp17 (x y:Idn) (W:World):Calls Tryz.prog 17 #[.agg (j5 x).toArray, .agg (j5 y).toArray] W fun e w'=>e= .returned (.int .i64 (idC x y))/\ ∃q os',w'=grow (W.drewN q) os':=by
 have hb: ∀(d:Idn) (n:Nat) (w:World),w.heap[n]? =some (.cells (j5 d).toArray 36 (0,0))->(Extern.Bytes.bytesOf (.slice (some ⟨n,0,none⟩) 32 32)).run Tryz.prog w= .ok ⟨(bs (xD d.patch)).toArray⟩ w:=fun d n w hw=>bytes_of (l:=xD d.patch) (fun j z hz=>by
  have:(j5 d)[j]? =some (.int .u8 z):=by
   have e:j5 d=(xD d.patch).map (Value.int .u8)++[.int .i64 d.n]:=rfl
   have hj:j< ((xD d.patch).map (Value.int .u8)).length:=by
    rw [List.length_map];exact (List.getElem?_eq_some_iff.1 hz).1
   rw [e,List.getElem?_append_left hj,List.getElem?_map,hz];rfl
  simp only [Addr.add_lit,World.cell?,hw]
  simpa using this) 32
 have h1: ∀q,(Extern.Bytes.bytesOf (.slice (some ⟨W.heap.size,0,none⟩) 32 32)).run Tryz.prog ((((W.alloc (.cells (j5 x).toArray 36)).alloc (.cells (j5 y).toArray 36))).drewN q)= .ok ⟨(bs (xD x.patch)).toArray⟩ _:=fun q=>hb x _ _ (by show ((W.heap.push _).push _)[W.heap.size]? =_;simp [Array.getElem?_push])
 have h2: ∀q,(Extern.Bytes.bytesOf (.slice (some ⟨W.heap.size+1,0,none⟩) 32 32)).run Tryz.prog ((((W.alloc (.cells (j5 x).toArray 36)).alloc (.cells (j5 y).toArray 36))).drewN q)= .ok ⟨(bs (xD y.patch)).toArray⟩ _:=fun q=>hb y _ _ (by show ((W.heap.push (.cells (j5 x).toArray 36 (0,0))).push _)[W.heap.size+1]? =_;rw [show W.heap.size+1=(W.heap.push (.cells (j5 x).toArray 36 (0,0))).size by simp,Array.getElem?_push_size])
 have h3: ∀q,Calls Tryz.prog 40 #[.slice (some ⟨W.heap.size,0,none⟩) 32 32, .slice (some ⟨W.heap.size+1,0,none⟩) 32 32] ((((W.alloc (.cells (j5 x).toArray 36)).alloc (.cells (j5 y).toArray 36))).drewN q) fun e w'=>e= .returned (.int .i64 (zG x.patch y.patch))/\w'=_:=fun q=>YR (h1 q) (h2 q)
 exact cmp17a x y W _ _ h3 fun W=>cmp41 x.n y.n W
set_option maxRecDepth 100000
def Yu:Go.Shelf.Ren:=⟨fun | 6=>87 | 15=>97 | 14=>138 | 28=>147 | 29=>148 | 20=>186 | 21=>187 | 22=>188 | 23=>189 | 24=>190 | 25=>191 | 26=>192 | 27=>193 | 46=>217 | 47=>195 | 48=>196 | 49=>218 | 50=>219 | 57=>231 | n=>n,fun | 22=>48 | 24=>36 | 25=>37 | 3=>3 | 39=>118 | 0=>0 | 53=>100 | 55=>137 | 4=>4 | 46=>161 | 45=>160 | 50=>165 | 5=>5 | 9=>9 | 66=>205 | 70=>209 | 76=>226 | 77=>227 | n=>n,fun | n=>n⟩
theorem Y1:Go.Proofs.SlLaysF0.n6 Tryz.prog Yu:={
 mixed:=by kernel_rfl
 f6:=⟨Tryz.f87.name,by decide,Tryz.func87.trans (congrArg some (by kernel_rfl))⟩
 f14:=⟨Tryz.f138.name,by decide,Tryz.func138.trans (congrArg some (by kernel_rfl))⟩
 f15:=Tryz.func97.trans (congrArg some (by kernel_rfl))
 f20:=⟨Tryz.f186.name,by decide,Tryz.func186.trans (congrArg some (by kernel_rfl))⟩
 f21:=⟨Tryz.f187.name,by decide,Tryz.func187.trans (congrArg some (by kernel_rfl))⟩
 f22:=⟨Tryz.f188.name,by decide,Tryz.func188.trans (congrArg some (by kernel_rfl))⟩
 f23:=⟨Tryz.f189.name,by decide,Tryz.func189.trans (congrArg some (by kernel_rfl))⟩
 f24:=⟨Tryz.f190.name,by decide,Tryz.func190.trans (congrArg some (by kernel_rfl))⟩
 f25:=⟨Tryz.f191.name,by decide,Tryz.func191.trans (congrArg some (by kernel_rfl))⟩
 f26:=⟨Tryz.f192.name,by decide,Tryz.func192.trans (congrArg some (by kernel_rfl))⟩
 f27:=⟨Tryz.f193.name,by decide,Tryz.func193.trans (congrArg some (by kernel_rfl))⟩
 f28:=Tryz.func147.trans (congrArg some (by kernel_rfl))
 f29:=Tryz.func148.trans (congrArg some (by kernel_rfl))
 f46:=⟨Tryz.f217.name,by decide,Tryz.func217.trans (congrArg some (by kernel_rfl))⟩
 f47:=Tryz.func195.trans (congrArg some (by kernel_rfl))
 f48:=Tryz.func196.trans (congrArg some (by kernel_rfl))
 f49:=⟨Tryz.f218.name,by decide,Tryz.func218.trans (congrArg some (by kernel_rfl))⟩
 f50:=⟨Tryz.f219.name,by decide,Tryz.func219.trans (congrArg some (by kernel_rfl))⟩
 f57:=⟨Tryz.f231.name,by decide,Tryz.func231.trans (congrArg some (by kernel_rfl))⟩
 t0:=Tryz.underlying0
 a0:=Tryz.isAgg0
 z0:=Tryz.sizeOf0
 v0:=Tryz.zeroValue0
 t3:=Tryz.underlying3
 a3:=Tryz.isAgg3
 z3:=Tryz.sizeOf3
 v3:=Tryz.zeroValue3
 t4:=Tryz.underlying4
 a4:=Tryz.isAgg4
 z4:=Tryz.sizeOf4
 v4:=Tryz.zeroValue4
 t5:=Tryz.underlying5
 a5:=Tryz.isAgg5
 z5:=Tryz.sizeOf5
 v5:=Tryz.zeroValue5
 t9:=Tryz.underlying9
 a9:=Tryz.isAgg9
 z9:=Tryz.sizeOf9
 v9:=Tryz.zeroValue9
 t22:=Tryz.underlying48
 a22:=Tryz.isAgg48
 z22:=Tryz.sizeOf48
 v22:=Tryz.zeroValue48
 t25:=Tryz.underlying37
 a25:=Tryz.isAgg37
 z25:=Tryz.sizeOf37
 v25:=Tryz.zeroValue37
 t39:=Tryz.underlying118
 a39:=Tryz.isAgg118
 z39:=Tryz.sizeOf118
 v39:=Tryz.zeroValue118
 t45:=Tryz.underlying160
 a45:=Tryz.isAgg160
 z45:=Tryz.sizeOf160
 v45:=Tryz.zeroValue160
 t46:=Tryz.underlying161
 a46:=Tryz.isAgg161
 z46:=Tryz.sizeOf161
 v46:=Tryz.zeroValue161
 t50:=Tryz.underlying165
 a50:=Tryz.isAgg165
 z50:=Tryz.sizeOf165
 v50:=Tryz.zeroValue165
 t53:=Tryz.underlying100
 a53:=Tryz.isAgg100
 z53:=Tryz.sizeOf100
 v53:=Tryz.zeroValue100
 t55:=Tryz.underlying137
 a55:=Tryz.isAgg137
 z55:=Tryz.sizeOf137
 v55:=Tryz.zeroValue137
 t66:=Tryz.underlying205
 a66:=Tryz.isAgg205
 z66:=Tryz.sizeOf205
 v66:=Tryz.zeroValue205
 t70:=Tryz.underlying209
 a70:=Tryz.isAgg209
 z70:=Tryz.sizeOf209
 v70:=Tryz.zeroValue209
 t76:=Tryz.underlying226
 a76:=Tryz.isAgg226
 z76:=Tryz.sizeOf226
 v76:=Tryz.zeroValue226
 t77:=Tryz.underlying227
 a77:=Tryz.isAgg227
 z77:=Tryz.sizeOf227
 v77:=Tryz.zeroValue227}
def ww (e:El) (x:ty e):List Value:=(enc e x).map tv
theorem flat_at {e:El} [Inhabited (ty e)] (l:List (ty e)) (j:Nat) (hj:j<l.length*sz e): ∃u,(encs e l)[j]? =some u/\(flatK (ww e) (sz e) l.toArray)[j]! =tv u:=by
 have hk:0<sz e:=by
  rcases Nat.eq_zero_or_pos (sz e)with h | h
  . rw [h] at hj;simp at hj
  . exact h
 have hi:j / sz e<l.length:=by rw [Nat.div_lt_iff_lt_mul hk];exact hj
 have hr:j%sz e<sz e:=Nat.mod_lt _ hk
 have he:(encs e l)[j]? =(enc e l[j / sz e])[j%sz e]? :=by
  have:=xA (l:=l) (i:=j / sz e) (xQ hi) hr
  rwa [Nat.mul_comm,Nat.div_add_mod] at this
 have hlen:j%sz e< (enc e l[j / sz e]).length:=by rw [zc];exact hr
 refine ⟨(enc e l[j / sz e])[j%sz e],by rw [he,xQ hlen], ?_⟩
 rw [get_flatK _ _ _ _ (by simpa using hj)]
 have h1:l.toArray[j / sz e]! =l[j / sz e]:=by rw [getElem!_pos l.toArray _ (by simpa using hi)];simp
 rw [h1]
 unfold ww
 rw [List.getElem!_eq_getElem?_getD,List.getElem?_map,xQ hlen];rfl
theorem sort_ok {e:El} [Inhabited (ty e)] (hI: ∀x:ty e, ∀u∈enc e x, ∃k n,u=T.int k n) {f c:FuncId} {srt:List (ty e)->List (ty e)} (he:qv Tryz.prog f=true) (hc:ytab c=none)
  (h0: ∀(p:Option Addr) (cap:Nat) (fv:Value) (w:World),Calls Tryz.prog f #[.slice p 0 cap,fv] w fun e w'=>e= .returned (.tuple #[])/\w'=w)
  (h1: ∀(b cap:Nat) (l:List (ty e)) (w:World),HoldsK (ww e) (sz e) w b 0 l.toArray->b<w.heap.size->l.length<=16777216->Calls Tryz.prog f #[.slice (some ⟨b,0,none⟩) l.length cap, .func (.func c) #[] #[]] w fun r w'=>r= .returned (.tuple #[])/\ ∃n os,w'=sortWorldK (ww e) (sz e) w b 0 n (srt l).toArray os)
  (hs: ∀l,(srt l).length=l.length) {l:List (ty e)} (hl:l.length<=16777216) {K X:Kn} (hK:K (.tu []) [some (.arr 0 e (srt l))]):FCalls Tryz.prog f [.oa e 0 0, .fn c [] []] [some (.arr 0 e l)] K X 1:=by
 intro g w hg
 refine ke.of he fun args hr=> ?_
 obtain ⟨x,y,rfl,hx,hy⟩:=rl_two hr
 have hy':y= .func (.func c) #[] #[]:=by
  cases hy with
  | fn _ _ _ xs ys _ a1 a2 _ _=>
   have e1:xs= #[]:=Array.eq_empty_of_size_eq_zero a1.symm
   have e2:ys= #[]:=Array.eq_empty_of_size_eq_zero a2.symm
   rw [e1,e2]
  | yl _ _ yi _ _ a1=>rw [hc] at a1;cases a1
 subst hy'
 obtain ⟨oi,o1,fits,row⟩:=hg.obj 0 (.arr 0 e l) rfl
 have o1:g.ob 0 0=some oi:=o1
 obtain ⟨f1,f2,f3⟩:=fits
 cases hx with
 | oa _ _ _ oi' A b1 b2 b3 b4=>
  rw [o1] at b1
  obtain rfl:=Option.some.inj b1
  by_cases hz:oi.cap=0
  . have hl0:l=[]:=List.length_eq_zero_iff.1 (by omega)
    subst hl0
    have hs0:srt []=[]:=List.length_eq_zero_iff.1 (by rw [hs];rfl)
    rw [show oi.len=0 by simpa using f1]
    refine (h0 _ _ _ w).mono ?_
    rintro r w' ⟨rfl,rfl⟩
    exact ⟨g,_,hg,Step.refl, .tu [],by rw [hs0] at hK;exact hK, .tu [] #[] rfl fun i c x hc=>by simp at hc⟩
  . obtain rfl:=b2 hz
    rcases row with ⟨_,r0⟩ | ⟨r1,blk,E,fr,r2,r3,r4,r5⟩
    . exact absurd r0 hz
    have r2:w.heap[oi.b]? =some (.cells blk E fr):=r2
    have hb:oi.b<w.heap.size:=vP (m:=false) r2
    have hle:l.length*sz e<=blk.size:=by have:=r4.le;rwa [show qX (.arr 0 e l)=encs e l from rfl,qe] at this
    have hH:HoldsK (ww e) (sz e) w oi.b 0 l.toArray:=by
     intro j hj
     have hj:j<l.length*sz e:=by simpa using hj
     obtain ⟨u,u1,u2⟩:=flat_at l j hj
     obtain ⟨x,x1,x2,x3⟩:=r4.at_ j u u1
     have hu: ∃k n,u=T.int k n:=by
      have:=List.mem_of_getElem? u1
      simp only [encs,List.mem_flatten,List.mem_map] at this
      obtain ⟨_,⟨z,_,rfl⟩,hz⟩:=this
      exact hI z u hz
     obtain ⟨k,n,rfl⟩:=hu
     cases x3
     refine ⟨?_, ?_⟩
     . rw [u2,Nat.zero_add]
       simp only [World.cell?,r2]
       have x1':blk[j]? =some (tv (.int k n)):=x1
       simpa using x1'
     . rw [Nat.zero_add]
       have:=r3 j (by omega)
       simp only [World.frozen?,r2]
       simp
       omega
    rw [f1]
    refine (h1 oi.b oi.cap l w hH hb hl).mono ?_
    rintro r w' ⟨rfl,n,os,rfl⟩
    have hF:(flatK (ww e) (sz e) (srt l).toArray).size=l.length*sz e:=by rw [size_flatK];simp [hs]
    have hheap:(sortWorldK (ww e) (sz e) w oi.b 0 n (srt l).toArray os).heap=w.heap.modify oi.b (onCells (putCells id 0 (flatK (ww e) (sz e) (srt l).toArray)))++os:=rfl
    have hat:(sortWorldK (ww e) (sz e) w oi.b 0 n (srt l).toArray os).heap[oi.b]? =some (.cells (putCells id 0 (flatK (ww e) (sz e) (srt l).toArray) blk) E fr):=by
     rw [hheap,Array.getElem?_append_left (by simpa using hb),Array.getElem?_modify,if_pos rfl,r2];rfl
    have hps:(putCells id 0 (flatK (ww e) (sz e) (srt l).toArray) blk).size=blk.size:=by simp [putCells]
    obtain ⟨k1,k2,k3⟩:=qP (st':=[some (.arr 0 e (srt l))]) (k:=0) (v:=0) (o':= .arr 0 e (srt l)) (oi:=oi) (w':=sortWorldK (ww e) (sz e) w oi.b 0 n (srt l).toArray os) hg
     (fun i=>by cases i<;>simp) (Nat.zero_le _) (Nat.le_refl _) rfl (.inr o1) (fun u oi' hu=>(hg.old 0 u oi' hu).2 _ rfl) ⟨by rw [hs];exact f1,f2,f3⟩
     (fun _=> .inr ⟨_,rfl,by unfold obBlk;rw [show g.ob 0 (obVer (.arr 0 e l))=some oi from o1];simp [hz]⟩) rfl rfl rfl (by rw [hheap];simp)
     (fun b hbs hbn=>by
      have hne:oi.b≠b:=fun h=>hbn _ rfl (by unfold obBlk;rw [show g.ob 0 (obVer (.arr 0 e l))=some oi from o1];simp [hz,h])
      rw [hheap,Array.getElem?_append_left (by simpa using hbs),Array.getElem?_modify,if_neg hne])
     (fun _=>⟨_,E,fr,hat,by rw [hps];exact r3,⟨by rw [hps];show (encs e (srt l)).length<=_;rw [qe,hs];exact hle,fun j u hj=>by
      have hj':j<l.length*sz e:=by
       have:=(List.getElem?_eq_some_iff.1 hj).1
       rwa [show qX (.arr 0 e (srt l))=encs e (srt l) from rfl,qe,hs] at this
      obtain ⟨u',u1,u2⟩:=flat_at (srt l) j (by rw [hs];exact hj')
      have:u'=u:=by
       have hj:(encs e (srt l))[j]? =some u:=hj
       rw [u1] at hj;exact Option.some.inj hj
      subst this
      have hu: ∃k n,u'=T.int k n:=by
       have:=List.mem_of_getElem? u1
       simp only [encs,List.mem_flatten,List.mem_map] at this
       obtain ⟨_,⟨z,_,rfl⟩,hz⟩:=this
       exact hI z u' hz
      obtain ⟨k,n,rfl⟩:=hu
      refine ⟨.int k n, ?_,rfl, .int k n⟩
      unfold putCells
      have hjb:j<blk.size:=by omega
      rw [Array.getElem?_mapIdx,Array.getElem?_eq_getElem hjb]
      simp only [Option.map_some,Nat.zero_le,true_and,Nat.zero_add,Nat.sub_zero]
      rw [if_pos (by rw [hF];exact hj'),u2];rfl⟩,by rw [hps];exact r5⟩)
     (fun o ho=>by
      have:o= .arr 0 e l:=by simpa using ho.symm
      subst this
      exact ⟨0,srt l,rfl⟩)
    exact ⟨_,_,k1,k2 _, .tu [],hK, .tu [] #[] rfl fun i c x hc=>by simp at hc⟩
theorem int_idk (x:Idn): ∀u∈enc .idk x, ∃k n,u=T.int k n:=by
 intro u hu
 have:((enc .idk x).all fun u=>match u with | .int _ _=>true | _=>false)=true:=by kernel_rfl
 have:=List.all_eq_true.1 this u hu
 cases u<;>first | exact ⟨_,_,rfl⟩ | cases this
theorem len_pdq {α:Type} [Inhabited α] {lt:α->α->Bool} (hO:SWO lt) (d:Array α):(pdq lt d 0 d.size (Lib.bitLen d.size) true true).size=d.size:=
 (pdq_sorts lt hO d 0 d.size (Lib.bitLen d.size) true true (Nat.zero_le _) (Nat.le_refl _) (Or.inl rfl)).1.1
theorem sortI_len (l:List Idn):(Wa l).length=l.length:=by
 have:=len_pdq swo_id l.toArray
 unfold Wa
 simpa using this
theorem agg36: ∀w,(isAgg 36).run Tryz.prog w= .ok true w:=fun w=>by
 unfold isAgg underlying
 simp only [Sem.run_bind,show Tryz.prog.underlying 36=_ from Tryz.underlying36]
 rfl
end Go.Proofs.YtbglndogddddoaaGreatDoor
namespace Go.Proofs.YtbglndogddddoaaGreatDoor
open Go.RowKit
attribute [local irreducible] qJ qd
set_option maxRecDepth 100000
def H15:List (Nat×Hint):=[]
def J15:List (Nat×Hint):=[]
abbrev S15:List Sh:=[.ag [.leaf, .leaf, .leaf, .leaf, .leaf]]
abbrev L15:List Lf:=[.str, .str, .int .i64, .sl .dig, .sl .chg]
def F15 (g:prodL L15) (K:Kn):Prop:=
 sp13.pre (g.1,g.2.1,g.2.2.1,g.2.2.2.1,g.2.2.2.2.1,())/\
 bif !decide ((xe g.1 g.2.1 g.2.2.1 g.2.2.2.1 g.2.2.2.2.1).2.2=0)then (
  K (.tu [.ag (enc .dig dz), .int .i64 ((xe g.1 g.2.1 g.2.2.1 g.2.2.2.1 g.2.2.2.2.1).2.2)]) [])
 else (
  sp33.pre ((xe g.1 g.2.1 g.2.2.1 g.2.2.2.1 g.2.2.2.2.1).2.1,())/\
 K (.tu [.ag (enc .dig (Q0 ((xe g.1 g.2.1 g.2.2.1 g.2.2.2.1 g.2.2.2.2.1).2.1))), .int .i64 0]) [])
theorem F15_eq (g:prodL L15) (K X:Kn):F15 g K=qJ D (qk [] [(13,true,sp13),(33,true,sp33)]) (qx []) H15 J15 17 [.cell 2 32, .tmp 3] (qz Tryz.f15) (argsT S15 L15 g) [] (settle0 K) X:=by kernel_rfl
theorem F15_ok (g:prodL L15) (K X:Kn) (h:F15 g K):FCalls Tryz.prog 15 (argsT S15 L15 g) [] K X:=
 FCalls.settle0 (qq qY (jq (zq qqp (zq sp33_ok z8))) qj rfl Tryz.func15 (c:=qz Tryz.f15) rfl Tryz.ntmps15 Tryz.results15 (by unfold qv;rw [Tryz.func15];kernel_rfl) (Nat.le_of_ble_eq_true (by kernel_rfl)) (c0:=0) (Eq.mp (F15_eq g K X) h))
def H86:List (Nat×Hint):=[]
def J86:List (Nat×Hint):=[(2,⟨[((2,[]),none),((3,[]),none)],[(1, .leaf),(2, .pt 0 0),(3, .pt 1 0),(10, .leaf)],[.el, .el],[.pr .dig, .bool, .el .idk, .el .idk]⟩),(3,⟨[((2,[]),none),((3,[]),none)],[(2, .pt 0 0),(3, .pt 1 0)],[.el, .el],[.el .idk, .el .idk]⟩)]
abbrev S86:List Sh:=[.leaf, .leaf]
abbrev L86:List Lf:=[.el .idk, .pr .dig]
def F86_J4 (K:Kn) (x_3 t_3:Idn):Prop:=
 K (.ag (enc .idk x_3)) []
def qqF (K:Kn) (t_1:Dig) (t2_1:Bool) (x_1 t3_1:Idn):Prop:=
 bif t2_1 then (
  F86_J4 K (⟨t_1,x_1.n⟩:Idn) t3_1)
 else (
  F86_J4 K x_1 t3_1)
def F86 (g:prodL L86) (K:Kn):Prop:=
 True/\
 bif Qg g.1 then (
  qqF K g.2.1 (decide (0<=g.1.n)) g.1 iz)
 else (
  qqF K g.2.1 false g.1 iz)
theorem F86_eq (g:prodL L86) (K X:Kn):F86 g K=qJ D (qk [] [(47,true,sp47)]) (qx []) H86 J86 14 [.cell 3 36] (qz Tryz.f86) (argsT S86 L86 g) [] (settle0 K) X:=by kernel_rfl
theorem F86_ok (g:prodL L86) (K X:Kn) (h:F86 g K):FCalls Tryz.prog 86 (argsT S86 L86 g) [] K X:=
 FCalls.settle0 (qq (Γ:=qk [] [(47,true,sp47)]) (mu:=qx []) (H:=H86) (J:=J86) qY (qV (rs:=[]) (l:=[(47,true,sp47)]) (fun p hp=>by cases hp) (by intro p hp;simp only [List.mem_cons,List.not_mem_nil,or_false] at hp;subst hp;exact qqn)) qj rfl Tryz.func86 (c:=qz Tryz.f86) rfl Tryz.ntmps86 Tryz.results86 (by unfold qv;rw [Tryz.func86];kernel_rfl) (Nat.le_of_ble_eq_true (by kernel_rfl)) (c0:=0) (Eq.mp (F86_eq g K X) h))
def sp86:Sp:=⟨S86,L86,fun _=>True,fun g=> .ag (enc .idk (jt g.2.1 g.1)),fun _=>none⟩
theorem sp86_ok:sp86.Ok Tryz.prog 86 false:=
 ⟨fun g K X hp h=>F86_ok g K X (by
  have h:K (.ag (enc .idk (jt g.2.1 g.1))) []:=h
  refine ⟨trivial, ?_⟩
  unfold jt at h
  exact xF (J:=fun b=>qqF K g.2.1 b g.1 iz) (f:=fun b=>bif b then (⟨g.2.1,g.1.n⟩:Idn)else g.1) (K:=fun x=>K (.ag (enc .idk x)) []) (fun b h=>by unfold qqF;cases b<;>exact h) h),fun _ _ _=>rfl,fun _=>rfl,by first | exact fun _ _=>⟨rfl,rfl⟩ | (intro h;cases h)⟩
end Go.Proofs.YtbglndogddddoaaGreatDoor
namespace Go.Proofs.YtbglndogddddoaaGreatDoor
open Go.RowKit Go.Lib Go.Shelf Go.Sort
set_option maxRecDepth 100000
theorem size36: ∀w,(Go.sizeOf 36).run Tryz.prog w= .ok 33 w:=fun w=>qO (by rw [jV,show Tryz.prog.info? 36=some Tryz.t36 from Tryz.type36];rfl) w
theorem encVs_one {e:El} (x:ty e) (hI: ∀u∈enc e x, ∃k n,u=T.int k n): ∀v∈ww e x,v.oneCell'=true:=fun v hv=>by
 obtain ⟨u,hu,rfl⟩:=List.mem_map.1 hv
 obtain ⟨k,n,rfl⟩:=hI u hu
 rfl
theorem F87_ok {l:List Idn} {K X:Kn} (hl:l.length<=4194304) (h:K (.tu []) [some (.arr 0 .idk (Wa l))]):FCalls Tryz.prog 87 [.oa .idk 0 0, .fn 17 [] []] [some (.arr 0 .idk l)] K X 1:=
 sort_ok (e:= .idk) int_idk (srt:=Wa) (by kernel_rfl) (by rfl)
  (fun p cap fv w=>AnyF.slices_SortFunc_none Y1 p cap fv w)
  (fun b cap l w hH hb hs=>by
   have eg: ∀args w,(callFunc 17 args).run Tryz.prog w= .ok (.enter 17 args) w:=enters_of Tryz.func17 (by kernel_rfl) rfl
   have:=AnyQ.slices_SortFunc_eq Y1 33 agg36 size36 (ww .idk) (fun x=>rfl) (fun x=>encVs_one x (int_idk x)) idC swo_id 17 #[] b 0 cap l.toArray w eg (fun m os dk hk x y=>cmp17 x y _) hH hb (by show l.length<_;omega)
   exact this.mono fun r w' ⟨e1,n,os,e2⟩=>⟨e1,n,os,by rw [e2];rfl⟩)
  sortI_len (by omega) h
abbrev S87:List Sh:=[.oa .idk 0, .fn 17 [] []]
abbrev O87:List ObSh:=[.arr .idk]
abbrev L87:List Lf:=[.sl .idk]
def rw87:Raw:=⟨S87,O87,L87,1,fun g K _=>pre87 g/\K (.tu []) [some (.arr 0 .idk (Wa g.1))]⟩
theorem rw87_ok:rw87.Ok Tryz.prog 87:=fun g K X h=>F87_ok h.1 h.2
theorem exP_size {a m:ByteArray} {t:Int} {ds:List Dig} {cs:List Chg}:(xe a m t ds cs).2.1.size<=65536:=by
 by_cases z:(xe a m t ds cs).2.2=0
 . have h:=exP_ok z
   rw [exP_eq z]
   show (xi (zu a m t (jS ds) cs)).1.size<=65536
   omega
 . have e0:(⟨#[]⟩:ByteArray).size=0:=rfl
   have:(xe a m t ds cs).2.1=⟨#[]⟩:=by
    unfold xe at z ⊢
    cases h1:decide (zP zG a m t ds cs=0)
    . rfl
    . rw [h1] at z
      simp only [Bool.not_true,cond_false] at z ⊢
      unfold JZ at z ⊢
      cases h2:decide ((QQ cs).2=0)
      . rfl
      . rw [h2] at z
        simp only [Bool.not_true,cond_false] at z ⊢
        unfold exP5 at z ⊢
        revert z
        generalize (bif !decide ((xi (zu a m t (jS ds) cs)).2=0)then true else decide (65536< ((xi (zu a m t (jS ds) cs)).1.size:Int)))=b
        intro z
        cases b
        . exact absurd rfl z
        . rfl
   rw [this,e0];omega
theorem F15_is {a m:ByteArray} {t:Int} {ds:List Dig} {cs:List Chg} {K:Kn} (hp:xP a m t ds cs) (h:K (.tu [.ag (enc .dig (Y0 a m t ds cs).1), .int .i64 (Y0 a m t ds cs).2]) []):F15 (a,m,t,ds,cs,()) K:=by
 unfold F15
 refine ⟨hp, ?_⟩
 unfold Y0 at h
 show bif !decide ((xe a m t ds cs).2.2=0)then _ else _
 by_cases z:(xe a m t ds cs).2.2=0
 . rw [decide_eq_true z] at h ⊢
   exact ⟨Nat.le_trans exP_size (by omega),h⟩
 . rw [decide_eq_false z] at h ⊢
   exact h
def sp15:Sp:=⟨S15,L15,fun g=>xP g.1 g.2.1 g.2.2.1 g.2.2.2.1 g.2.2.2.2.1,fun g=> .tu [.ag (enc .dig (Y0 g.1 g.2.1 g.2.2.1 g.2.2.2.1 g.2.2.2.2.1).1), .int .i64 (Y0 g.1 g.2.1 g.2.2.1 g.2.2.2.1 g.2.2.2.2.1).2],fun _=>none⟩
theorem sp15_ok:sp15.Ok Tryz.prog 15 true:=
 ⟨fun g K X hp h=>F15_ok g K X (F15_is hp h),fun _ _ _=>rfl,fun _=>rfl,fun _ _=>⟨rfl,rfl⟩⟩
end Go.Proofs.YtbglndogddddoaaGreatDoor
namespace Go.Proofs.YtbglndogddddoaaGreatDoor
open Go.RowKit
attribute [local irreducible] qJ qd
set_option maxRecDepth 100000
def H44:List (Nat×Hint):=[(9,⟨[((4,[]),none)],[(4, .oa .atm 0),(8, .fn 86 [] [.leaf]),(32, .oa .atm 0),(33, .leaf),(34, .leaf)],[.arr .atm],[.pr .dig, .int .i64, .int .i64, .sl .atm]⟩),(20,⟨[((4,[]),none),((10,[]),none),((11,[]),some .idk)],[(4, .oa .atm 0),(8, .fn 86 [] [.leaf]),(9, .leaf),(10, .pt 1 0),(11, .oa .idk 2),(32, .oa .atm 0),(33, .leaf),(34, .leaf),(74, .leaf),(75, .leaf),(76, .leaf)],[.arr .atm, .el, .arr .idk],[.pr .dig, .int .i64, .int .i64, .int .i64, .sl .idk, .int .i64, .int .i64, .sl .atm, .el .atm, .sl .idk]⟩)]
def J44:List (Nat×Hint):=[(7,⟨[((4,[]),none)],[(4, .oa .atm 0),(7, .leaf)],[.arr .atm],[.pr .dig, .sl .atm]⟩),(14,⟨[((4,[]),none),((10,[]),none)],[(4, .oa .atm 0),(8, .fn 86 [] [.leaf]),(9, .leaf),(10, .pt 1 0),(32, .oa .atm 0),(33, .leaf),(34, .leaf)],[.arr .atm, .el],[.pr .dig, .int .i64, .int .i64, .int .i64, .sl .atm, .el .atm]⟩),(16,⟨[((4,[]),none),((10,[]),none)],[(4, .oa .atm 0),(8, .fn 86 [] [.leaf]),(9, .leaf),(10, .pt 1 0),(32, .oa .atm 0),(33, .leaf),(34, .leaf)],[.arr .atm, .el],[.pr .dig, .int .i64, .int .i64, .int .i64, .sl .atm, .el .atm]⟩),(18,⟨[((4,[]),none),((10,[]),none)],[(4, .oa .atm 0),(8, .fn 86 [] [.leaf]),(9, .leaf),(10, .pt 1 0),(32, .oa .atm 0),(33, .leaf),(34, .leaf)],[.arr .atm, .el],[.pr .dig, .int .i64, .int .i64, .int .i64, .sl .atm, .el .atm]⟩),(25,⟨[((4,[]),none),((10,[]),none)],[(4, .oa .atm 0),(8, .fn 86 [] [.leaf]),(9, .leaf),(10, .pt 1 0),(11, .leaf),(32, .oa .atm 0),(33, .leaf),(34, .leaf)],[.arr .atm, .el],[.pr .dig, .int .i64, .sl .idk, .int .i64, .int .i64, .sl .atm, .el .atm]⟩)]
abbrev S44:List Sh:=[.ag [.leaf, .leaf, .leaf, .leaf, .leaf]]
abbrev L44:List Lf:=[.str, .str, .int .i64, .sl .dig, .sl .chg]
def F44_J16 (K:Kn) (W3:prodL [.pr .dig, .int .i64, .int .i64, .sl .atm]->Prop) (full_14:Dig) (i_14:Int) (over_14:List Idn) (t_14 t2_14:Int) (l_14:List Atm) (x_14:Atm):Prop:=
 0<=i_14/\i_14.toNat<l_14.length/\
 Xy l_14 i_14.toNat fun x15=>
 W3 (full_14,t_14,IntKind.i64.wrap (t2_14+1),l_14.set i_14.toNat (⟨x_14.id,x_14.kind,x_14.file,x_14.typ,x_14.parent,x_14.name,x_14.mode,x_14.data,x_14.text,x_14.frm,x_14.til,over_14⟩:Atm),())
def Zl (K:Kn) (W3:prodL [.pr .dig, .int .i64, .int .i64, .sl .atm]->Prop) (W12:prodL [.pr .dig, .int .i64, .int .i64, .int .i64, .sl .idk, .int .i64, .int .i64, .sl .atm, .el .atm, .sl .idk]->Prop) (full_11:Dig) (i_11 t_11 t2_11:Int) (t3_11:List Idn) (t4_11 t5_11:Int) (l_11:List Atm) (x_11:Atm) (over_11:List Idn):Prop:=
 bif decide (t5_11<t4_11)then (
  At t3_11 t5_11 fun u13=>
 True/\
 ql (over_11.length+[(jt full_11 u13)].length) 40 (
 W12 (full_11,i_11,t_11,t2_11,t3_11,t4_11,IntKind.i64.wrap (t5_11+1),l_11,x_11,over_11++[(jt full_11 u13)],())))
 else (
  pre87 (over_11,())/\
 F44_J16 K W3 full_11 i_11 (Wa over_11) t_11 t2_11 l_11 x_11)
def F44_L12 (K:Kn) (W3:prodL [.pr .dig, .int .i64, .int .i64, .sl .atm]->Prop) (g:prodL [.pr .dig, .int .i64, .int .i64, .int .i64, .sl .idk, .int .i64, .int .i64, .sl .atm, .el .atm, .sl .idk]):Prop:=
 qQ (γ:=prodL [.pr .dig, .int .i64, .int .i64, .int .i64, .sl .idk, .int .i64, .int .i64, .sl .atm, .el .atm, .sl .idk]) (fun V y=>Zl K W3 V y.1 y.2.1 y.2.2.1 y.2.2.2.1 y.2.2.2.2.1 y.2.2.2.2.2.1 y.2.2.2.2.2.2.1 y.2.2.2.2.2.2.2.1 y.2.2.2.2.2.2.2.2.1 y.2.2.2.2.2.2.2.2.2.1) g
def X3 (K:Kn) (W3:prodL [.pr .dig, .int .i64, .int .i64, .sl .atm]->Prop) (full_7:Dig) (i_7 t_7 t2_7:Int) (l_7:List Atm) (x_7:Atm):Prop:=
 F44_L12 K W3 (full_7,i_7,t_7,t2_7,x_7.over,(x_7.over.length:Int),0,l_7,x_7,[],())
def Vx (K:Kn) (W3:prodL [.pr .dig, .int .i64, .int .i64, .sl .atm]->Prop) (full_6:Dig) (i_6 t_6 t2_6:Int) (l_6:List Atm) (x_6:Atm):Prop:=
 bif decide (x_6.kind=6)then (
  True/\
  True/\
  X3 K W3 full_6 i_6 t_6 t2_6 l_6 (⟨x_6.id,x_6.kind,x_6.file,x_6.typ,x_6.parent,x_6.name,x_6.mode,x_6.data,x_6.text,jt full_6 x_6.frm,jt full_6 x_6.til,x_6.over⟩:Atm))
 else (
  X3 K W3 full_6 i_6 t_6 t2_6 l_6 x_6)
def X9 (K:Kn) (W3:prodL [.pr .dig, .int .i64, .int .i64, .sl .atm]->Prop) (full_5:Dig) (i_5 t_5 t2_5:Int) (l_5:List Atm) (x_5:Atm):Prop:=
 bif decide (x_5.kind=2)then (
  True/\
  Vx K W3 full_5 i_5 t_5 t2_5 l_5 (⟨x_5.id,x_5.kind,x_5.file,x_5.typ,jt full_5 x_5.parent,x_5.name,x_5.mode,x_5.data,x_5.text,x_5.frm,x_5.til,x_5.over⟩:Atm))
 else (
  Vx K W3 full_5 i_5 t_5 t2_5 l_5 x_5)
def F44_B3 (K:Kn) (W3:prodL [.pr .dig, .int .i64, .int .i64, .sl .atm]->Prop) (full_2:Dig) (t_2 t2_2:Int) (l_2:List Atm):Prop:=
 bif decide (t2_2<t_2)then (
  0<=t2_2/\t2_2.toNat<l_2.length/\
 Xy l_2 t2_2.toNat fun x4=>
 True/\
 bif !decide (x4.kind=7)then (
  True/\
  X9 K W3 full_2 t2_2 t_2 t2_2 l_2 (⟨jt full_2 x4.id,x4.kind,jt full_2 x4.file,x4.typ,x4.parent,x4.name,x4.mode,x4.data,x4.text,x4.frm,x4.til,x4.over⟩:Atm))
 else (
  X9 K W3 full_2 t2_2 t_2 t2_2 l_2 (⟨jt full_2 x4.id,x4.kind,x4.file,x4.typ,x4.parent,x4.name,x4.mode,x4.data,x4.text,x4.frm,x4.til,x4.over⟩:Atm)))
 else (
  K (.tu [.sl false .atm l_2, .int .i64 0]) [])
def F44_L3 (K:Kn) (g:prodL [.pr .dig, .int .i64, .int .i64, .sl .atm]):Prop:=
 qQ (γ:=prodL [.pr .dig, .int .i64, .int .i64, .sl .atm]) (fun V y=>F44_B3 K V y.1 y.2.1 y.2.2.1 y.2.2.2.1) g
def F44_J20 (K:Kn) (patch_1:Dig) (l_1:List Atm):Prop:=
 F44_L3 K (patch_1,(l_1.length:Int),0,l_1,())
def F44 (g:prodL L44) (K:Kn):Prop:=
 Yp.pre (g.1,g.2.1,g.2.2.1,g.2.2.2.1,g.2.2.2.2.1,())/\
 bif !decide ((xe g.1 g.2.1 g.2.2.1 g.2.2.2.1 g.2.2.2.2.1).2.2=0)then (
  K (.tu [.nil, .int .i64 ((xe g.1 g.2.1 g.2.2.1 g.2.2.2.1 g.2.2.2.2.1).2.2)]) [])
 else (
  sp15.pre (g.1,g.2.1,g.2.2.1,g.2.2.2.1,g.2.2.2.2.1,())/\
 bif !decide ((Y0 g.1 g.2.1 g.2.2.1 g.2.2.2.1 g.2.2.2.2.1).2=0)then (
  K (.tu [.nil, .int .i64 ((Y0 g.1 g.2.1 g.2.2.1 g.2.2.2.1 g.2.2.2.2.1).2)]) [])
 else (
  F44_J20 K ((Y0 g.1 g.2.1 g.2.2.1 g.2.2.2.1 g.2.2.2.2.1).1) ((xe g.1 g.2.1 g.2.2.1 g.2.2.2.1 g.2.2.2.2.1).1)))
theorem F44_eq (g:prodL L44) (K X:Kn):F44 g K=qJ D (qk [(87,rw87)] [(15,true,sp15),(36,false,Yp),(86,false,sp86)]) (qx [(87,rw87)]) H44 J44 97 [.tmp 2, .tmp 3] (qz Tryz.f44) (argsT S44 L44 g) [] (settle0 K) X:=by kernel_rfl
theorem F44_ok (g:prodL L44) (K X:Kn) (h:F44 g K):FCalls Tryz.prog 44 (argsT S44 L44 g) [] K X:=
 FCalls.settle0 (qq (Γ:=qk [(87,rw87)] [(15,true,sp15),(36,false,Yp),(86,false,sp86)]) (mu:=qx [(87,rw87)]) (H:=H44) (J:=J44) qY (qV (rs:=[(87,rw87)]) (l:=[(15,true,sp15),(36,false,Yp),(86,false,sp86)]) (by intro p hp;simp only [List.mem_cons,List.not_mem_nil,or_false] at hp;subst hp;exact rw87_ok) (by intro p hp;simp only [List.mem_cons,List.not_mem_nil,or_false] at hp;rcases hp with rfl | rfl | rfl<;>first | exact sp15_ok | exact sp36_ok | exact sp86_ok)) qj rfl Tryz.func44 (c:=qz Tryz.f44) rfl Tryz.ntmps44 Tryz.results44 (by unfold qv;rw [Tryz.func44];kernel_rfl) (Nat.le_of_ble_eq_true (by kernel_rfl)) (c0:=0) (Eq.mp (F44_eq g K X) h))
end Go.Proofs.YtbglndogddddoaaGreatDoor
namespace Go.Proofs.YtbglndogddddoaaGreatDoor
open Go.RowKit
set_option maxRecDepth 100000
def lAt (d:Dig) (l:List Atm) (n:Nat):List Atm:=(l.take n).map (cmpA d)++l.drop n
theorem lAt_len (d:Dig) (l:List Atm) (n:Nat):(lAt d l n).length=l.length:=by
 unfold lAt
 rw [List.length_append,List.length_map,List.length_take,List.length_drop];omega
theorem lAt_get (d:Dig) {l:List Atm} {n:Nat} (h:n<l.length):(lAt d l n)[n]'(by rw [lAt_len];exact h)=l[n]:=by
 unfold lAt
 rw [List.getElem_append_right (by simp;omega)]
 simp [List.length_take,Nat.min_eq_left (Nat.le_of_lt h)]
theorem lAt_set (d:Dig) {l:List Atm} {n:Nat} (h:n<l.length):(lAt d l n).set n (cmpA d l[n])=lAt d l (n+1):=by
 unfold lAt
 rw [List.set_append_right _ _ (by simp;omega)]
 simp only [List.length_map,List.length_take,Nat.min_eq_left (Nat.le_of_lt h),Nat.sub_self]
 rw [List.drop_eq_getElem_cons h,List.set_cons_zero,jh h,List.map_append]
 simp
theorem YJ {K:Kn} {W:prodL [.pr .dig, .int .i64, .int .i64, .sl .atm]->Prop} {d:Dig} {i t t2:Int} {l:List Atm} {x:Atm} (hx:x.over.length<=4194304) (hi:0<=i/\i.toNat<l.length)
  (h:W (d,t,IntKind.i64.wrap (t2+1),l.set i.toNat (aJ17 d x),())):X3 K W d i t t2 l x:=by
 unfold X3 F44_L12
 refine qQ.map x.over (jt d) (fun n out=>(d,i,t,t2,x.over,(x.over.length:Int),n,l,x,out,())) (by omega) rfl (fun V n hn out ho hV=> ?_) fun V=> ?_
 . show Zl K W V d i t t2 x.over x.over.length n l x out
   unfold Zl
   rw [qt hn,cond_true]
   exact qE hn ⟨trivial,by simp only [List.length_singleton,ho];omega,hV⟩
 . show Zl K W V d i t t2 x.over x.over.length x.over.length l x (x.over.map (jt d))
   unfold Zl
   rw [qm,cond_false]
   refine ⟨by show (x.over.map (jt d)).length<=_;rw [List.length_map];exact hx, ?_⟩
   unfold F44_J16
   exact ⟨hi.1,hi.2,l[i.toNat],xQ hi.2,h⟩
theorem V8 {K:Kn} {W:prodL [.pr .dig, .int .i64, .int .i64, .sl .atm]->Prop} {d:Dig} {i t t2:Int} {l:List Atm} {x:Atm} (hx:x.over.length<=4194304) (hi:0<=i/\i.toNat<l.length)
  (h:W (d,t,IntKind.i64.wrap (t2+1),l.set i.toNat (aJ18 d x),())):Vx K W d i t t2 l x:=by
 unfold Vx
 unfold aJ18 at h
 cases e:decide (x.kind=6)
 . rw [e] at h;exact YJ hx hi h
 . rw [e] at h;exact ⟨trivial,trivial,YJ (by exact hx) hi h⟩
theorem Wv {K:Kn} {W:prodL [.pr .dig, .int .i64, .int .i64, .sl .atm]->Prop} {d:Dig} {i t t2:Int} {l:List Atm} {x:Atm} (hx:x.over.length<=4194304) (hi:0<=i/\i.toNat<l.length)
  (h:W (d,t,IntKind.i64.wrap (t2+1),l.set i.toNat (aJ19 d x),())):X9 K W d i t t2 l x:=by
 unfold X9
 unfold aJ19 at h
 cases e:decide (x.kind=2)
 . rw [e] at h;exact V8 hx hi h
 . rw [e] at h;exact ⟨trivial,V8 (by exact hx) hi h⟩
theorem F44_L3_is {K:Kn} {d:Dig} {l:List Atm} (hl:l.length<=16777216) (hx: ∀x∈l,x.over.length<=4194304) (h:K2 K (l.map (cmpA d),0)):F44_L3 K (d,(l.length:Int),0,l,()):=by
 unfold F44_L3
 refine qQ.countTo l.length (fun n=>(d,(l.length:Int),(n:Int),lAt d l n,())) (fun _=>True) (by simp [lAt]) (fun n hn _ W hW=> ?_) trivial
 show F44_B3 K W d l.length n (lAt d l n)
 unfold F44_B3
 have hlen:=lAt_len d l n
 by_cases hlt:n<l.length
 . rw [qt hlt,cond_true]
   have hn':((n:Nat):Int).toNat< (lAt d l n).length:=by omega
   refine ⟨by omega,hn', ?_⟩
   have hW:=hW hlt trivial
   rw [<- lAt_set d hlt, <- zJ hlt (by omega)] at hW
   refine ⟨l[n],by rw [toN,xQ (show n< (lAt d l n).length by omega),lAt_get d hlt],trivial, ?_⟩
   have hxo:=hx l[n] (List.getElem_mem _)
   generalize l[n]=x at hW hxo
   show bif !decide (x.kind=7)then _ else _
   unfold cmpA at hW
   cases e:decide (x.kind=7)
   . rw [e] at hW
     exact ⟨trivial,Wv (by exact hxo) ⟨by omega,hn'⟩ (by rw [toN];exact hW)⟩
   . rw [e] at hW
     exact Wv (by exact hxo) ⟨by omega,hn'⟩ (by rw [toN];exact hW)
 . have:n=l.length:=by omega
   subst this
   rw [qm,cond_false]
   have:lAt d l l.length=l.map (cmpA d):=by unfold lAt;simp
   rw [this];exact h
theorem madeL_over {c:Chg} {n:Int} {x:Atm} (hx:x∈j4 c n):x.over=c.over∨x.over=[]:=by
 unfold j4 madK at hx
 split at hx
 case h_5=>
  rcases List.mem_append.1 hx with hx | hx
  . obtain ⟨i,_,rfl⟩:=List.mem_map.1 hx;exact .inr rfl
  . obtain ⟨i,_,rfl⟩:=List.mem_map.1 hx;exact .inr rfl
 case h_8=>cases hx
 all_goals (rw [List.mem_singleton.1 hx];first | exact .inl rfl | exact .inr rfl)
theorem Vl {f:Chg->Int} {r:Chg->List Atm->Int} {Q:List Idn->Prop} (h0:Q []): ∀{cs:List Chg} {own:List Atm},(∀c∈cs,Q c.over)->(∀x∈own,Q x.over)-> ∀x∈(xB f r cs own).1,Q x.over
 | [],own,_,h,x,hx=>h x hx
 | c::l,own,hc,h,x,hx=>by
  rw [xB] at hx
  cases e1:decide (f c=0)
  . rw [e1] at hx;cases hx
  rw [e1] at hx
  cases e2:decide (r c own=0)
  . rw [e2] at hx;cases hx
  rw [e2] at hx
  refine Vl h0 (fun d hd=>hc d (List.mem_cons_of_mem _ hd)) (fun y hy=> ?_) x hx
  rcases List.mem_append.1 hy with hy | hy
  . exact h y hy
  . rcases madeL_over hy with e | e
    . rw [e];exact hc c (List.mem_cons_self ..)
    . rw [e];exact h0
theorem Ks {f:Chg->Int} {r:Chg->List Atm->Int} (hk: ∀c,f c=0->jk c): ∀{cs:List Chg} {own:List Atm},(xB f r cs own).1.length<=own.length+2*(cs.map qr).sum
 | [],own=>by simp [xB]
 | c::l,own=>by
  rw [xB]
  cases e1:decide (f c=0)
  . simp
  cases e2:decide (r c own=0)
  . simp
  simp only [Bool.not_true,cond_false]
  have h1:=Ks (r:=r) hk (cs:=l) (own:=own++j4 c own.length)
  have h2:=Vs (n:=(own.length:Int)) (hk c (of_decide_eq_true e1))
  rw [List.length_append] at h1
  simp only [List.map_cons,List.sum_cons]
  omega
theorem exP_atoms {a m:ByteArray} {t:Int} {ds:List Dig} {cs:List Chg}:(xe a m t ds cs).1=(QQ cs).1∨(xe a m t ds cs).1=[]:=by
 unfold xe
 cases decide (zP zG a m t ds cs=0)
 . exact .inr rfl
 . simp only [Bool.not_true,cond_false]
   unfold JZ
   cases decide ((QQ cs).2=0)
   . exact .inr rfl
   . simp only [Bool.not_true,cond_false]
     unfold exP5
     generalize (bif !decide ((xi (zu a m t (jS ds) cs)).2=0)then true else decide (65536< ((xi (zu a m t (jS ds) cs)).1.size:Int)))=b
     cases b
     . exact .inl rfl
     . exact .inr rfl
theorem exP_lens {a m:ByteArray} {t:Int} {ds:List Dig} {cs:List Chg} (hp:xP a m t ds cs):(xe a m t ds cs).1.length<=16777216/\ ∀x∈(xe a m t ds cs).1,x.over.length<=4194304:=by
 have h5:=hp.2.2.2.2.1
 rcases exP_atoms (a:=a) (m:=m) (t:=t) (ds:=ds) (cs:=cs)with e | e
 . rw [e]
   refine ⟨?_, ?_⟩
   . have:=Ks (f:=zo) (r:=ka) (fun c=>jG) (cs:=cs) (own:=[])
     unfold QQ
     simp only [List.length_nil] at this
     omega
   . exact Vl (Q:=fun l=>l.length<=4194304) (by simp) (fun c hc=>(zV (Xz h5 hc)).2.2.2.2) (fun x hx=>by cases hx)
 . rw [e]
   exact ⟨by simp,fun x hx=>by cases hx⟩
theorem F44_is {a m:ByteArray} {t:Int} {ds:List Dig} {cs:List Chg} {K:Kn} (hp:xP a m t ds cs) (h:K2 K (yK a m t ds cs)):F44 (a,m,t,ds,cs,()) (xw K):=by
 have hl:=exP_lens hp
 unfold F44
 unfold yK at h
 refine ⟨hp, ?_⟩
 show bif !decide ((xe a m t ds cs).2.2=0)then _ else _
 cases e1:decide ((xe a m t ds cs).2.2=0)
 . rw [e1] at h;exact jB h
 rw [e1] at h
 rw [Bool.not_true,cond_false] at h ⊢
 refine ⟨hp, ?_⟩
 show bif !decide ((Y0 a m t ds cs).2=0)then _ else _
 cases e2:decide ((Y0 a m t ds cs).2=0)
 . rw [e2] at h;exact jB h
 rw [e2] at h
 exact F44_L3_is hl.1 hl.2 (xw.same h)
def sp44:Sp:=⟨S44,L44,fun g=>xP g.1 g.2.1 g.2.2.1 g.2.2.2.1 g.2.2.2.2.1,fun g=> .tu [.sl false .atm (yK g.1 g.2.1 g.2.2.1 g.2.2.2.1 g.2.2.2.2.1).1, .int .i64 (yK g.1 g.2.1 g.2.2.1 g.2.2.2.1 g.2.2.2.2.1).2],fun _=>none⟩
theorem sp44_ok:sp44.Ok Tryz.prog 44 false:=
 ⟨fun g K X hp h=>FCalls.weak (F44_ok g (xw K) X (F44_is hp h)),fun _ _ _=>rfl,fun _=>rfl,fun h=>(by cases h)⟩
set_option maxRecDepth 100000
def zm:List Chg:=[⟨1,iz,1,iz,⟨#[]⟩,0,⟨#[]⟩,iz,iz,[],[]⟩,⟨2,iz,0,⟨dz, -1⟩,⟨#[102]⟩,0,⟨#[]⟩,iz,iz,[],[]⟩,⟨5,iz,0,iz,⟨#[]⟩,0,⟨#[]⟩,iz,iz,[⟨#[120]⟩],[]⟩]
def Yt:ByteArray:=⟨#[97,110,110]⟩
def Va (c:Chg):Bool:=bif kf c.lines then true else decide (40< (c.over.length:Int))
def wR (cs:List Chg):Nat:=(cs.map fun c=>c.name.size+c.data.size).sum
def VE (n:Nat) (ds:List Dig) (cs:List Chg):Bool:=bif decide (3000< (n:Int))then true else bif decide (20< (ds.length:Int))then true else decide (20< (cs.length:Int))
def yP (a m:ByteArray) (t:Int) (ds:List Dig) (cs:List Chg):Bool:=bif cs.all (fun c=> !Va c)then VE (a.size+m.size+wR cs) ds cs else true
end Go.Proofs.YtbglndogddddoaaGreatDoor
namespace Go.Proofs.YtbglndogddddoaaGreatDoor
open Go.RowKit
attribute [local irreducible] qJ qd
set_option maxRecDepth 100000
def H25:List (Nat×Hint):=[]
def J25:List (Nat×Hint):=[]
abbrev S25:List Sh:=[.ag [.leaf, .leaf, .leaf, .leaf, .leaf]]
abbrev L25:List Lf:=[.str, .str, .int .i64, .sl .dig, .sl .chg]
def F25 (g:prodL L25) (K:Kn):Prop:=
 sp44.pre (g.1,g.2.1,g.2.2.1,g.2.2.2.1,g.2.2.2.2.1,())/\
 K (.tu [.sl false .atm ((yK g.1 g.2.1 g.2.2.1 g.2.2.2.1 g.2.2.2.2.1).1), .int .i64 ((yK g.1 g.2.1 g.2.2.1 g.2.2.2.1 g.2.2.2.2.1).2)]) []
theorem F25_eq (g:prodL L25) (K X:Kn):F25 g K=qJ D (qk [] [(44,false,sp44)]) (qx []) H25 J25 13 [.tmp 2, .tmp 3] (qz Tryz.f25) (argsT S25 L25 g) [] (settle0 K) X:=by kernel_rfl
theorem F25_ok (g:prodL L25) (K X:Kn) (h:F25 g K):FCalls Tryz.prog 25 (argsT S25 L25 g) [] K X:=
 FCalls.settle0 (qq (Γ:=qk [] [(44,false,sp44)]) (mu:=qx []) (H:=H25) (J:=J25) qY (qV (rs:=[]) (l:=[(44,false,sp44)]) (fun p hp=>by cases hp) (by intro p hp;simp only [List.mem_cons,List.not_mem_nil,or_false] at hp;subst hp;exact sp44_ok)) qj rfl Tryz.func25 (c:=qz Tryz.f25) rfl Tryz.ntmps25 Tryz.results25 (by unfold qv;rw [Tryz.func25];kernel_rfl) (Nat.le_of_ble_eq_true (by kernel_rfl)) (c0:=0) (Eq.mp (F25_eq g K X) h))
def sp25:Sp:=⟨S25,L25,fun g=>sp44.pre g,fun g=> .tu [.sl false .atm ((yK g.1 g.2.1 g.2.2.1 g.2.2.2.1 g.2.2.2.2.1).1), .int .i64 ((yK g.1 g.2.1 g.2.2.1 g.2.2.2.1 g.2.2.2.2.1).2)],fun _=>none⟩
theorem sp25_ok:sp25.Ok Tryz.prog 25 false:=
 ⟨fun g K X hp h=>F25_ok g K X (by
  have h:K (.tu [.sl false .atm ((yK g.1 g.2.1 g.2.2.1 g.2.2.2.1 g.2.2.2.2.1).1), .int .i64 ((yK g.1 g.2.1 g.2.2.1 g.2.2.2.1 g.2.2.2.2.1).2)]) []:=h
  exact ⟨hp,h⟩),fun _ _ _=>rfl,fun _=>rfl,by first | exact fun _ _=>⟨rfl,rfl⟩ | (intro h;cases h)⟩
def H35:List (Nat×Hint):=[]
def J35:List (Nat×Hint):=[]
abbrev S35:List Sh:=[]
abbrev L35:List Lf:=[]
def F35 (g:prodL L35) (K:Kn):Prop:=
 True/\
 K (.ag [.str (⟨#[97,110,110]⟩:ByteArray), .str (⟨#[]⟩:ByteArray), .int .i64 5, .nil, .sl true .chg [(⟨1,iz,1,iz,(⟨#[]⟩:ByteArray),0,(⟨#[]⟩:ByteArray),iz,iz,[],[]⟩:Chg),(⟨2,iz,0,⟨dz, -1⟩,(⟨#[102]⟩:ByteArray),0,(⟨#[]⟩:ByteArray),iz,iz,[],[]⟩:Chg),(⟨5,iz,0,iz,(⟨#[]⟩:ByteArray),0,(⟨#[]⟩:ByteArray),iz,iz,[(⟨#[120]⟩:ByteArray)],[]⟩:Chg)]]) []
theorem F35_eq (g:prodL L35) (K X:Kn):F35 g K=qJ D (qk [] [(28,false,sp28)]) (qx []) H35 J35 8 [.cell 0 25] (qz Tryz.f35) (argsT S35 L35 g) [] (settle0 K) X:=by kernel_rfl
theorem F35_ok (g:prodL L35) (K X:Kn) (h:F35 g K):FCalls Tryz.prog 35 (argsT S35 L35 g) [] K X:=
 FCalls.settle0 (qq (Γ:=qk [] [(28,false,sp28)]) (mu:=qx []) (H:=H35) (J:=J35) qY (qV (rs:=[]) (l:=[(28,false,sp28)]) (fun p hp=>by cases hp) (by intro p hp;simp only [List.mem_cons,List.not_mem_nil,or_false] at hp;subst hp;exact qzz)) qj rfl Tryz.func35 (c:=qz Tryz.f35) rfl Tryz.ntmps35 Tryz.results35 (by unfold qv;rw [Tryz.func35];kernel_rfl) (Nat.le_of_ble_eq_true (by kernel_rfl)) (c0:=0) (Eq.mp (F35_eq g K X) h))
def H11:List (Nat×Hint):=[(3,⟨[((1,[]),none)],[(1, .pt 0 0),(3, .leaf),(4, .leaf)],[.cells [.leaf, .leaf, .leaf, .leaf, .leaf]],[.int .i64, .int .i64, .str, .str, .int .i64, .sl .dig, .sl .chg]⟩)]
def J11:List (Nat×Hint):=[(7,⟨[((1,[]),none),((5,[]),none)],[(1, .pt 0 0),(3, .leaf),(4, .leaf),(5, .pt 1 0),(33, .leaf)],[.cells [.leaf, .leaf, .leaf, .leaf, .leaf], .el],[.int .i64, .int .i64, .bool, .str, .str, .int .i64, .sl .dig, .sl .chg, .el .chg]⟩)]
abbrev S11:List Sh:=[.ag [.leaf, .leaf, .leaf, .leaf, .leaf]]
abbrev L11:List Lf:=[.str, .str, .int .i64, .sl .dig, .sl .chg]
def qqh (K:Kn) (W2:prodL [.int .i64, .int .i64, .str, .str, .int .i64, .sl .dig, .sl .chg]->Prop) (n_4 i_4:Int) (t_4:Bool) (p1_4 p2_4:ByteArray) (p3_4:Int) (p4_4:List Dig) (p5_4:List Chg) (c_4:Chg):Prop:=
 bif t_4 then (
  K (.bool true) [])
 else (
  W2 (IntKind.i64.wrap ((IntKind.i64.wrap (n_4+(c_4.name.size:Int)))+(c_4.data.size:Int)),IntKind.i64.wrap (i_4+1),p1_4,p2_4,p3_4,p4_4,p5_4,()))
def V2 (K:Kn) (W2:prodL [.int .i64, .int .i64, .str, .str, .int .i64, .sl .dig, .sl .chg]->Prop) (n_1 i_1:Int) (p1_1 p2_1:ByteArray) (p3_1:Int) (p4_1:List Dig) (p5_1:List Chg):Prop:=
 bif decide (i_1< (p5_1.length:Int))then (
  At p5_1 i_1 fun u3=>
 sp34.pre (u3.lines,())/\
 bif kf u3.lines then (
  qqh K W2 n_1 i_1 true p1_1 p2_1 p3_1 p4_1 p5_1 u3)
 else (
  qqh K W2 n_1 i_1 (decide (40< (u3.over.length:Int))) p1_1 p2_1 p3_1 p4_1 p5_1 u3))
 else (
  bif decide (3000<n_1)then (
  K (.bool true) [])
 else (
  bif decide (20< (p4_1.length:Int))then (
   K (.bool true) [])
  else (
   K (.bool (decide (20< (p5_1.length:Int)))) [])))
def F11_L2 (K:Kn) (g:prodL [.int .i64, .int .i64, .str, .str, .int .i64, .sl .dig, .sl .chg]):Prop:=
 qQ (γ:=prodL [.int .i64, .int .i64, .str, .str, .int .i64, .sl .dig, .sl .chg]) (fun V y=>V2 K V y.1 y.2.1 y.2.2.1 y.2.2.2.1 y.2.2.2.2.1 y.2.2.2.2.2.1 y.2.2.2.2.2.2.1) g
def F11 (g:prodL L11) (K:Kn):Prop:=
 F11_L2 K (IntKind.i64.wrap ((g.1.size:Int)+(g.2.1.size:Int)),0,g.1,g.2.1,g.2.2.1,g.2.2.2.1,g.2.2.2.2.1,())
theorem F11_eq (g:prodL L11) (K X:Kn):F11 g K=qJ D (qk [] [(34,true,sp34)]) (qx []) H11 J11 57 [.tmp 2] (qz Tryz.f11) (argsT S11 L11 g) [] (settle0 K) X:=by kernel_rfl
theorem F11_ok (g:prodL L11) (K X:Kn) (h:F11 g K):FCalls Tryz.prog 11 (argsT S11 L11 g) [] K X:=
 FCalls.settle0 (qq (Γ:=qk [] [(34,true,sp34)]) (mu:=qx []) (H:=H11) (J:=J11) qY (qV (rs:=[]) (l:=[(34,true,sp34)]) (fun p hp=>by cases hp) (by intro p hp;simp only [List.mem_cons,List.not_mem_nil,or_false] at hp;subst hp;exact sp34_ok)) qj rfl Tryz.func11 (c:=qz Tryz.f11) rfl Tryz.ntmps11 Tryz.results11 (by unfold qv;rw [Tryz.func11];kernel_rfl) (Nat.le_of_ble_eq_true (by kernel_rfl)) (c0:=0) (Eq.mp (F11_eq g K X) h))
end Go.Proofs.YtbglndogddddoaaGreatDoor
namespace Go.Proofs.YtbglndogddddoaaGreatDoor
open Go.RowKit
set_option maxRecDepth 100000
def sp35:Sp:=⟨S35,L35,fun _=>True,fun _=> .ag [.str ⟨#[97,110,110]⟩, .str ⟨#[]⟩, .int .i64 5, .sl false .dig [], .sl false .chg zm],fun _=>none⟩
theorem sp35_ok:sp35.Ok Tryz.prog 35 false:=
 ⟨fun g K X _ h=>FCalls.weak (F35_ok g (xw K) X ⟨trivial,_,zn.ag (qM.cons (zn.refl _) (qM.cons (zn.refl _) (qM.cons (zn.refl _) (qM.cons (zn.nil .dig) (qM.cons (zn.sl true .chg _) qM.nil))))),h⟩),fun _ _ _=>rfl,fun _=>rfl,fun h=>(by cases h)⟩
theorem gsum_take {cs:List Chg} {n:Nat} (h:n<cs.length):wR (cs.take (n+1))=wR (cs.take n)+(cs[n].name.size+cs[n].data.size):=by
 unfold wR
 rw [jh h,List.map_append,List.sum_append];simp
theorem gsum_le {cs:List Chg} (h:(cs.map qr).sum<=4194304) (n:Nat):wR (cs.take n)<=4194304:=by
 have h1: ∀l:List Chg,wR l<=(l.map qr).sum:=fun l=>by
  induction l with
  | nil=>simp [wR]
  | cons c l ih=>
   unfold wR at ih ⊢
   simp only [List.map_cons,List.sum_cons]
   have hb:c.name.size+c.data.size<=qr c:=by unfold qr;omega
   omega
 have e:(cs.map qr).sum=((cs.take n).map qr).sum+((cs.drop n).map qr).sum:=by
  rw [<- List.sum_append, <- List.map_append,List.take_append_drop]
 have:=h1 (cs.take n)
 omega
theorem lines_sumP {c:Chg} (h:qr c<=2097152):sumP c.lines:=by
 unfold sumP
 unfold qr at h
 omega
theorem F11_is {a m:ByteArray} {t:Int} {ds:List Dig} {cs:List Chg} {K:Kn} (hp:xP a m t ds cs) (hp2:(cs.map qr).sum<=2097152) (h:Ko K (yP a m t ds cs)):F11 (a,m,t,ds,cs,()) K:=by
 obtain ⟨h1,h2,h3,h4,h5,h6⟩:=hp
 have hl:=JD h5
 unfold F11 F11_L2
 unfold yP at h
 rw [dec_allO] at h
 refine qQ.all cs.length (fun n=>(((a.size+m.size+wR (cs.take n):Nat):Int),(n:Int),a,m,t,ds,cs,())) (fun n=>(cs[n]?).all fun c=> !Va c) (fun r=>Ko K (bif r then VE (a.size+m.size+wR cs) ds cs else true)) h (by show (IntKind.i64.wrap ((a.size:Int)+(m.size:Int)),_)=_;rw [w64 (by omega)];simp [wR]) (fun W n hn ht hf=> ?_) fun ht W=> ?_
 . show V2 K W ((a.size+m.size+wR (cs.take n):Nat):Int) n a m t ds cs
   unfold V2
   rw [qt hn,cond_true]
   have hm:=List.getElem_mem hn
   have hs:=gsum_le h5 n
   have hs1:=gsum_le h5 (n+1)
   rw [gsum_take hn] at hs1 ht
   simp only [xQ hn,Option.all_some] at ht hf
   refine qE hn ⟨lines_sumP (Nat.le_trans (ZI qr hm) hp2), ?_⟩
   generalize cs[n]=c at hs1 ht hf ⊢
   have hJ: ∀b,(b=false->W (((a.size+m.size+(wR (cs.take n)+(c.name.size+c.data.size)):Nat):Int),((n+1:Nat):Int),a,m,t,ds,cs,()))->(b=true->Ko K true)->qqh K W ((a.size+m.size+wR (cs.take n):Nat):Int) n b a m t ds cs c:=by
    intro b hb1 hb2
    unfold qqh
    cases b
    . have:=hb1 rfl
      rw [cond_false,zJ hn (by omega),w64 (n:=((a.size+m.size+wR (cs.take n):Nat):Int)+(c.name.size:Int)) (by omega),w64 (by omega)]
      rw [show ((a.size+m.size+(wR (cs.take n)+(c.name.size+c.data.size)):Nat):Int)=((a.size+m.size+wR (cs.take n):Nat):Int)+(c.name.size:Int)+(c.data.size:Int)by omega] at this
      exact this
    . exact hb2 rfl
   unfold Va at ht hf
   cases e:kf c.lines
   . rw [e] at ht hf
     exact hJ _ (fun e2=>ht (by rw [e2];rfl)) (fun e2=>hf (by rw [e2];rfl))
   . rw [e] at hf
     exact hJ true (fun e=>by cases e) (fun _=>hf rfl)
 . show V2 K W ((a.size+m.size+wR (cs.take cs.length):Nat):Int) cs.length a m t ds cs
   unfold V2
   rw [qm,cond_false,List.take_length]
   have ht:Ko K (VE (a.size+m.size+wR cs) ds cs):=ht
   unfold VE at ht
   exact qI (K:=Ko K) id (qI (K:=Ko K) id id) ht
def sp11:Sp:=⟨S11,L11,fun g=>xP g.1 g.2.1 g.2.2.1 g.2.2.2.1 g.2.2.2.2.1/\(g.2.2.2.2.1.map qr).sum<=2097152,fun g=> .bool (yP g.1 g.2.1 g.2.2.1 g.2.2.2.1 g.2.2.2.2.1),fun _=>none⟩
theorem sp11_ok:sp11.Ok Tryz.prog 11 true:=
 ⟨fun g K X hp h=>F11_ok g K X (F11_is hp.1 hp.2 h),fun _ _ _=>rfl,fun _=>rfl,fun _ _=>⟨rfl,rfl⟩⟩
theorem chgsS:QQ zm=([⟨QE 0,1,QE 0,1,iz,⟨#[]⟩,0,⟨#[]⟩,⟨#[]⟩,iz,iz,[]⟩,⟨QE 1,2,iz,0,⟨dz, -1⟩,⟨#[102]⟩,0,⟨#[]⟩,⟨#[]⟩,iz,iz,[]⟩,
 ⟨QE 2,5,iz,0,iz,⟨#[]⟩,0,⟨#[]⟩,⟨#[120]⟩,iz,iz,[]⟩,⟨QE 3,6,iz,0,iz,⟨#[]⟩,0,⟨#[]⟩,⟨#[]⟩,iz,QE 2,[]⟩,⟨QE 4,6,iz,0,iz,⟨#[]⟩,0,⟨#[]⟩,⟨#[]⟩,QE 2,iz,[]⟩],0):=by kernel_rfl
theorem headS:zP zG Yt ⟨#[]⟩ 5 [] zm=0:=by kernel_rfl
theorem num1 {n:Nat} (h:n<10):qW (n:Int)=qD ⟨#[UInt8.ofNat (48+n)]⟩:=by
 unfold qW vZ
 rw [if_neg (by omega),decB_one h];rfl
theorem numM:qW (-1)=qD ⟨#[45,49]⟩:=by
 unfold qW vZ
 rw [if_neg (by omega)]
 show (⟨false,zS (-1),[]⟩:Sx)=_
 have:zS (-1)=⟨#[45,49]⟩:=by
  unfold zS Lib.itoa
  rw [if_pos (by omega),show (-1:Int).natAbs=1 from rfl,Lib.decDigits_one (by omega)];rfl
 rw [this];rfl
def qqf:Sx:=zy [qD WC,qD Yt,qD ⟨#[]⟩,qD ⟨#[53]⟩,zy [],zy [
 zy [qD ⟨#[49]⟩,qD ⟨#[49]⟩],
 zy [qD ⟨#[50]⟩,zy [qD ⟨#[]⟩,qD ⟨#[48]⟩],zy [qD ⟨#[]⟩,qD ⟨#[45,49]⟩],qD ⟨#[102]⟩,zy []],
 zy [qD ⟨#[53]⟩,zy [qD ⟨#[]⟩,qD ⟨#[48]⟩],zy [qD ⟨#[]⟩,qD ⟨#[48]⟩],zy [qD ⟨#[]⟩,qD ⟨#[48]⟩],zy [qD ⟨#[120]⟩]]]]
theorem patS:zu Yt ⟨#[]⟩ 5 (jS []) zm=qqf:=by
 have n0:=num1 (n:=0) (by omega)
 have n1:=num1 (n:=1) (by omega)
 have n2:=num1 (n:=2) (by omega)
 have n5:=num1 (n:=5) (by omega)
 have hz:z6 dz=qD ⟨#[]⟩:=by kernel_rfl
 have i0:qi iz=zy [qD ⟨#[]⟩,qD ⟨#[48]⟩]:=by
  show zy [z6 dz,qW ((0:Nat):Int)]=_
  rw [hz,n0];rfl
 have iM:qi ⟨dz, -1⟩=zy [qD ⟨#[]⟩,qD ⟨#[45,49]⟩]:=by
  show zy [z6 dz,qW (-1)]=_
  rw [hz,numM]
 have e:zu Yt ⟨#[]⟩ 5 (jS []) zm=zy [qD WC,qD Yt,qD ⟨#[]⟩,qW ((5:Nat):Int),zy [],zy [
  zy [qW ((1:Nat):Int),qW ((1:Nat):Int)],
  zy [qW ((2:Nat):Int),qi iz,qi ⟨dz, -1⟩,qD ⟨#[102]⟩,zy []],
  zy [qW ((5:Nat):Int),qi iz,qi iz,qi iz,zy [qD ⟨#[120]⟩]]]]:=rfl
 rw [e,n1,n2,n5,i0,iM];rfl
theorem jA {s:ByteArray} (n:Nat) (hs:s.size=n) (hn:n<10):yy (qD s)=⟨#[UInt8.ofNat (48+n)]⟩++⟨#[58]⟩++s:=by
 unfold qD
 rw [yy,if_pos rfl,hs,decB_one hn]
theorem enc_list (l:List Sx):yy (zy l)=XJ l ⟨#[40]⟩++⟨#[41]⟩:=by
 unfold zy
 rw [yy,if_neg (by simp)]
def vp:ByteArray:=⟨#[40,54,58,113,117,105,108,116,49,51,58,97,110,110,48,58,49,58,53,40,41,40,40,49,58,49,49,58,49,41,40,49,58,50,40,48,58,49,58,48,41,40,48,58,50,58,45,49,41,49,58,102,40,41,41,40,49,58,53,40,48,58,49,58,48,41,40,48,58,49,58,48,41,40,48,58,49,58,48,41,40,49,58,120,41,41,41,41]⟩
theorem encS:yy qqf=vp:=by
 unfold qqf
 simp only [enc_list,XJ,jA (s:=WC) 6 rfl (by omega),jA (s:=Yt) 3 rfl (by omega),jA (s:=⟨#[]⟩) 0 rfl (by omega),jA (s:=⟨#[48]⟩) 1 rfl (by omega),jA (s:=⟨#[49]⟩) 1 rfl (by omega),jA (s:=⟨#[50]⟩) 1 rfl (by omega),jA (s:=⟨#[53]⟩) 1 rfl (by omega),jA (s:=⟨#[102]⟩) 1 rfl (by omega),jA (s:=⟨#[120]⟩) 1 rfl (by omega),jA (s:=⟨#[45,49]⟩) 2 rfl (by omega)]
 rfl
theorem enTS:xi (zu Yt ⟨#[]⟩ 5 (jS []) zm)=(vp,0):=by
 rw [patS]
 have h:ckG qqf=0:=by kernel_rfl
 unfold xi
 rw [if_pos h,encS]
end Go.Proofs.YtbglndogddddoaaGreatDoor
namespace Go.Proofs.YtbglndogddddoaaGreatDoor
open Go.RowKit
attribute [local irreducible] qJ qd
set_option maxRecDepth 100000
def H12:List (Nat×Hint):=[(6,⟨[],[(3, .leaf),(32, .leaf),(33, .leaf),(34, .leaf)],[],[.sl .atm, .sl .i64, .int .i64, .int .i64]⟩)]
def J12:List (Nat×Hint):=[(4,⟨[],[(3, .leaf),(31, .leaf)],[],[.sl .atm, .bool]⟩),(9,⟨[],[(3, .leaf),(32, .leaf),(33, .leaf),(34, .leaf),(55, .leaf)],[],[.sl .atm, .sl .i64, .int .i64, .int .i64, .bool]⟩)]
abbrev S12:List Sh:=[]
abbrev L12:List Lf:=[]
def F12_J9 (K:Kn) (W4:prodL [.sl .atm, .sl .i64, .int .i64, .int .i64]->Prop) (l_8:List Atm) (t_8:List Int) (t2_8 t3_8:Int) (t4_8:Bool):Prop:=
 bif t4_8 then (
  K (.bool false) [])
 else (
  W4 (l_8,t_8,t2_8,IntKind.i64.wrap (t3_8+1),()))
def F12_B4 (K:Kn) (W4:prodL [.sl .atm, .sl .i64, .int .i64, .int .i64]->Prop) (l_3:List Atm) (t_3:List Int) (t2_3 t3_3:Int):Prop:=
 bif decide (t3_3<t2_3)then (
  At t_3 t3_3 fun u5=>
 At l_3 t3_3 fun u6=>
 bif !decide (u6.kind=u5)then (
  F12_J9 K W4 l_3 t_3 t2_3 t3_3 true)
 else (
  At l_3 t3_3 fun u7=>
  F12_J9 K W4 l_3 t_3 t2_3 t3_3 (!decide (u7.id.n=t3_3))))
 else (
  At l_3 3 fun u10=>
 At l_3 0 fun u11=>
 bif qs u10.frm u11.id then (
  At l_3 3 fun u12=>
  At l_3 2 fun u13=>
  bif qs u12.til u13.id then (
   At l_3 4 fun u14=>
   At l_3 2 fun u15=>
   bif qs u14.frm u15.id then (
    At l_3 4 fun u16=>
    At l_3 0 fun u17=>
    K (.bool (qs u16.til u17.id)) [])
   else (
    K (.bool false) []))
  else (
   K (.bool false) []))
 else (
  K (.bool false) []))
def F12_L4 (K:Kn) (g:prodL [.sl .atm, .sl .i64, .int .i64, .int .i64]):Prop:=
 qQ (γ:=prodL [.sl .atm, .sl .i64, .int .i64, .int .i64]) (fun V y=>F12_B4 K V y.1 y.2.1 y.2.2.1 y.2.2.2.1) g
def Vu (K:Kn) (l_1:List Atm) (t_1:Bool):Prop:=
 bif t_1 then (
  K (.bool false) [])
 else (
  F12_L4 K (l_1,[1,2,5,6,6],(([1,2,5,6,6].length:Nat):Int),0,()))
def F12 (g:prodL L12) (K:Kn):Prop:=
 True/\
 sp13.pre ((⟨#[97,110,110]⟩:ByteArray),(⟨#[]⟩:ByteArray),5,[],zm,())/\
 True/\
 sp25.pre ((⟨#[97,110,110]⟩:ByteArray),(⟨#[]⟩:ByteArray),5,[],zm,())/\
 bif !decide ((xe (⟨#[97,110,110]⟩:ByteArray) (⟨#[]⟩:ByteArray) 5 [] zm).2.2=0)then (
  Vu K ((yK (⟨#[97,110,110]⟩:ByteArray) (⟨#[]⟩:ByteArray) 5 [] zm).1) true)
 else (
  bif !decide ((yK (⟨#[97,110,110]⟩:ByteArray) (⟨#[]⟩:ByteArray) 5 [] zm).2=0)then (
   Vu K ((yK (⟨#[97,110,110]⟩:ByteArray) (⟨#[]⟩:ByteArray) 5 [] zm).1) true)
  else (
   bif !decide ((xe (⟨#[97,110,110]⟩:ByteArray) (⟨#[]⟩:ByteArray) 5 [] zm).2.1=(⟨#[40,54,58,113,117,105,108,116,49,51,58,97,110,110,48,58,49,58,53,40,41,40,40,49,58,49,49,58,49,41,40,49,58,50,40,48,58,49,58,48,41,40,48,58,50,58,45,49,41,49,58,102,40,41,41,40,49,58,53,40,48,58,49,58,48,41,40,48,58,49,58,48,41,40,48,58,49,58,48,41,40,49,58,120,41,41,41,41]⟩:ByteArray))then (
    Vu K ((yK (⟨#[97,110,110]⟩:ByteArray) (⟨#[]⟩:ByteArray) 5 [] zm).1) true)
   else (
    Vu K ((yK (⟨#[97,110,110]⟩:ByteArray) (⟨#[]⟩:ByteArray) 5 [] zm).1) (!decide (((((yK (⟨#[97,110,110]⟩:ByteArray) (⟨#[]⟩:ByteArray) 5 [] zm).1).length:Nat):Int)=5)))))
theorem F12_eq (g:prodL L12) (K X:Kn):F12 g K=qJ D (qk [] [(13,true,sp13),(25,false,sp25),(35,false,sp35)]) (qx []) H12 J12 99 [.tmp 0] (qz Tryz.f12) (argsT S12 L12 g) [] (settle0 K) X:=by kernel_rfl
theorem F12_ok (g:prodL L12) (K X:Kn) (h:F12 g K):FCalls Tryz.prog 12 (argsT S12 L12 g) [] K X:=
 FCalls.settle0 (qq qY (jq (zq qqp (zq sp25_ok (zq sp35_ok z8)))) qj rfl Tryz.func12 (c:=qz Tryz.f12) rfl Tryz.ntmps12 Tryz.results12 (by unfold qv;rw [Tryz.func12];kernel_rfl) (Nat.le_of_ble_eq_true (by kernel_rfl)) (c0:=0) (Eq.mp (F12_eq g K X) h))
end Go.Proofs.YtbglndogddddoaaGreatDoor
namespace Go.Proofs.YtbglndogddddoaaGreatDoor
open Go.RowKit
set_option maxRecDepth 100000
def atS:List Atm:=[⟨QE 0,1,QE 0,1,iz,⟨#[]⟩,0,⟨#[]⟩,⟨#[]⟩,iz,iz,[]⟩,⟨QE 1,2,iz,0,⟨dz, -1⟩,⟨#[102]⟩,0,⟨#[]⟩,⟨#[]⟩,iz,iz,[]⟩,
 ⟨QE 2,5,iz,0,iz,⟨#[]⟩,0,⟨#[]⟩,⟨#[120]⟩,iz,iz,[]⟩,⟨QE 3,6,iz,0,iz,⟨#[]⟩,0,⟨#[]⟩,⟨#[]⟩,iz,QE 2,[]⟩,⟨QE 4,6,iz,0,iz,⟨#[]⟩,0,⟨#[]⟩,⟨#[]⟩,QE 2,iz,[]⟩]
def lS (d:Dig):List Atm:=atS.map (cmpA d)
theorem exS:xe Yt ⟨#[]⟩ 5 [] zm=(atS,vp,0):=by
 unfold xe
 rw [headS,chgsS,enTS]
 rfl
theorem atmS:yK Yt ⟨#[]⟩ 5 [] zm=(lS (Q0 vp),0):=by
 unfold yK Y0
 rw [exS]
 rfl
theorem xS:xP Yt ⟨#[]⟩ 5 [] zm:=by
 have i: ∀n:Int, -10<=n/\n<=100->jj n:=fun n h=>⟨by omega,by omega⟩
 refine ⟨i 5 (by omega),Nat.le_of_ble_eq_true rfl,Nat.le_of_ble_eq_true rfl,Nat.le_of_ble_eq_true rfl,Nat.le_of_ble_eq_true rfl,fun c hc=> ?_⟩
 simp only [zm,List.mem_cons,List.not_mem_nil,or_false] at hc
 rcases hc with rfl | rfl | rfl<;>exact ⟨i _ (by decide),i _ (by decide),i _ (by decide),i _ (by decide),i _ (by decide),i _ (by decide),fun x hx=>by cases hx⟩
theorem kS (d:Dig):(lS d).map Atm.kind=[1,2,5,6,6]:=by kernel_rfl
theorem nS (d:Dig):(lS d).map (fun x=>x.id.n)=[0,1,2,3,4]:=by kernel_rfl
theorem lS_len (d:Dig):(lS d).length=5:=rfl
theorem refS (d:Dig):((lS d).getD 3 az).frm=((lS d).getD 0 az).id/\((lS d).getD 3 az).til=((lS d).getD 2 az).id/\((lS d).getD 4 az).frm=((lS d).getD 2 az).id/\((lS d).getD 4 az).til=((lS d).getD 0 az).id:=⟨by kernel_rfl,by kernel_rfl,by kernel_rfl,by kernel_rfl⟩
theorem F12_L4_is {d:Dig} {K:Kn} (h:Ko K true):F12_L4 K (lS d,[1,2,5,6,6],(([1,2,5,6,6].length:Nat):Int),0,()):=by
 have hk:=kS d
 have hn:=nS d
 have hl:=lS_len d
 obtain ⟨r1,r2,r3,r4⟩:=refS d
 generalize lS d=l at hk hn hl r1 r2 r3 r4
 unfold F12_L4
 refine qQ.countTo 5 (fun n=>(l,[1,2,5,6,6],((5:Nat):Int),(n:Int),())) (fun _=>True) rfl (fun n hn5 _ W hW=> ?_) trivial
 show F12_B4 K W l [1,2,5,6,6] ((5:Nat):Int) n
 unfold F12_B4
 by_cases hlt:n<5
 . rw [qt hlt,cond_true]
   have h5:n< ([1,2,5,6,6]:List Int).length:=hlt
   have hln:n<l.length:=by omega
   have e1:l[n].kind=([1,2,5,6,6]:List Int)[n]:=by
    have:(l.map Atm.kind)[n]? =([1,2,5,6,6]:List Int)[n]? :=by rw [hk]
    rw [List.getElem?_map,xQ hln,xQ h5] at this
    exact Option.some.inj this
   have e2:l[n].id.n=(n:Int):=by
    have:(l.map (fun x=>x.id.n))[n]? =([0,1,2,3,4]:List Int)[n]? :=by rw [hn]
    rw [List.getElem?_map,xQ hln] at this
    have h3:n=0∨n=1∨n=2∨n=3∨n=4:=by omega
    have:=Option.some.inj (this.trans (show ([0,1,2,3,4]:List Int)[n]? =some (n:Int)by rcases h3 with rfl | rfl | rfl | rfl | rfl<;>rfl))
    exact this
   refine qE h5 (qE hln ?_)
   rw [decide_eq_true e1,Bool.not_true,cond_false]
   refine qE hln ?_
   rw [decide_eq_true e2,Bool.not_true]
   unfold F12_J9
   rw [cond_false,zJ hlt (by omega)]
   exact hW hlt trivial
 . have:n=5:=by omega
   subst this
   rw [qm,cond_false]
   have at3: ∀{Q:Atm->Prop},Q (l.getD 3 az)->At l 3 Q:=fun hQ=>qE (n:=3) (by omega) (by rwa [List.getD_eq_getElem?_getD,xQ (show 3<l.length by omega)] at hQ)
   have at0: ∀{Q:Atm->Prop},Q (l.getD 0 az)->At l 0 Q:=fun hQ=>qE (n:=0) (by omega) (by rwa [List.getD_eq_getElem?_getD,xQ (show 0<l.length by omega)] at hQ)
   have at2: ∀{Q:Atm->Prop},Q (l.getD 2 az)->At l 2 Q:=fun hQ=>qE (n:=2) (by omega) (by rwa [List.getD_eq_getElem?_getD,xQ (show 2<l.length by omega)] at hQ)
   have at4: ∀{Q:Atm->Prop},Q (l.getD 4 az)->At l 4 Q:=fun hQ=>qE (n:=4) (by omega) (by rwa [List.getD_eq_getElem?_getD,xQ (show 4<l.length by omega)] at hQ)
   refine at3 (at0 ?_)
   rw [Z8,decide_eq_true r1,cond_true]
   refine at3 (at2 ?_)
   rw [Z8,decide_eq_true r2,cond_true]
   refine at4 (at2 ?_)
   rw [Z8,decide_eq_true r3,cond_true]
   refine at4 (at0 ?_)
   rw [Z8,decide_eq_true r4]
   exact h
def sp12:Sp:=⟨S12,L12,fun _=>True,fun _=> .bool true,fun _=>none⟩
theorem sp12_ok:sp12.Ok Tryz.prog 12 true:=
 ⟨fun g K X _ h=>F12_ok g K X (by
  unfold F12
  refine ⟨trivial,xS,trivial,xS, ?_⟩
  have e1:xe ⟨#[97,110,110]⟩ ⟨#[]⟩ 5 [] zm=(atS,vp,0):=exS
  have e2:yK ⟨#[97,110,110]⟩ ⟨#[]⟩ 5 [] zm=(lS (Q0 vp),0):=atmS
  rw [e1,e2]
  have hl:=lS_len (Q0 vp)
  have hL:=F12_L4_is (d:=Q0 vp) (K:=K) h
  generalize lS (Q0 vp)=l at hl hL
  show bif !decide (vp=vp)then _ else Vu K l (!decide (((l.length:Nat):Int)=5))
  rw [decide_eq_true rfl,hl]
  exact hL),fun _ _ _=>rfl,fun _=>rfl,fun _ _=>⟨rfl,rfl⟩⟩
end Go.Proofs.YtbglndogddddoaaGreatDoor
namespace Go.Proofs.YtbglndogddddoaaGreatDoor
open Go.RowKit
attribute [local irreducible] qJ qd
set_option maxRecDepth 100000
end Go.Proofs.YtbglndogddddoaaGreatDoor
namespace Go.Proofs.YtbglndogddddoaaGreatDoor
open Go.RowKit
set_option maxRecDepth 100000
theorem digL_u8 {d:Dig} (h:wc d): ∀x∈xD d,0<=x/\x<=255:=by
 have: ∀x∈xD d,IntKind.u8.min<=x/\x<=IntKind.u8.max:=by
  unfold wc at h
  unfold xD
  simp only [List.forall_mem_cons,List.not_mem_nil,false_implies,implies_true,and_true]
  exact h
 exact fun x hx=>u8_wf (this x hx)
theorem VI {x:Idn} (h:jv x):wc x.patch:=by
 unfold jv at h
 unfold wc
 simp only [h,and_self]
theorem wf_idk_n {x:Idn} (h:jv x):jj x.n:=by
 unfold jv at h
 have:IntKind.i64.min<=x.n/\x.n<=IntKind.i64.max:=by simp only [h,and_self]
 have h1:IntKind.i64.min= -9223372036854775808:=rfl
 have h2:IntKind.i64.max=9223372036854775807:=rfl
 exact ⟨by omega,by omega⟩
end Go.Proofs.YtbglndogddddoaaGreatDoor
namespace Go.Proofs.YtbglndogddddoaaGreatDoor
open Go.RowKit Go.ChangeShapes
def elsF (e:El):Bool:=(lvs e).all fun l=>match l with | .fd=>false | _=>true
def DR:TD:=D.filter fun p=>match p.2.el with | some e=>elsF e | none=>true
theorem VB {t:TypeId} {te:TI}: ∀(l:TD),qN l t=some te->(t,te)∈l
 | [],h=>by cases h
 | (j,x)::r,h=>by
  simp only [qN] at h
  split at h
  . rename_i e;subst e;injection h with h;subst h;exact List.mem_cons_self
  . exact List.mem_cons_of_mem _ (VB r h)
theorem XW {t:TypeId} {te:TI}: ∀(l:TD),(l.map (·.1)).Nodup->(t,te)∈l->qN l t=some te
 | [],_,h=>by cases h
 | (j,x)::r,hn,h=>by
  simp only [List.map_cons,List.nodup_cons] at hn
  rcases List.mem_cons.1 h with h | h
  . cases h;simp [qN]
  . have:j≠t:=by rintro rfl;exact hn.1 (List.mem_map.2 ⟨_,h,rfl⟩)
    simp only [qN]
    rw [if_neg (Ne.symm this)]
    exact XW r hn.2 h
theorem DR_ok:zz Tryz.prog DR:=fun t ti h=>
 qY t ti (XW D (of_decide_eq_true (by kernel_rfl:decide ((D.map (·.1)).Nodup)=true)) (List.mem_filter.1 (VB DR h)).1)
theorem kinds_ok:XN DR:=by
 have key:DR.all (fun p=>match p.2.el with | some e=>decide (wh DR 8 p.1=some (lvs e)) | none=>true)=true:=by kernel_rfl
 intro t te e ht he
 have:=List.all_eq_true.1 key _ (VB DR ht)
 simp only [he] at this
 exact ⟨8,of_decide_eq_true this⟩
theorem the_kids:Kids Tryz.prog (· <Tryz.prog.types.size):=kids_rows (by kernel_rfl) (by kernel_rfl)
theorem the_full: ∀t e,t<Tryz.prog.types.size->Tryz.prog.underlying t=some (.slice e)->0<Tryz.prog.cellsOf e:=slices_full_of Tryz.prog (by kernel_rfl)
theorem the_knob:ownKnob Tryz.prog.godebug=none:=by kernel_rfl
theorem bulk_le {H:Type} {l:List (DataW H)} (hk:Rows.uptoSmall H l=true):Rows.uptoBulkAll l<=1048576:=by
 simpa [Rows.uptoSmall] using hk
theorem returns_row {H:Type} {enc:TypeId×Value->H} {a:Assume} {C:Checked} {os:Os} {f:FuncId} {fn:Func} {s:OpenSpec} {F:Stop.Interp} {conds:List PathCond} {apart fresh handsOn again:Bool} {laid:List (String×DataW Unit)}
  (own:ownKnob C.prog.godebug=none) (started:os.Started) (noInit:C.prog.inits.idxOf? f=none) (hfn:C.prog.funcs[f]? =some fn)
  (witness: ∃(w:World) (tape:Tape) (i:Input),w.os=os/\(w.forCall tape i).Shaped C.prog/\i.vars=[]/\Input.okWide C.prog (w.forCall tape i) .any w.heap.size f i/\
   s.preRow enc C.prog fn conds apart laid (w.forCall tape i).memory i.args/\a.holds C.prog (lone (Frame.enter C.prog f i.args .normal) [] (w.forCall tape i)))
  (contract: ∀(W:World) (base:Nat) (args:Array Value) (ds gs:List (DataW H)) (before:List MemPlace),
   (∀(j:Nat) t v,fn.params[j]? =some t->args[j]? =some v->Value.okWide C.prog W .any base t v)->
   DataW.Whole enc C.prog fn.params.toList s.vars apart W args.toList ds gs before->
   (∀k,s.cond=some k->k H (ds++gs)=true)->laidMetH C.prog laid W->
   Calls C.prog f args W fun e W'=> ∃v,e= .returned v/\(s.at F).post enc C.prog fn apart fresh handsOn again W args v W'):
  ReturnsInHanded a C os f .any (s.preRow enc C.prog fn conds apart laid) ((s.at F).post enc C.prog fn apart fresh handsOn again):=by
 refine returnsInHanded_of_calls own started noInit witness ?_
 intro w tape i _ _ _ hok hpre hholds
 obtain ⟨_,_,_,fn',hfn',_,_,_,_,hval⟩:=hok
 have e:fn'=fn:=Option.some.inj (hfn'.symm.trans hfn)
 subst e
 obtain ⟨⟨hp,hl⟩,_⟩:=hpre
 obtain ⟨ds,gs,before,hw,hc,hkk⟩:=OpenSpec.pre_parts hp
 have hw':=DataW.Whole.of_heap (w':=w.forCall tape i) (by rfl) hw
 refine (contract (w.forCall tape i) w.heap.size i.args ds gs before hval hw' hkk (hl.of_heap (by rfl))).mono fun e W' ⟨v,he,hp⟩=> ?_
 subst he
 exact ChangeSpec.post_blind hp
def laidAll:List (String×DataW Unit):=Rows.patchEncodeUptoRow.laid
theorem door_met (os:Os) (args:Array Value):laidMetH Tryz.prog laidAll ((World.doorLaid Tryz.prog 400 os).forCall (fun _ _=>0) ⟨#[],args,[]⟩).memory:=
 laidMetH_of_parts3 (fuel:=8) (laidMet_of_run' 8 (by kernel_rfl) (by kernel_rfl)) (by kernel_rfl) (by kernel_rfl)
theorem gPow:Tryz.prog.globalNamed "internal/strconv.uint64pow10" =some 3:=by kernel_rfl
theorem tPow:(Tryz.prog.globals[3]?).map (·.type)=some 255:=by kernel_rfl
theorem var_block {P:Program} {w:World} {n:String} {g:Nat} {cs:Array Value} (hg:P.globalNamed n=some g) (h:w.var? P n=some cs): ∃E fr,w.heap[g]? =some (.cells cs E fr):=by
 simp only [World.var?,hg,Option.bind_some] at h
 split at h
 . rename_i c E fr e
   simp only [Option.some.injEq] at h
   subst h
   exact ⟨_,_,e⟩
 . cases h
theorem laid_rd {W:World} (h:laidMetH Tryz.prog laidAll W):LaidG (RdB W):=by
 rw [MakeChecks.laidMetH_plain _ _ _ (by kernel_rfl)] at h
 obtain ⟨ps,⟨_,_,_,_,_,_,_,_,_,_,⟨_,_,_,_,_,_,_,_,_,_,⟨g2,t2,cs2,f2,p2,q2,hg2,ht2,hv2,hd2,_,_⟩,_⟩,_⟩,_,_⟩:=h
 obtain rfl:=Option.some.inj (gPow.symm.trans hg2)
 obtain rfl:=Option.some.inj (tPow.symm.trans ht2)
 obtain ⟨E2,fr2,b2⟩:=var_block hg2 hv2
 refine ⟨?_, ?_⟩
 . obtain ⟨xs,m,rfl,hx1,hlen,hn,hel⟩:=DataW.trod_array Tryz.underlying255 hd2
   have c1:Tryz.prog.cellsOf 137=1:=by kernel_rfl
   have c2:Tryz.prog.cellsOf 255=20:=by kernel_rfl
   rw [c2] at hlen
   simp only [Prod.mk.injEq] at hx1
   have hl:(.agg (xs.map (·.1)):DataW Unit)= .agg ((List.range 20).map fun i=> .lit (.int .u64 ((10^i:Nat):Int))):=hx1.1.symm.trans (by kernel_rfl)
   injection hl with hl
   have hsz:cs2.size=20:=by simpa using hlen
   have key: ∀j,j<20->cs2[j]? =some (.int .u64 ((10^j:Nat):Int)):=fun j hj=>by
    have h1:=hel j hj
    rw [c1,Nat.mul_one] at h1
    obtain ⟨y,hy⟩: ∃y,xs[j]? =some y:=⟨xs[j],List.getElem?_eq_getElem (by omega)⟩
    rw [hy] at h1
    obtain ⟨n,e1,e2,_⟩:=DataW.trod_int Tryz.underlying137 h1
    have h2:=congrArg (·[j]?) hl
    simp only [List.getElem?_map,hy,Option.map_some,e2,List.getElem?_range hj] at h2
    simp only [Option.some.injEq,DataW.lit.injEq,Lit.int.injEq,true_and] at h2
    subst h2
    have h3:=congrArg (·[0]?) e1
    simp only [List.getElem?_take,List.getElem?_drop,Nat.add_zero,List.getElem?_cons_zero] at h3
    simpa using h3
   exact ⟨.mk 3 Qe cs2 E2 fr2 b2 (fun n h=>by have:=congrArg List.length h;simp [Qe] at this) (by simp [Qe,hsz]) (fun j u x hu hx _=>by
    have hj:j<20:=by have:=(List.getElem?_eq_some_iff.1 hu).1;simpa [Qe] using this
    rw [key j hj] at hx
    simp [Qe,hj] at hu hx
    subst hu;subst hx
    exact .int _ _), .ex 3 20 cs2 E2 fr2 b2 hsz (by decide)⟩
 . trivial
theorem door_shaped (os:Os) (args:Array Value):((World.doorLaid Tryz.prog 400 os).forCall (fun _ _=>0) ⟨#[],args,[]⟩).Shaped Tryz.prog:=
 World.shaped_of_RefB (by kernel_rfl) (by kernel_rfl)
theorem witness_row {H:Type} {enc:TypeId×Value->H} {os:Os} {f:FuncId} {fn:Func} {s:OpenSpec} {apart:Bool} (args:Array Value)
  (hok:Input.okWideB Tryz.prog ((World.doorLaid Tryz.prog 400 os).forCall (fun _ _=>0) ⟨#[],args,[]⟩) f ⟨#[],args,[]⟩=true)
  {x:List (DataW H)×List (DataW H)×List MemPlace} (hx:DataW.whole enc Tryz.prog ((World.doorLaid Tryz.prog 400 os).forCall (fun _ _=>0) ⟨#[],args,[]⟩).memory fn.params.toList s.vars apart args.toList 12=some x)
  (hkk: ∀k,s.cond=some k->k H (x.1++x.2.1)=true)
  (hsz:s.bare.sizedB enc Tryz.prog fn apart ((World.doorLaid Tryz.prog 400 os).forCall (fun _ _=>0) ⟨#[],args,[]⟩).memory args 12=true):
  ∃(w:World) (tape:Tape) (i:Input),w.os=os/\(w.forCall tape i).Shaped Tryz.prog/\i.vars=[]/\Input.okWide Tryz.prog (w.forCall tape i) .any w.heap.size f i/\
   s.preRow enc Tryz.prog fn [] apart laidAll (w.forCall tape i).memory i.args/\({}:Assume).holds Tryz.prog (lone (Frame.enter Tryz.prog f i.args .normal) [] (w.forCall tape i)):=
 ⟨World.doorLaid Tryz.prog 400 os,fun _ _=>0,⟨#[],args,[]⟩,rfl,door_shaped os args,(Input.okWide_of_okWideB (base:=0) hok).1,(Input.okWide_of_okWideB hok).2,OpenSpec.preRow_of_cond 12 hx rfl hkk hsz (door_met os args),by
  simp only [Assume.holds]
  exact ⟨by simp,by simp,fun _=>Modest.zero,by simp,by simp⟩⟩
end Go.Proofs.YtbglndogddddoaaGreatDoor
namespace Go.Proofs.YtbglndogddddoaaGreatDoor
open Go.RowKit
set_option maxRecDepth 100000
theorem ofN_lt {a b:Int} (ha:0<=a/\a<=255) (hb:0<=b/\b<=255):(UInt8.ofNat a.toNat<UInt8.ofNat b.toNat)↔a<b:=by
 rw [UInt8.lt_iff_toNat_lt,UInt8.toNat_ofNat',UInt8.toNat_ofNat']
 have h1:a.toNat%2^8=a.toNat:=Nat.mod_eq_of_lt (by omega)
 have h2:b.toNat%2^8=b.toNat:=Nat.mod_eq_of_lt (by omega)
 rw [h1,h2]
 omega
theorem cb_cmp: ∀l m:List Int,l.length=m.length->(∀x∈l,0<=x/\x<=255)->(∀x∈m,0<=x/\x<=255)->Lib.compareBytes (bs l) (bs m)=cmpI l m
 | [],[],_,_,_=>rfl
 | [],_::_,h,_,_=>by cases h
 | _::_,[],h,_,_=>by cases h
 | a::l,b::m,h,ha,hb=>by
  have ih:=cb_cmp l m (by simpa using h) (fun x hx=>ha x (List.mem_cons_of_mem _ hx)) (fun x hx=>hb x (List.mem_cons_of_mem _ hx))
  have ha:=ha a (List.mem_cons_self ..)
  have hb:=hb b (List.mem_cons_self ..)
  show (if UInt8.ofNat a.toNat<UInt8.ofNat b.toNat then (-1:Int)else if UInt8.ofNat b.toNat<UInt8.ofNat a.toNat then 1 else Lib.compareBytes (bs l) (bs m))=bif decide (a<b)then -1 else bif decide (b<a)then 1 else cmpI l m
  rw [ih,Bool.cond_decide,Bool.cond_decide]
  simp only [ofN_lt ha hb,ofN_lt hb ha]
theorem KS {a b:Dig} (ha:wc a) (hb:wc b):zG a b=ju a b:=cb_cmp _ _ rfl (digL_u8 ha) (digL_u8 hb)
theorem idC_idI {a b:Idn} (ha:jv a) (hb:jv b):idC a b=idI a b:=by
 unfold idC idI
 rw [KS (VI ha) (VI hb)]
theorem headB_eq {a m:ByteArray} {t:Int} {ds:List Dig} {cs:List Chg} (h: ∀d∈ds,wc d):zP zG a m t ds cs=zP ju a m t ds cs:=by
 have e:depsE zG ds=depsE ju ds:=by
  refine Xk fun n hn=> ?_
  rw [Jc hn,Jc hn,KS (h _ (List.getElem_mem _)) (h _ (List.getElem_mem _))]
 unfold zP jy
 rw [e]
theorem Ki {k:Int}: ∀{l:List Int},(∀e∈l,e=0∨e=k)->errs l=0∨errs l=k
 | [],_=> .inl rfl
 | e::l,h=>by
  have ih:=Ki fun x hx=>h x (List.mem_cons_of_mem e hx)
  have h0:=h e (List.mem_cons_self ..)
  unfold errs
  cases decide (e=0)
  . exact h0
  . exact ih
theorem overEs_vals (cmp:Idn->Idn->Int) (l:List Idn):vu cmp l=0∨vu cmp l=9:=by
 refine Ki fun e he=> ?_
 obtain ⟨n,_,rfl⟩:=List.mem_map.1 he
 unfold We
 split
 . rename_i a b _ _
   cases decide (0<=cmp a b)
   . exact .inl rfl
   . exact .inr rfl
 . exact .inl rfl
theorem overEs_eq {l:List Idn} (h: ∀x∈l,jv x):vu idC l=vu idI l:=by
 refine Xk fun n _=> ?_
 unfold We
 split
 . rename_i a b ha hb
   rw [idC_idI (h _ (List.mem_of_getElem? ha)) (h _ (List.mem_of_getElem? hb))]
 . rfl
theorem ascI_eq {l:List Idn} (h: ∀x∈l,jv x):vu idC l=bif !(ascI l)then 9 else 0:=by
 rw [overEs_eq h]
 unfold ascI
 rcases overEs_vals idI l with e | e<;>rw [e]<;>rfl
theorem emptyB_parts {c:Chg} (h:wZ c=true):c.typ=0/\c.mode=0/\c.lines=[]/\c.over=[]:=by
 unfold wZ at h
 simp only [Bool.cond_false_right,Bool.and_eq_true,decide_eq_true_eq] at h
 obtain ⟨-,h1, -, -,h2, -, -, -,h3,h4⟩:=h
 exact ⟨h1,h2,List.eq_nil_of_length_eq_zero (by omega),List.eq_nil_of_length_eq_zero (by omega)⟩
theorem tidy_eq (c:Chg):jn c=wZ (yq c):=emptyT_eq _
theorem VC {c:Chg} (hk:jk c) (h:jn c=true):(c.kind≠3->c.mode=0)/\(c.kind≠5->c.lines=[])/\(c.kind=1∨c.kind=5->c.over=[]):=by
 rw [tidy_eq] at h
 obtain ⟨kind,file,typ,parent,name,mode,data,after,before,lines,over⟩:=c
 have hk1:(1:Int)<=kind/\kind<=7:=hk
 have:kind=1∨kind=2∨kind=3∨kind=4∨kind=5∨kind=6∨kind=7:=by omega
 have:=emptyB_parts h
 rcases ‹_∨_› with rfl | rfl | rfl | rfl | rfl | rfl | rfl<;>obtain ⟨h1,h2,h3,h4⟩:=this
 . exact ⟨fun _=>h2,fun _=>h3,fun _=>h4⟩
 . exact ⟨fun _=>h2,fun _=>h3,fun h=>by rcases h with h | h<;>cases h⟩
 . exact ⟨fun h=>absurd rfl h,fun _=>h3,fun h=>by rcases h with h | h<;>cases h⟩
 . exact ⟨fun _=>h2,fun _=>h3,fun h=>by rcases h with h | h<;>cases h⟩
 . exact ⟨fun _=>h2,fun h=>absurd rfl h,fun _=>h4⟩
 . exact ⟨fun _=>h2,fun _=>h3,fun h=>by rcases h with h | h<;>cases h⟩
 . exact ⟨fun _=>h2,fun _=>h3,fun h=>by rcases h with h | h<;>cases h⟩
theorem fields_eq {c:Chg} (h: ∀x∈c.over,jv x):zo c=jH c:=by
 unfold zo jH fP10 fR2
 cases ek:(bif decide (c.kind<1)then true else decide (7<c.kind))
 rotate_left
 . rfl
 have hk:jk c:=by
  by_cases h1:c.kind<1
  . rw [decide_eq_true h1] at ek;cases ek
  . rw [decide_eq_false h1,cond_false] at ek
    have:=of_decide_eq_false ek
    exact ⟨by omega,by omega⟩
 rw [cond_false,cond_false, <- tidy_eq]
 cases et:jn c
 . rfl
 obtain ⟨t1,t2,t3⟩:=VC hk et
 simp only [Bool.not_true,cond_false]
 unfold fP9 fR4
 cases (bif decide (c.kind=1)then (bif decide (c.typ<1)then true else decide (4<c.typ))else false)
 rotate_left
 . rfl
 rw [cond_false,cond_false]
 unfold fP8 fR6
 cases (bif decide (c.kind=2)then !(xk c.name)else false)
 rotate_left
 . rfl
 rw [cond_false,cond_false]
 unfold fP7 fR8
 have e3:(bif decide (c.kind=3)then (bif decide (c.mode<0)then true else decide (511<c.mode))else false)=(bif decide (c.mode<0)then true else decide (511<c.mode)):=by
  by_cases k:c.kind=3
  . rw [decide_eq_true k];rfl
  . rw [decide_eq_false k,t1 k];rfl
 rw [e3]
 cases (bif decide (c.mode<0)then true else decide (511<c.mode))
 rotate_left
 . rfl
 rw [cond_false,cond_false]
 cases decide (65536< (c.data.size:Int))
 rotate_left
 . rfl
 rw [cond_false,cond_false]
 unfold fP6
 by_cases k:c.kind=5
 . have e0:vu idC ([]:List Idn)=0:=rfl
   have e7:decide (c.kind=7)=false:=decide_eq_false (by omega)
   rw [decide_eq_true k,cond_true,cond_true]
   unfold J9
   cases decide ((c.lines.length:Int)=0)
   rotate_left
   . rfl
   rw [cond_false,cond_false]
   cases decide (2000< (c.lines.length:Int))
   rotate_left
   . rfl
   rw [cond_false,cond_false]
   unfold fP12 fP15
   rw [e7,t3 (.inr k),e0]
   cases ez:decide (ZB c.lines=0)
   . rfl
   . exact (of_decide_eq_true ez).symm
 . have e0:ZB ([]:List ByteArray)=0:=rfl
   rw [decide_eq_false k,cond_false,cond_false,cond_false]
   unfold fP12
   rw [t2 k,e0]
   show fP15 _ c=fR10 _ c
   unfold fP15 fR10
   rw [ascI_eq h]
set_option maxRecDepth 100000
def yB (own:List Atm):Prop:=own.length<=100000/\ ∀(i:Nat) (a:Atm),own[i]? =some a->a.id=QE i
theorem XO {own:List Atm} {x:Idn} {fd:Fd} {b:Bool} (hl:own.length<=100000) (hb:zk x.patch dz=true->0<=x.n->x.n< (own.length:Int)->fitFd fd (own.getD x.n.toNat az)=b):yE own ⟨x,fd⟩=jp x own b:=by
 unfold yE jp alwB Qg
 dsimp only
 cases eo:zk x.patch dz
 . simp only [cond_false]
   by_cases h1:x.n<0
   . rw [decide_eq_true h1,decide_eq_false (show¬0<=x.n by omega)];rfl
   . rw [decide_eq_false h1,decide_eq_true (show 0<=x.n by omega)]
     simp only [cond_false,cond_true]
     by_cases h2:x.n<100000
     . rw [decide_eq_true h2,decide_eq_false (show¬100000<=x.n by omega)];rfl
     . rw [decide_eq_false h2,decide_eq_true (show 100000<=x.n by omega)];rfl
 . simp only [cond_true]
   by_cases h1:x.n<0
   . rw [decide_eq_true h1,decide_eq_false (show¬0<=x.n by omega)];rfl
   . rw [decide_eq_false h1,decide_eq_true (show 0<=x.n by omega)]
     simp only [cond_false,cond_true]
     by_cases h2:x.n< (own.length:Int)
     . rw [decide_eq_true h2,decide_eq_false (show¬(own.length:Int)<=x.n by omega),decide_eq_false (show¬100000<=x.n by omega),hb eo (by omega) h2];rfl
     . rw [decide_eq_false h2,decide_eq_true (show (own.length:Int)<=x.n by omega)];rfl
theorem Zk {own:List Atm} {x:Idn} (h0:zk x.patch dz=true) (h1:0<=x.n) (h2:x.n< (own.length:Int)):vv own x=own.getD x.n.toNat az:=by
 unfold vv
 rw [h0,decide_eq_true h1,decide_eq_true h2];rfl
theorem own_id {own:List Atm} {x:Idn} (hw:yB own) (h0:zk x.patch dz=true) (h1:0<=x.n) (h2:x.n< (own.length:Int)):(own.getD x.n.toNat az).id=x:=by
 have hlt:x.n.toNat<own.length:=by omega
 have:=hw.2 x.n.toNat own[x.n.toNat] (xQ hlt)
 rw [List.getD_eq_getElem?_getD,xQ hlt,Option.getD_some,this]
 obtain ⟨p,n⟩:=x
 rw [Wt] at h0
 have h0:p=dz:=of_decide_eq_true h0
 subst h0
 show (⟨dz,((n.toNat:Nat):Int)⟩:Idn)=⟨dz,n⟩
 have h1:0<=n:=h1
 rw [show ((n.toNat:Nat):Int)=n by omega]
theorem file_eq {own:List Atm} (hw:yB own) {k:Int} {x:Idn} {fd:Fd} (h: ∀a,fitFd fd a=yt k a):yE own ⟨x,fd⟩=jp x own (yt k (vv own x)):=
 XO hw.1 fun h0 h1 h2=>by rw [h,Zk h0 h1 h2]
theorem dir_eq {own:List Atm} (hw:yB own) {x:Idn}:yE own ⟨x, .dir⟩=jp x own (bif decide ((vv own x).kind=1)then decide ((vv own x).typ=4)else false):=
 XO hw.1 fun h0 h1 h2=>by rw [Zk h0 h1 h2];rfl
theorem fin_eq {own:List Atm} (hw:yB own) {c:Chg} {x:Idn}:yE own ⟨x, .fin c⟩=jp x own (QU own c.file x):=
 XO hw.1 fun h0 h1 h2=>by
  show WE _ c=QU own c.file x
  unfold WE QU Kz
  rw [own_id hw h0 h1 h2,Zk h0 h1 h2]
theorem over_K {k:Int} (h:k=2∨k=3∨k=4∨k=6):overK k=k/\Xo k=k/\k≠7/\k≠0:=by
 rcases h with rfl | rfl | rfl | rfl<;>exact ⟨by kernel_rfl,rfl,by decide,by decide⟩
theorem sup_eq {own:List Atm} (hw:yB own) {c:Chg} (hk:c.kind=2∨c.kind=3∨c.kind=4∨c.kind=6∨c.kind=7) {x:Idn}:yE own ⟨x, .sup c⟩=jp x own (ZZ c.kind c.file (vv own x)):=
 XO hw.1 fun h0 h1 h2=>by
  show Yg _ c=_
  rw [Zk h0 h1 h2]
  unfold Yg ZZ
  by_cases k7:c.kind=7
  . rw [k7];rfl
  . obtain ⟨e1,e2, -,e4⟩:=over_K (k:=c.kind) (by omega)
    rw [e1,e2,decide_eq_false k7,decide_eq_false e4]
theorem sups_eq {own:List Atm} (hw:yB own) {c:Chg} (hk:(c.kind=1∨c.kind=5)->c.over=[]) (hp:jk c):(qqK c).map (yE own)=Zz c own:=by
 unfold qqK Zz
 rw [List.map_map]
 obtain ⟨k1,k2⟩:=hp
 by_cases h:c.kind=1∨c.kind=5
 . rw [hk h];rfl
 . exact List.map_congr_left fun x _=>sup_eq hw (by omega)
theorem last_eq (c:Chg):Zd c=KW c:=by
 unfold Zd KW Zh
 cases (bif decide (c.kind=2)then qs c.parent c.file else false)
 rotate_left
 . rfl
 rw [cond_false,cond_false]
 unfold ZV kn
 by_cases k5:c.kind=5
 . have k6:decide (c.kind=6)=false:=decide_eq_false (by omega)
   rw [decide_eq_true k5,k6]
   cases qs c.after c.before<;>cases qs c.after c.file<;>rfl
 . by_cases k6:c.kind=6
   . rw [decide_eq_false k5,decide_eq_true k6]
     cases qs c.after c.before<;>cases qs c.after c.file<;>rfl
   . rw [decide_eq_false k5,decide_eq_false k6];rfl
def ko (a b:Int):Int:=bif !decide (a=0)then a else b
theorem v7 (a b c:Int):ko (ko a b) c=ko a (ko b c):=by
 unfold ko
 by_cases h:a=0
 . subst h;rfl
 . simp [h]
theorem Jz (e:Int):errs [e]=e:=by
 unfold errs
 by_cases h:e=0
 . subst h;rfl
 . rw [decide_eq_false h];rfl
theorem kM (l m:List Int):errs (l++m)=ko (errs l) (errs m):=by
 rw [Xp]
 unfold ko
 cases decide (errs l=0)<;>rfl
def KN (c:Chg):List Rfn:=bif (bif decide (c.kind=5)then true else decide (c.kind=6))then [⟨c.after,Fd.fin c⟩,⟨c.before,Fd.fin c⟩]++qqK c else qqK c
def midR (c:Chg):List Rfn:=bif (bif decide (c.kind=2)then !(qs c.parent ⟨dz, -1⟩)else false)then [⟨c.parent,Fd.dir⟩]++KN c else KN c
theorem rL24_eq (c:Chg) (out:List Rfn):rL24 c out=out++KN c:=by
 unfold rL24 rL17 KN
 cases (bif decide (c.kind=5)then true else decide (c.kind=6))
 . rfl
 . simp only [cond_true,List.append_assoc,List.cons_append,List.nil_append]
theorem VZ (c:Chg) (out:List Rfn):rL25 c out=out++midR c:=by
 unfold rL25 rL12 midR
 cases (bif decide (c.kind=2)then !(qs c.parent ⟨dz, -1⟩)else false)
 . exact rL24_eq c out
 . simp only [cond_true]
   rw [rL24_eq,List.append_assoc]
theorem tail_eq {own:List Atm} (hw:yB own) {c:Chg} (ho:(c.kind=1∨c.kind=5)->c.over=[]) (hp:jk c):ko (errs ((KN c).map (yE own))) (Zd c)=rF26 own c:=by
 rw [last_eq]
 unfold KN rF26 kn rF25
 cases (bif decide (c.kind=5)then true else decide (c.kind=6))
 . rw [cond_false,cond_false,sups_eq hw ho hp];rfl
 . rw [cond_true,cond_true]
   rw [List.map_append,List.map_cons,List.map_cons,List.map_nil,fin_eq hw,fin_eq hw,sups_eq hw ho hp,kM, <- List.singleton_append,kM,Jz,Jz,v7,v7]
   rfl
theorem mid_eq {own:List Atm} (hw:yB own) {c:Chg} (ho:(c.kind=1∨c.kind=5)->c.over=[]) (hp:jk c):ko (errs ((midR c).map (yE own))) (Zd c)=rF27 own c:=by
 have ht:=tail_eq hw ho hp
 unfold midR rF27 rF7 rF6
 cases (bif decide (c.kind=2)then !(qs c.parent ⟨dz, -1⟩)else false)
 . exact ht
 . rw [cond_true,cond_true,List.map_append,List.map_cons,List.map_nil,dir_eq hw,kM,Jz,v7,ht]
   rfl
theorem refs_eq {own:List Atm} (hw:yB own) {c:Chg} (ho:(c.kind=1∨c.kind=5)->c.over=[]) (hp:jk c):ka c own=QZ c own:=by
 have hm:=mid_eq hw ho hp
 show ko (errs ((z7 c).map (yE own))) (Zd c)=_
 have one: ∀{fd:Fd},(∀a,fitFd fd a=yt c.kind a)->ko (errs (([(⟨c.file,fd⟩:Rfn)]++midR c).map (yE own))) (Zd c)=rF1 own c:=fun hfd=>by
  rw [List.map_append,List.map_cons,List.map_nil,file_eq hw hfd,kM,Jz,v7,hm]
  rfl
 obtain ⟨k1,k2⟩:=hp
 unfold z7 rL8 rL7 QZ rF2
 rw [VZ,VZ,VZ,VZ]
 have hk:c.kind=1∨c.kind=2∨c.kind=3∨c.kind=4∨c.kind=5∨c.kind=6∨c.kind=7:=by omega
 rcases hk with k | k | k | k | k | k | k
 . rw [k];exact hm
 . rw [k];refine one fun a=> ?_
   rw [k];show decide (a.kind=1)=_;unfold yt;cases decide (a.kind=1)<;>rfl
 . rw [k];refine one fun a=> ?_
   rw [k];show decide (a.kind=1)=_;unfold yt;cases decide (a.kind=1)<;>rfl
 . rw [k];refine one fun a=> ?_
   rw [k];rfl
 . rw [k];refine one fun a=> ?_
   rw [k];rfl
 . rw [k];refine one fun a=> ?_
   rw [k];rfl
 . rw [k];exact hm
set_option maxRecDepth 100000
theorem XF {c:Chg} (h:zo c=0):jn c=true:=by
 unfold zo fP10 at h
 cases ek:(bif decide (c.kind<1)then true else decide (7<c.kind))
 rotate_left
 . rw [ek] at h;cases h
 rw [ek,cond_false] at h
 cases et:jn c
 . rw [et] at h;cases h
 . rfl
theorem range_at {β:Type} {f:Nat->β} {N j:Nat} {a:β} (h:((List.range N).map f)[j]? =some a):j<N/\a=f j:=by
 rw [List.getElem?_map] at h
 obtain ⟨i,hi,rfl⟩:=Option.map_eq_some_iff.1 h
 obtain ⟨h1,h2⟩:=List.getElem?_eq_some_iff.1 hi
 rw [List.getElem_range] at h2
 subst h2
 exact ⟨by simpa using h1,rfl⟩
theorem one_at {β:Type} {x a:β} {j:Nat} (h:[x][j]? =some a):j=0/\a=x:=by
 cases j with
 | zero=>exact ⟨rfl,(Option.some.inj h).symm⟩
 | succ j=>simp at h
theorem madeL_ids {c:Chg} {n:Int} (hk:jk c) {j:Nat} {a:Atm} (h:(j4 c n)[j]? =some a):a.id=QE (n+j):=by
 obtain ⟨kind,file,typ,parent,name,mode,data,after,before,lines,over⟩:=c
 have hk1:(1:Int)<=kind/\kind<=7:=hk
 have h0:n+((0:Nat):Int)=n:=by omega
 have:kind=1∨kind=2∨kind=3∨kind=4∨kind=5∨kind=6∨kind=7:=by omega
 rcases this with rfl | rfl | rfl | rfl | rfl | rfl | rfl
 rotate_right 3
 . have h:(Qx (⟨5,file,typ,parent,name,mode,data,after,before,lines,over⟩:Chg) n++egsL ⟨5,file,typ,parent,name,mode,data,after,before,lines,over⟩ n)[j]? =some a:=h
   have hl:(Qx (⟨5,file,typ,parent,name,mode,data,after,before,lines,over⟩:Chg) n).length=lines.length:=by simp [Qx]
   by_cases hj:j<lines.length
   . rw [List.getElem?_append_left (by rw [hl];exact hj)] at h
     obtain ⟨-,rfl⟩:=range_at h
     rfl
   . rw [List.getElem?_append_right (by rw [hl];omega),hl] at h
     obtain ⟨-,rfl⟩:=range_at h
     show QE (n+(lines.length:Int)+((j-lines.length:Nat):Int))=_
     rw [show n+(lines.length:Int)+((j-lines.length:Nat):Int)=n+j by omega]
 all_goals
  obtain ⟨rfl,rfl⟩:=one_at h
  rw [h0]
theorem owns_app {own:List Atm} {c:Chg} (hw:yB own) (hk:jk c) (hl:own.length+(j4 c own.length).length<=100000):yB (own++j4 c own.length):=by
 refine ⟨by rw [List.length_append];exact hl,fun i a h=> ?_⟩
 by_cases hi:i<own.length
 . rw [List.getElem?_append_left hi] at h
   exact hw.2 i a h
 . rw [List.getElem?_append_right (by omega)] at h
   rw [madeL_ids hk h,show (own.length:Int)+((i-own.length:Nat):Int)=i by omega]
def atN (cs:List Chg):Nat:=(cs.map fun c=>2*c.lines.length+1).sum
theorem made_at {c:Chg} {n:Int} (hk:jk c):(j4 c n).length<=2*c.lines.length+1:=by
 rw [K7 hk]
 split<;>omega
theorem chgs_eqG: ∀{cs:List Chg} {own:List Atm},yB own->own.length+atN cs<=100000->(∀c∈cs, ∀x∈c.over,jv x)->xB zo ka cs own=xB jH QZ cs own
 | [],_,_,_,_=>rfl
 | c::l,own,hw,hl,hx=>by
  have hl:own.length+(2*c.lines.length+1+atN l)<=100000:=hl
  rw [xB,xB, <- fields_eq (hx c (List.mem_cons_self ..))]
  by_cases hf:zo c=0
  rotate_left
  . rw [decide_eq_false hf];rfl
  have hk:=jG hf
  have ho:=(VC hk (XF hf)).2.2
  have hm:=made_at (n:=own.length) hk
  rw [decide_eq_true hf,Bool.not_true,cond_false,cond_false,refs_eq hw ho hk]
  have ih:=chgs_eqG (cs:=l) (owns_app hw hk (by omega)) (by rw [List.length_append];omega) fun c' hc=>hx c' (List.mem_cons_of_mem _ hc)
  rw [ih]
theorem chgs_eq {cs:List Chg} (hl:atN cs<=100000) (hx: ∀c∈cs, ∀x∈c.over,jv x):QQ cs=yH cs:=
 chgs_eqG ⟨Nat.zero_le _,fun i a h=>by cases h⟩ (by simpa using hl) hx
theorem qqQ {cmp:Dig->Dig->Int} {a m:ByteArray} {t:Int} {ds:List Dig} {cs:List Chg} (h:zP cmp a m t ds cs=0): ∀d∈ds,zk d dz=false:=by
 unfold zP at h
 cases c1:xk a
 . rw [c1] at h;cases h
 rw [c1,Bool.not_true,cond_false] at h
 cases c2:decide (1000< (m.size:Int))
 rotate_left
 . rw [c2] at h;cases h
 rw [c2,cond_false] at h
 cases c3:(bif decide (t<0)then true else decide (1099511627776<t))
 rotate_left
 . rw [c3] at h;cases h
 rw [c3,cond_false] at h
 by_cases z:jy cmp ds=0
 rotate_left
 . rw [decide_eq_false z] at h;exact absurd h z
 unfold jy at z
 cases c4:decide (100< (ds.length:Int))
 rotate_left
 . rw [c4] at z;cases z
 rw [c4,cond_false] at z
 intro d hd
 obtain ⟨n,hn,rfl⟩:=List.getElem_of_mem hd
 have:=errsN_zero.1 z n hn
 rw [Jc hn] at this
 cases e:zk ds[n] dz
 . rfl
 . rw [e] at this;cases this
theorem patD_eq {ds:List Dig} (h: ∀d∈ds,zk d dz=false):ds.map z6=jS ds:=by
 refine List.map_congr_left fun d hd=> ?_
 unfold z6
 rw [h d hd];rfl
theorem exam {a m:ByteArray} {t:Int} {ds:List Dig} {cs:List Chg} (hd: ∀d∈ds,wc d) (hl:atN cs<=100000) (hx: ∀c∈cs, ∀x∈c.over,jv x):
  (xe a m t ds cs).2=vO a m t ds cs:=by
 unfold xe vO JQ
 rw [headB_eq hd,chgs_eq hl hx]
 by_cases z:zP ju a m t ds cs=0
 rotate_left
 . rw [decide_eq_false z]
   show (_,_)=bif !decide (zP ju a m t ds cs=0)then _ else _
   rw [decide_eq_false z];rfl
 rw [decide_eq_true z,Bool.not_true,cond_false,cond_false]
 unfold JZ
 by_cases y:(yH cs).2=0
 rotate_left
 . rw [decide_eq_false y];rfl
 rw [decide_eq_true y,Bool.not_true,cond_false,cond_false]
 unfold YD exP5
 rw [patD_eq (qqQ z)]
 cases (bif !decide ((xi (zu a m t (jS ds) cs)).2=0)then true else decide (65536< ((xi (zu a m t (jS ds) cs)).1.size:Int)))<;>rfl
theorem atN_small {cs:List Chg} (h:cs.length<=20) (h2: ∀c∈cs,c.lines.length<=40):atN cs<=100000:=by
 have: ∀l:List Chg,(∀c∈l,c.lines.length<=40)->atN l<=81*l.length:=by
  intro l
  induction l with
  | nil=>intro _;exact Nat.le_refl _
  | cons c l ih=>
   intro h
   have:=ih fun x hx=>h x (List.mem_cons_of_mem _ hx)
   have:=h c (List.mem_cons_self ..)
   show 2*c.lines.length+1+atN l<=81*(l.length+1)
   omega
 have:=this cs h2
 omega
theorem not_great {a m:ByteArray} {t:Int} {ds:List Dig} {cs:List Chg} (h:yP a m t ds cs=false):atN cs<=100000:=by
 unfold yP at h
 cases e:cs.all (fun c=> !Va c)
 . rw [e] at h;cases h
 rw [e,cond_true] at h
 unfold VE at h
 have h1:cs.length<=20:=by
  cases c1:decide (3000< ((a.size+m.size+wR cs:Nat):Int))
  . rw [c1,cond_false] at h
    cases c2:decide (20< (ds.length:Int))
    . rw [c2,cond_false] at h
      have:=of_decide_eq_false h
      omega
    . rw [c2] at h;cases h
  . rw [c1] at h;cases h
 refine atN_small h1 fun c hc=> ?_
 have:=List.all_eq_true.1 e c hc
 unfold Va at this
 cases c3:kf c.lines
 . unfold kf at c3
   have c3:=(Bool.or_eq_false_iff.1 c3).1
   have:=of_decide_eq_false c3
   omega
 . rw [c3] at this;cases this
set_option maxRecDepth 100000
theorem Q6 {n:Int} (h:IntKind.i64.min<=n/\n<=IntKind.i64.max):jj n:=by
 have h1:IntKind.i64.min= -9223372036854775808:=rfl
 have h2:IntKind.i64.max=9223372036854775807:=rfl
 exact ⟨by omega,by omega⟩
theorem Zp {c:Chg} (h:wf_chg c):chW c/\ ∀x∈c.over,jv x:=by
 unfold wf_chg at h
 have ho: ∀x∈c.over,jv x:=by
  have h:=h
  repeat (first | exact h | replace h:=h.2)
 refine ⟨⟨Q6 (by simp only [h,and_self]),Q6 (by simp only [h,and_self]),Q6 (by simp only [h,and_self]),Q6 (by simp only [h,and_self]),Q6 (by simp only [h,and_self]),Q6 (by simp only [h,and_self]),fun x hx=>wf_idk_n (ho x hx)⟩,ho⟩
theorem pat_in {a m:ByteArray} {t:Int} {ds:List Dig} {cs:List Chg} {B:Nat} (hB:a.size+1+(m.size+1+(1+((ds.map (bk .dig)).sum+1+((cs.map (bk .chg)).sum+1))))<=B) (hB1:B<=1048576)
  (ht:IntKind.i64.min<=t/\t<=IntKind.i64.max) (hd: ∀d∈ds,wfE .dig d) (hc: ∀c∈cs,wfE .chg c):
  xP a m t ds cs/\(cs.map qr).sum<=2097152/\(∀d∈ds,wc d)/\(∀c∈cs, ∀x∈c.over,jv x)/\ ∀c∈cs,c.lines.length<=4194304:=by
 have e:(cs.map (bk .chg)).sum=(cs.map qr).sum:=rfl
 have hl:=yb (bk .dig) 1 ds fun d _=>by show 1<=qqd d;unfold qqd;omega
 have h2:(cs.map qr).sum<=2097152:=by omega
 refine ⟨⟨Q6 ht,by omega,by omega,by omega,by omega,fun c h=>(Zp (hc c h)).1⟩,h2,hd,fun c h=>(Zp (hc c h)).2,fun c h=> ?_⟩
 have:=ZI qr h
 exact (zV (show wl c by unfold wl;omega)).2.2.1
end Go.Proofs.YtbglndogddddoaaGreatDoor
namespace Go.Proofs.YtbglndogddddoaaGreatDoor
open Go.RowKit
attribute [local irreducible] qJ qd
set_option maxRecDepth 100000
def H137:List (Nat×Hint):=[]
def J137:List (Nat×Hint):=[]
abbrev S137:List Sh:=[.leaf, .leaf]
abbrev L137:List Lf:=[.int .u32, .int .u64]
def F137 (g:prodL L137) (K:Kn):Prop:=
 (0:Int)<=g.2.1/\
 (0:Int)<=IntKind.u64.wrap (32-g.2.1)/\
 K (.int .u32 (qZ .or .u32 (Int.fdiv g.1 (2^(min g.2.1.toNat IntKind.u32.bits))) (IntKind.u32.wrap (g.1*2^(min (IntKind.u64.wrap (32-g.2.1)).toNat IntKind.u32.bits))))) []
theorem F137_eq (g:prodL L137) (K X:Kn):F137 g K=qJ D (qk [] []) (qx []) H137 J137 13 [.tmp 4] (qz Tryz.f137) (argsT S137 L137 g) [] (settle0 K) X:=by kernel_rfl
theorem F137_ok (g:prodL L137) (K X:Kn) (h:F137 g K):FCalls Tryz.prog 137 (argsT S137 L137 g) [] K X:=
 FCalls.settle0 (qq qY (jq z8) qj rfl Tryz.func137 (c:=qz Tryz.f137) rfl Tryz.ntmps137 Tryz.results137 (by unfold qv;rw [Tryz.func137];kernel_rfl) (Nat.le_of_ble_eq_true (by kernel_rfl)) (c0:=0) (Eq.mp (F137_eq g K X) h))
def H136:List (Nat×Hint):=[]
def J136:List (Nat×Hint):=[]
abbrev S136:List Sh:=[]
abbrev L136:List Lf:=[]
def F136 (g:prodL L136) (K:Kn):Prop:=
 jz ([1116352408,1899447441,3049323471,3921009573,961987163,1508970993,2453635748,2870763221,3624381080,310598401,607225278,1426881987,1925078388,2162078206,2614888103,3248222580,3835390401,4022224774,264347078,604807628,770255983,1249150122,1555081692,1996064986,2554220882,2821834349,2952996808,3210313671,3336571891,3584528711,113926993,338241895,666307205,773529912,1294757372,1396182291,1695183700,1986661051,2177026350,2456956037,2730485921,2820302411,3259730800,3345764771,3516065817,3600352804,4094571909,275423344,430227734,506948616,659060556,883997877,958139571,1322822218,1537002063,1747873779,1955562222,2024104815,2227730452,2361852424,2428436474,2756734187,3204031479,3329325298].length*1=64/\[1116352408,1899447441,3049323471,3921009573,961987163,1508970993,2453635748,2870763221,3624381080,310598401,607225278,1426881987,1925078388,2162078206,2614888103,3248222580,3835390401,4022224774,264347078,604807628,770255983,1249150122,1555081692,1996064986,2554220882,2821834349,2952996808,3210313671,3336571891,3584528711,113926993,338241895,666307205,773529912,1294757372,1396182291,1695183700,1986661051,2177026350,2456956037,2730485921,2820302411,3259730800,3345764771,3516065817,3600352804,4094571909,275423344,430227734,506948616,659060556,883997877,958139571,1322822218,1537002063,1747873779,1955562222,2024104815,2227730452,2361852424,2428436474,2756734187,3204031479,3329325298].length=(List.replicate 64 (0:Int)).length) (
 jz ([1116352408,1899447441,3049323471,3921009573,961987163,1508970993,2453635748,2870763221,3624381080,310598401,607225278,1426881987,1925078388,2162078206,2614888103,3248222580,3835390401,4022224774,264347078,604807628,770255983,1249150122,1555081692,1996064986,2554220882,2821834349,2952996808,3210313671,3336571891,3584528711,113926993,338241895,666307205,773529912,1294757372,1396182291,1695183700,1986661051,2177026350,2456956037,2730485921,2820302411,3259730800,3345764771,3516065817,3600352804,4094571909,275423344,430227734,506948616,659060556,883997877,958139571,1322822218,1537002063,1747873779,1955562222,2024104815,2227730452,2361852424,2428436474,2756734187,3204031479,3329325298].length*1=64) (
 K (.al .u32 [1116352408,1899447441,3049323471,3921009573,961987163,1508970993,2453635748,2870763221,3624381080,310598401,607225278,1426881987,1925078388,2162078206,2614888103,3248222580,3835390401,4022224774,264347078,604807628,770255983,1249150122,1555081692,1996064986,2554220882,2821834349,2952996808,3210313671,3336571891,3584528711,113926993,338241895,666307205,773529912,1294757372,1396182291,1695183700,1986661051,2177026350,2456956037,2730485921,2820302411,3259730800,3345764771,3516065817,3600352804,4094571909,275423344,430227734,506948616,659060556,883997877,958139571,1322822218,1537002063,1747873779,1955562222,2024104815,2227730452,2361852424,2428436474,2756734187,3204031479,3329325298]) []))
theorem F136_eq (g:prodL L136) (K X:Kn):F136 g K=qJ D (qk [] []) (qx []) H136 J136 2 [.cell 0 138] (qz Tryz.f136) (argsT S136 L136 g) [] (settle0 K) X:=by kernel_rfl
theorem F136_ok (g:prodL L136) (K X:Kn) (h:F136 g K):FCalls Tryz.prog 136 (argsT S136 L136 g) [] K X:=
 FCalls.settle0 (qq qY (jq z8) qj rfl Tryz.func136 (c:=qz Tryz.f136) rfl Tryz.ntmps136 Tryz.results136 (by unfold qv;rw [Tryz.func136];kernel_rfl) (Nat.le_of_ble_eq_true (by kernel_rfl)) (c0:=0) (Eq.mp (F136_eq g K X) h))
def sp136:Sp:=⟨S136,L136,fun _=>True,fun g=> .al .u32 kL,fun _=>none⟩
theorem sp136_ok:sp136.Ok Tryz.prog 136 false:=
 ⟨fun g K X hp h=>F136_ok g K X (by
  have h:K (.al .u32 kL) []:=h
  exact ⟨⟨rfl,rfl⟩,rfl,h⟩),fun _ _ _=>rfl,fun _=>rfl,by first | exact fun _ _=>⟨rfl,rfl⟩ | (intro h;cases h)⟩
def H134:List (Nat×Hint):=[(3,⟨[],[(0, .leaf),(3, .leaf),(4, .leaf)],[],[.int .i64, .str, .int .i64]⟩)]
def J134:List (Nat×Hint):=[]
abbrev S134:List Sh:=[.leaf]
abbrev L134:List Lf:=[.int .i64]
def F134_B2 (K:Kn) (W2:prodL [.int .i64, .str, .int .i64]->Prop) (n_1:Int) (out_1:ByteArray) (i_1:Int):Prop:=
 bif decide (i_1<n_1)then (
  ql (out_1.size+(⟨#[0]⟩:ByteArray).size) 1 (
 W2 (n_1,out_1++(⟨#[0]⟩:ByteArray),IntKind.i64.wrap (i_1+1),())))
 else (
  K (.str out_1) [])
def F134_L2 (K:Kn) (g:prodL [.int .i64, .str, .int .i64]):Prop:=
 qQ (γ:=prodL [.int .i64, .str, .int .i64]) (fun V y=>F134_B2 K V y.1 y.2.1 y.2.2.1) g
def F134 (g:prodL L134) (K:Kn):Prop:=
 F134_L2 K (g.1,(⟨#[]⟩:ByteArray),0,())
theorem F134_eq (g:prodL L134) (K X:Kn):F134 g K=qJ D (qk [] []) (qx []) H134 J134 13 [.tmp 2] (qz Tryz.f134) (argsT S134 L134 g) [] (settle0 K) X:=by kernel_rfl
theorem F134_ok (g:prodL L134) (K X:Kn) (h:F134 g K):FCalls Tryz.prog 134 (argsT S134 L134 g) [] K X:=
 FCalls.settle0 (qq qY (jq z8) qj rfl Tryz.func134 (c:=qz Tryz.f134) rfl Tryz.ntmps134 Tryz.results134 (by unfold qv;rw [Tryz.func134];kernel_rfl) (Nat.le_of_ble_eq_true (by kernel_rfl)) (c0:=0) (Eq.mp (F134_eq g K X) h))
end Go.Proofs.YtbglndogddddoaaGreatDoor
namespace Go.Proofs.YtbglndogddddoaaGreatDoor
open Go.RowKit
set_option maxRecDepth 100000
theorem or_comm (x y:Int):qZ .or .u32 x y=qZ .or .u32 y x:=by
 unfold qZ
 simp only [BitVec.or_comm]
def vh (n:Int):Prop:=n=2∨n=6∨n=7∨n=11∨n=13∨n=17∨n=18∨n=19∨n=22∨n=25
theorem rotC_eq (x:Int) {n:Int} (h:vh n):qZ .or .u32 (Int.fdiv x (2^(min n.toNat IntKind.u32.bits))) (IntKind.u32.wrap (x*2^(min (IntKind.u64.wrap (32-n)).toNat IntKind.u32.bits)))=zC x n:=by
 rw [or_comm]
 unfold zC rotL
 rcases h with rfl | rfl | rfl | rfl | rfl | rfl | rfl | rfl | rfl | rfl<;>rfl
def vr:Sp:=⟨S137,L137,fun g=>vh g.2.1,fun g=> .int .u32 (zC g.1 g.2.1),fun _=>none⟩
theorem sp137_ok:vr.Ok Tryz.prog 137 true:=
 ⟨fun g K X hp h=>F137_ok g K X (by
  have hp:vh g.2.1:=hp
  have h:K (.int .u32 (zC g.1 g.2.1)) []:=h
  unfold F137
  rw [rotC_eq _ hp]
  exact ⟨by rcases hp with e | e | e | e | e | e | e | e | e | e<;>rw [e]<;>decide,u64_nn _,h⟩),fun _ _ _=>rfl,fun _=>rfl,fun _ _=>⟨rfl,rfl⟩⟩
def Yv (n:Int):ByteArray:=⟨Array.replicate n.toNat 0⟩
theorem zer_snoc (n:Nat):(⟨Array.replicate n 0⟩:ByteArray)++(⟨#[0]⟩:ByteArray)=⟨Array.replicate (n+1) 0⟩:=by
 apply ByteArray.ext
 rw [ByteArray.data_append]
 show Array.replicate n 0++ #[0]=_
 rw [Array.replicate_succ];rfl
theorem F134_is {n:Nat} {K:Kn} (hn:n<=4294967296) (h:K (.str (Yv n)) []):F134 ((n:Int),()) K:=by
 unfold F134 F134_L2
 refine qQ.countTo n (fun i=>((n:Int),⟨Array.replicate i 0⟩,(i:Int),())) (fun _=>True) rfl (fun i hi _ W hW=> ?_) trivial
 show F134_B2 K W n ⟨Array.replicate i 0⟩ i
 unfold F134_B2
 by_cases hlt:i<n
 . rw [qt hlt,cond_true]
   refine ⟨by rw [show (⟨Array.replicate i 0⟩:ByteArray).size=i by show (Array.replicate i _).size=i;simp];show (i+1)*1<=_;omega, ?_⟩
   rw [zer_snoc,zJ hlt (by omega)]
   exact hW hlt trivial
 . have:i=n:=by omega
   subst this
   rw [qm,cond_false]
   exact h
theorem F134_isI {n:Int} {K:Kn} (h0:0<=n) (h1:n<=4294967296) (h:K (.str (Yv n)) []):F134 (n,()) K:=by
 have:=F134_is (n:=n.toNat) (K:=K) (by omega)
 rw [show ((n.toNat:Nat):Int)=n by omega] at this
 exact this h
def sp134:Sp:=⟨S134,L134,fun g=>0<=g.1/\g.1<=4294967296,fun g=> .str (Yv g.1),fun _=>none⟩
theorem sp134_ok:sp134.Ok Tryz.prog 134 true:=
 ⟨fun g K X hp h=>F134_ok g K X (F134_isI hp.1 hp.2 h),fun _ _ _=>rfl,fun _=>rfl,fun _ _=>⟨rfl,rfl⟩⟩
end Go.Proofs.YtbglndogddddoaaGreatDoor
namespace Go.Proofs.YtbglndogddddoaaGreatDoor
open Go.RowKit
attribute [local irreducible] qJ qd
set_option maxRecDepth 100000
def H135:List (Nat×Hint):=[(3,⟨[((2,[]),none),((3,[]),none)],[(0, .leaf),(2, .pa .u32 0),(3, .pa .u32 1),(4, .leaf)],[.arr .u32, .arr .u32],[.str, .int .i64, .sl .u32, .sl .u32]⟩),(7,⟨[((2,[]),none),((3,[]),none)],[(2, .pa .u32 0),(3, .pa .u32 1),(5, .leaf)],[.arr .u32, .arr .u32],[.int .i64, .sl .u32, .sl .u32]⟩)]
def J135:List (Nat×Hint):=[]
abbrev S135:List Sh:=[.leaf]
abbrev L135:List Lf:=[.str]
def F135_B9 (K:Kn) (W9:prodL [.int .i64, .sl .u32, .sl .u32]->Prop) (t_8:Int) (t2_8:List Int) (w_8:List Int):Prop:=
 bif decide (t_8<64)then (
  0<=IntKind.i64.wrap (t_8-15)/\(IntKind.i64.wrap (t_8-15)).toNat<64/\
 Xy w_8 ((IntKind.i64.wrap (t_8-15)).toNat) fun x10=>
 0<=IntKind.i64.wrap (t_8-2)/\(IntKind.i64.wrap (t_8-2)).toNat<64/\
 Xy w_8 ((IntKind.i64.wrap (t_8-2)).toNat) fun x11=>
 vr.pre (x11,17,())/\
 vr.pre (x11,19,())/\
 (0:Int)<=10/\
 0<=IntKind.i64.wrap (t_8-7)/\(IntKind.i64.wrap (t_8-7)).toNat<64/\
 Xy w_8 ((IntKind.i64.wrap (t_8-7)).toNat) fun x12=>
 vr.pre (x10,7,())/\
 vr.pre (x10,18,())/\
 (0:Int)<=3/\
 0<=IntKind.i64.wrap (t_8-16)/\(IntKind.i64.wrap (t_8-16)).toNat<64/\
 Xy w_8 ((IntKind.i64.wrap (t_8-16)).toNat) fun x13=>
 0<=t_8/\t_8.toNat<64/\
 Xy w_8 t_8.toNat fun x14=>
 W9 (IntKind.i64.wrap (t_8+1),t2_8,w_8.set t_8.toNat (IntKind.u32.wrap ((IntKind.u32.wrap ((IntKind.u32.wrap ((qZ .xor .u32 (qZ .xor .u32 (zC x11 17) (zC x11 19)) (Int.fdiv x11 (2^(min (10:Int).toNat IntKind.u32.bits))))+x12))+(qZ .xor .u32 (qZ .xor .u32 (zC x10 7) (zC x10 18)) (Int.fdiv x10 (2^(min (3:Int).toNat IntKind.u32.bits))))))+x13)),()))
 else (
  jz (w_8.length*1=64) (
 jz (w_8.length*1=64/\w_8.length=t2_8.length) (
 jz (w_8.length*1=64) (
 K (.al .u32 w_8) []))))
def F135_L9 (K:Kn) (g:prodL [.int .i64, .sl .u32, .sl .u32]):Prop:=
 qQ (γ:=prodL [.int .i64, .sl .u32, .sl .u32]) (fun V y=>F135_B9 K V y.1 y.2.1 y.2.2.1) g
def F135_B2 (K:Kn) (W2:prodL [.str, .int .i64, .sl .u32, .sl .u32]->Prop) (block_1:ByteArray) (t_1:Int) (t2_1:List Int) (w_1:List Int):Prop:=
 bif decide (t_1<16)then (
  QV block_1 (IntKind.i64.wrap (4*t_1)) fun b3=>
 (0:Int)<=24/\
 QV block_1 (IntKind.i64.wrap ((IntKind.i64.wrap (4*t_1))+1)) fun b4=>
 (0:Int)<=16/\
 QV block_1 (IntKind.i64.wrap ((IntKind.i64.wrap (4*t_1))+2)) fun b5=>
 (0:Int)<=8/\
 QV block_1 (IntKind.i64.wrap ((IntKind.i64.wrap (4*t_1))+3)) fun b6=>
 0<=t_1/\t_1.toNat<64/\
 Xy w_1 t_1.toNat fun x7=>
 W2 (block_1,IntKind.i64.wrap (t_1+1),t2_1,w_1.set t_1.toNat (qZ .or .u32 (qZ .or .u32 (qZ .or .u32 (IntKind.u32.wrap ((IntKind.u32.wrap b3)*2^(min (24:Int).toNat IntKind.u32.bits))) (IntKind.u32.wrap ((IntKind.u32.wrap b4)*2^(min (16:Int).toNat IntKind.u32.bits)))) (IntKind.u32.wrap ((IntKind.u32.wrap b5)*2^(min (8:Int).toNat IntKind.u32.bits)))) (IntKind.u32.wrap b6)),()))
 else (
  F135_L9 K (16,t2_1,w_1,()))
def F135_L2 (K:Kn) (g:prodL [.str, .int .i64, .sl .u32, .sl .u32]):Prop:=
 qQ (γ:=prodL [.str, .int .i64, .sl .u32, .sl .u32]) (fun V y=>F135_B2 K V y.1 y.2.1 y.2.2.1 y.2.2.2.1) g
def F135 (g:prodL L135) (K:Kn):Prop:=
 jz ([0,0,0,0,0,0,0,0,0,0,0,0,0,0,0,0,0,0,0,0,0,0,0,0,0,0,0,0,0,0,0,0,0,0,0,0,0,0,0,0,0,0,0,0,0,0,0,0,0,0,0,0,0,0,0,0,0,0,0,0,0,0,0,0].length*1=64/\[0,0,0,0,0,0,0,0,0,0,0,0,0,0,0,0,0,0,0,0,0,0,0,0,0,0,0,0,0,0,0,0,0,0,0,0,0,0,0,0,0,0,0,0,0,0,0,0,0,0,0,0,0,0,0,0,0,0,0,0,0,0,0,0].length=(List.replicate 64 (0:Int)).length) (
 F135_L2 K (g.1,0,(List.replicate 64 (0:Int)),[0,0,0,0,0,0,0,0,0,0,0,0,0,0,0,0,0,0,0,0,0,0,0,0,0,0,0,0,0,0,0,0,0,0,0,0,0,0,0,0,0,0,0,0,0,0,0,0,0,0,0,0,0,0,0,0,0,0,0,0,0,0,0,0],()))
theorem F135_eq (g:prodL L135) (K X:Kn):F135 g K=qJ D (qk [] [(137,true,vr)]) (qx []) H135 J135 86 [.cell 2 138] (qz Tryz.f135) (argsT S135 L135 g) [] (settle0 K) X:=by kernel_rfl
theorem F135_ok (g:prodL L135) (K X:Kn) (h:F135 g K):FCalls Tryz.prog 135 (argsT S135 L135 g) [] K X:=
 FCalls.settle0 (qq (Γ:=qk [] [(137,true,vr)]) (mu:=qx []) (H:=H135) (J:=J135) qY (qV (rs:=[]) (l:=[(137,true,vr)]) (fun p hp=>by cases hp) (by intro p hp;simp only [List.mem_cons,List.not_mem_nil,or_false] at hp;subst hp;exact sp137_ok)) qj rfl Tryz.func135 (c:=qz Tryz.f135) rfl Tryz.ntmps135 Tryz.results135 (by unfold qv;rw [Tryz.func135];kernel_rfl) (Nat.le_of_ble_eq_true (by kernel_rfl)) (c0:=0) (Eq.mp (F135_eq g K X) h))
end Go.Proofs.YtbglndogddddoaaGreatDoor
namespace Go.Proofs.YtbglndogddddoaaGreatDoor
open Go.RowKit
set_option maxRecDepth 100000
theorem Qb {n:Nat} (h:n<4294967296):IntKind.u32.wrap (n:Int)=(n:Int):=by
 simp only [IntKind.wrap,IntKind.bits,IntKind.signed,Bool.false_and,Bool.false_eq_true,if_false]
 omega
theorem ofIntN {n:Nat} (h:n<4294967296):(BitVec.ofInt IntKind.u32.bits (n:Int)).toNat=n:=by
 show (BitVec.ofInt 32 (n:Int)).toNat=n
 rw [BitVec.toNat_ofInt]
 omega
theorem or_nat (a b k:Nat) (hb:b<2^k) (h:a*2^k+b<4294967296):qZ .or .u32 ((a*2^k:Nat):Int) (b:Int)=((a*2^k+b:Nat):Int):=by
 show IntKind.u32.wrap (((BitVec.ofInt IntKind.u32.bits ((a*2^k:Nat):Int)||| BitVec.ofInt IntKind.u32.bits (b:Int)).toNat:Nat):Int)=_
 rw [BitVec.toNat_or,ofIntN (show a*2^k<4294967296 by omega),ofIntN (show b<4294967296 by omega)]
 have e:=Nat.two_pow_add_eq_or_of_lt hb a
 rw [Nat.mul_comm a, <- e,Qb (by rw [Nat.mul_comm];exact h)]
theorem XL {x c:Nat} (hx:x<16777216) (hc:c<256):orB (x:Int) (c:Int)=((x*256+c:Nat):Int):=by
 unfold orB
 show qZ .or .u32 (IntKind.u32.wrap ((x:Int)*2^8)) (IntKind.u32.wrap (c:Int))=_
 rw [show (x:Int)*2^8=((x*2^8:Nat):Int)by omega,Qb (by omega),Qb (show c<4294967296 by omega)]
 exact or_nat x c 8 hc (by omega)
theorem or4 {a b c d:Nat} (ha:a<256) (hb:b<256) (hc:c<256) (hd:d<256):
  qZ .or .u32 (qZ .or .u32 (qZ .or .u32 (IntKind.u32.wrap ((IntKind.u32.wrap (a:Int))*2^(min (24:Int).toNat IntKind.u32.bits))) (IntKind.u32.wrap ((IntKind.u32.wrap (b:Int))*2^(min (16:Int).toNat IntKind.u32.bits)))) (IntKind.u32.wrap ((IntKind.u32.wrap (c:Int))*2^(min (8:Int).toNat IntKind.u32.bits)))) (IntKind.u32.wrap (d:Int))
   =[(a:Int),(b:Int),(c:Int),(d:Int)].foldl orB 0:=by
 have e0:orB 0 (a:Int)=(a:Int):=by
  have:=XL (x:=0) (c:=a) (by omega) ha
  rw [Nat.zero_mul,Nat.zero_add] at this
  exact this
 have e1:=XL (x:=a) (c:=b) (by omega) hb
 have e2:=XL (x:=a*256+b) (c:=c) (by omega) hc
 have e3:=XL (x:=(a*256+b)*256+c) (c:=d) (by omega) hd
 show _=orB (orB (orB (orB 0 (a:Int)) (b:Int)) (c:Int)) (d:Int)
 rw [e0,e1,e2,e3]
 show qZ .or .u32 (qZ .or .u32 (qZ .or .u32 (IntKind.u32.wrap ((IntKind.u32.wrap (a:Int))*2^24)) (IntKind.u32.wrap ((IntKind.u32.wrap (b:Int))*2^16))) (IntKind.u32.wrap ((IntKind.u32.wrap (c:Int))*2^8))) (IntKind.u32.wrap (d:Int))=_
 rw [Qb (show a<4294967296 by omega),Qb (show b<4294967296 by omega),Qb (show c<4294967296 by omega),Qb (show d<4294967296 by omega)]
 rw [show (a:Int)*2^24=((a*2^24:Nat):Int)by omega,show (b:Int)*2^16=((b*2^16:Nat):Int)by omega,show (c:Int)*2^8=((c*2^8:Nat):Int)by omega]
 rw [Qb (show a*2^24<4294967296 by omega),Qb (show b*2^16<4294967296 by omega),Qb (show c*2^8<4294967296 by omega)]
 rw [or_nat a (b*2^16) 24 (by omega) (by omega)]
 rw [show a*2^24+b*2^16=(a*256+b)*2^16 by omega,or_nat (a*256+b) (c*2^8) 16 (by omega) (by omega)]
 rw [show (a*256+b)*2^16+c*2^8=((a*256+b)*256+c)*2^8 by omega,or_nat ((a*256+b)*256+c) d 8 (by omega) (by omega)]
theorem zL_at (j:Nat):zL.getD j 0=0:=by
 unfold zL
 rw [List.getD_eq_getElem?_getD,List.getElem?_replicate]
 split<;>rfl
theorem wAt_zero (b:ByteArray): ∀(n:Nat) (j:Nat),n<=j->(Jk b n).getD j 0=0
 | 0,j,_=>zL_at j
 | n+1,j,h=>by
  rw [kp]
  have ih:=wAt_zero b n j (by omega)
  unfold schA
  split<;>rw [List.getD_eq_getElem?_getD,List.getElem?_set_ne (by omega), <- List.getD_eq_getElem?_getD,ih]
theorem four {l:List Int} (h:l.length=4) {a b c d:Int} (h0:l[0]? =some a) (h1:l[1]? =some b) (h2:l[2]? =some c) (h3:l[3]? =some d):l=[a,b,c,d]:=by
 match l,h with
 | [x,y,z,w],_=>
  cases h0;cases h1;cases h2;cases h3;rfl
theorem blk4_eq {b:ByteArray} {t:Nat} (hb:b.size=64) (ht:t<16):wS b t=[((b.data[4*t]'(by show 4*t<b.size;omega)).toNat:Int),((b.data[4*t+1]'(by show 4*t+1<b.size;omega)).toNat:Int),((b.data[4*t+2]'(by show 4*t+2<b.size;omega)).toNat:Int),((b.data[4*t+3]'(by show 4*t+3<b.size;omega)).toNat:Int)]:=by
 have hl:(wS b t).length=4:=by unfold wS zx;simp;rw [hb];omega
 have at': ∀i,(hi:i<4)->(wS b t)[i]? =some ((b.data[4*t+i]'(by show 4*t+i<b.size;omega)).toNat:Int):=by
  intro i hi
  unfold wS zx
  rw [List.getElem?_map,ByteArray.data_extract,Array.toList_extract,List.extract_eq_take_drop,List.getElem?_take_of_lt (by omega),List.getElem?_drop,Array.getElem?_toList,Array.getElem?_eq_getElem (show 4*t+i<b.size by omega)]
  rfl
 exact four hl (at' 0 (by omega)) (at' 1 (by omega)) (at' 2 (by omega)) (at' 3 (by omega))
theorem rN7:vh 7:=by unfold vh;omega
theorem rN17:vh 17:=by unfold vh;omega
theorem rN18:vh 18:=by unfold vh;omega
theorem rN19:vh 19:=by unfold vh;omega
theorem F135_L9_is {b:ByteArray} {z:List Int} {K:Kn} (hz:z.length=64) (h:K (.al .u32 (Qv b)) []):F135_L9 K (16,z,Jk b 16,()):=by
 unfold F135_L9
 refine qQ.countTo 48 (fun n=>(((n+16:Nat):Int),z,Jk b (n+16),())) (fun _=>True) rfl (fun n hn _ W hW=> ?_) trivial
 show F135_B9 K W ((n+16:Nat):Int) z (Jk b (n+16))
 have hlen:=kO b (n+16)
 unfold F135_B9
 by_cases hlt:n<48
 . rw [decide_eq_true (show (((n+16:Nat):Int)) <64 by omega),cond_true]
   have hW:=hW hlt trivial
   rw [show n+1+16=n+16+1 by omega,kp] at hW
   generalize ht:n+16=t at hW hlen ⊢
   unfold schA at hW
   rw [if_neg (show¬t<16 by omega)] at hW
   have e15:IntKind.i64.wrap ((t:Int) - 15)=((t-15:Nat):Int):=by rw [wI (by omega)];omega
   have e2:IntKind.i64.wrap ((t:Int) - 2)=((t-2:Nat):Int):=by rw [wI (by omega)];omega
   have e7:IntKind.i64.wrap ((t:Int) - 7)=((t-7:Nat):Int):=by rw [wI (by omega)];omega
   have e16:IntKind.i64.wrap ((t:Int) - 16)=((t-16:Nat):Int):=by rw [wI (by omega)];omega
   rw [e15,e2,e7,e16]
   simp only [toN]
   unfold schW sg1 sg0 at hW
   rw [wm (show t-2< (Jk b t).length by omega),wm (show t-7< (Jk b t).length by omega),wm (show t-15< (Jk b t).length by omega),wm (show t-16< (Jk b t).length by omega)] at hW
   refine ⟨by omega,by omega,jx (by omega) ⟨by omega,by omega,jx (by omega) ⟨rN17,rN19,by omega,by omega,by omega,jx (by omega) ⟨rN7,rN18,by omega,by omega,by omega,jx (by omega) ⟨by omega,by omega,jx (by omega) ?_⟩⟩⟩⟩⟩
   rw [wI (by omega)]
   exact hW
 . have:n=48:=by omega
   subst this
   rw [decide_eq_false (by omega),cond_false]
   exact ⟨by omega,⟨by omega,by rw [hlen,hz]⟩,by omega,h⟩
theorem F135_is {b:ByteArray} {K:Kn} (hb:b.size=64) (h:K (.al .u32 (Qv b)) []):F135 (b,()) K:=by
 unfold F135
 refine ⟨⟨rfl,rfl⟩, ?_⟩
 show F135_L2 K (b,0,zL,zL,())
 unfold F135_L2
 refine qQ.countTo 16 (fun t=>(b,(t:Int),zL,Jk b t,())) (fun _=>True) rfl (fun t ht _ W hW=> ?_) trivial
 show F135_B2 K W b t zL (Jk b t)
 have hlen:=kO b t
 unfold F135_B2
 by_cases hlt:t<16
 . rw [decide_eq_true (show (t:Int) <16 by omega),cond_true]
   have hW:=hW hlt trivial
   rw [kp] at hW
   unfold schA at hW
   rw [if_pos hlt,wAt_zero b t t (Nat.le_refl _),blk4_eq hb hlt, <- or4 (UInt8.toNat_lt _) (UInt8.toNat_lt _) (UInt8.toNat_lt _) (UInt8.toNat_lt _)] at hW
   have e4:IntKind.i64.wrap (4*(t:Int))=((4*t:Nat):Int):=by rw [wI (by omega)];omega
   have e1:IntKind.i64.wrap (((4*t:Nat):Int)+1)=((4*t+1:Nat):Int):=by rw [wI (by omega)];omega
   have e2:IntKind.i64.wrap (((4*t:Nat):Int)+2)=((4*t+2:Nat):Int):=by rw [wI (by omega)];omega
   have e3:IntKind.i64.wrap (((4*t:Nat):Int)+3)=((4*t+3:Nat):Int):=by rw [wI (by omega)];omega
   rw [e4,e1,e2,e3]
   refine j6 (by omega) ⟨by omega,j6 (by omega) ⟨by omega,j6 (by omega) ⟨by omega,j6 (by omega) ⟨by omega,by omega, ?_⟩⟩⟩⟩
   rw [toN]
   refine jx (by omega) ?_
   rw [wI (by omega)]
   exact hW
 . have:t=16:=by omega
   subst this
   rw [decide_eq_false (by omega),cond_false]
   exact F135_L9_is rfl h
def sp135:Sp:=⟨S135,L135,fun g=>g.1.size=64,fun g=> .al .u32 (Qv g.1),fun _=>none⟩
theorem sp135_ok:sp135.Ok Tryz.prog 135 false:=
 ⟨fun g K X hp h=>F135_ok g K X (F135_is hp h),fun _ _ _=>rfl,fun _=>rfl,fun h=>(by cases h)⟩
end Go.Proofs.YtbglndogddddoaaGreatDoor
namespace Go.Proofs.YtbglndogddddoaaGreatDoor
open Go.RowKit
attribute [local irreducible] qJ qd
set_option maxRecDepth 100000
def H81:List (Nat×Hint):=[(4,⟨[((2,[]),none),((4,[]),none),((5,[]),none),((6,[]),none),((7,[]),none)],[(2, .pt 0 0),(4, .pt 1 0),(5, .pa .u32 2),(6, .pa .u32 3),(7, .pt 4 0),(8, .leaf)],[.cells [.leaf, .leaf, .leaf, .leaf, .leaf, .leaf, .leaf, .leaf], .cells [.leaf, .leaf, .leaf, .leaf, .leaf, .leaf, .leaf, .leaf], .arr .u32, .arr .u32, .cells [.leaf, .leaf, .leaf, .leaf, .leaf, .leaf, .leaf, .leaf]],[.int .i64, .int .u32, .int .u32, .int .u32, .int .u32, .int .u32, .int .u32, .int .u32, .int .u32, .int .u32, .int .u32, .int .u32, .int .u32, .int .u32, .int .u32, .int .u32, .int .u32, .sl .u32, .sl .u32, .int .u32, .int .u32, .int .u32, .int .u32, .int .u32, .int .u32, .int .u32, .int .u32]⟩),(11,⟨[],[],[],[]⟩),(9000011,⟨[],[],[],[]⟩)]
def J81:List (Nat×Hint):=[]
abbrev S81:List Sh:=[.ag [.leaf, .leaf, .leaf, .leaf, .leaf, .leaf, .leaf, .leaf], .leaf]
abbrev L81:List Lf:=[.int .u32, .int .u32, .int .u32, .int .u32, .int .u32, .int .u32, .int .u32, .int .u32, .str]
def Wf (K:Kn) (W2:prodL [.int .i64, .int .u32, .int .u32, .int .u32, .int .u32, .int .u32, .int .u32, .int .u32, .int .u32, .int .u32, .int .u32, .int .u32, .int .u32, .int .u32, .int .u32, .int .u32, .int .u32, .sl .u32, .sl .u32, .int .u32, .int .u32, .int .u32, .int .u32, .int .u32, .int .u32, .int .u32, .int .u32]->Prop) (t_1 h1_1 h2_1 h3_1 h4_1 h5_1 h6_1 h7_1 h8_1 t1_1 t2_1 t3_1 t4_1 t5_1 t6_1 t7_1 t8_1:Int) (w_1:List Int) (k_1:List Int) (v1_1 v2_1 v3_1 v4_1 v5_1 v6_1 v7_1 v8_1:Int):Prop:=
 bif decide (t_1<64)then (
  0<=(0:Int)/\(0:Int).toNat<8/\
 0<=(4:Int)/\(4:Int).toNat<8/\
 0<=(7:Int)/\(7:Int).toNat<8/\
 vr.pre (v5_1,6,())/\
 vr.pre (v5_1,11,())/\
 vr.pre (v5_1,25,())/\
 0<=(5:Int)/\(5:Int).toNat<8/\
 0<=(6:Int)/\(6:Int).toNat<8/\
 0<=t_1/\t_1.toNat<64/\
 Xy k_1 t_1.toNat fun x3=>
 0<=t_1/\t_1.toNat<64/\
 Xy w_1 t_1.toNat fun x4=>
 vr.pre (v1_1,2,())/\
 vr.pre (v1_1,13,())/\
 vr.pre (v1_1,22,())/\
 0<=(1:Int)/\(1:Int).toNat<8/\
 0<=(2:Int)/\(2:Int).toNat<8/\
 0<=(1:Int)/\(1:Int).toNat<8/\
 0<=(2:Int)/\(2:Int).toNat<8/\
 0<=(0:Int)/\(0:Int).toNat<8/\
 0<=(1:Int)/\(1:Int).toNat<8/\
 0<=(2:Int)/\(2:Int).toNat<8/\
 0<=(3:Int)/\(3:Int).toNat<8/\
 0<=(4:Int)/\(4:Int).toNat<8/\
 0<=(5:Int)/\(5:Int).toNat<8/\
 0<=(6:Int)/\(6:Int).toNat<8/\
 W2 (IntKind.i64.wrap (t_1+1),h1_1,h2_1,h3_1,h4_1,h5_1,h6_1,h7_1,h8_1,t1_1,t2_1,t3_1,t4_1,t5_1,t6_1,t7_1,t8_1,w_1,k_1,IntKind.u32.wrap ((IntKind.u32.wrap ((IntKind.u32.wrap ((IntKind.u32.wrap ((IntKind.u32.wrap (v8_1+(qZ .xor .u32 (qZ .xor .u32 (zC v5_1 6) (zC v5_1 11)) (zC v5_1 25))))+(qZ .xor .u32 (qZ .and .u32 v5_1 v6_1) (qZ .and .u32 (qZ .xor .u32 IntKind.u32.max v5_1) v7_1))))+x3))+x4))+(IntKind.u32.wrap ((qZ .xor .u32 (qZ .xor .u32 (zC v1_1 2) (zC v1_1 13)) (zC v1_1 22))+(qZ .xor .u32 (qZ .xor .u32 (qZ .and .u32 v1_1 v2_1) (qZ .and .u32 v1_1 v3_1)) (qZ .and .u32 v2_1 v3_1))))),v1_1,v2_1,v3_1,IntKind.u32.wrap (v4_1+(IntKind.u32.wrap ((IntKind.u32.wrap ((IntKind.u32.wrap ((IntKind.u32.wrap (v8_1+(qZ .xor .u32 (qZ .xor .u32 (zC v5_1 6) (zC v5_1 11)) (zC v5_1 25))))+(qZ .xor .u32 (qZ .and .u32 v5_1 v6_1) (qZ .and .u32 (qZ .xor .u32 IntKind.u32.max v5_1) v7_1))))+x3))+x4))),v5_1,v6_1,v7_1,()))
 else (
  0<=(0:Int)/\(0:Int).toNat<8/\
 0<=(0:Int)/\(0:Int).toNat<8/\
 0<=(0:Int)/\(0:Int).toNat<8/\
 0<=(1:Int)/\(1:Int).toNat<8/\
 0<=(1:Int)/\(1:Int).toNat<8/\
 0<=(1:Int)/\(1:Int).toNat<8/\
 0<=(2:Int)/\(2:Int).toNat<8/\
 0<=(2:Int)/\(2:Int).toNat<8/\
 0<=(2:Int)/\(2:Int).toNat<8/\
 0<=(3:Int)/\(3:Int).toNat<8/\
 0<=(3:Int)/\(3:Int).toNat<8/\
 0<=(3:Int)/\(3:Int).toNat<8/\
 0<=(4:Int)/\(4:Int).toNat<8/\
 0<=(4:Int)/\(4:Int).toNat<8/\
 0<=(4:Int)/\(4:Int).toNat<8/\
 0<=(5:Int)/\(5:Int).toNat<8/\
 0<=(5:Int)/\(5:Int).toNat<8/\
 0<=(5:Int)/\(5:Int).toNat<8/\
 0<=(6:Int)/\(6:Int).toNat<8/\
 0<=(6:Int)/\(6:Int).toNat<8/\
 0<=(6:Int)/\(6:Int).toNat<8/\
 0<=(7:Int)/\(7:Int).toNat<8/\
 0<=(7:Int)/\(7:Int).toNat<8/\
 0<=(7:Int)/\(7:Int).toNat<8/\
 K (.ag [.int .u32 (IntKind.u32.wrap (h1_1+v1_1)), .int .u32 (IntKind.u32.wrap (h2_1+v2_1)), .int .u32 (IntKind.u32.wrap (h3_1+v3_1)), .int .u32 (IntKind.u32.wrap (h4_1+v4_1)), .int .u32 (IntKind.u32.wrap (h5_1+v5_1)), .int .u32 (IntKind.u32.wrap (h6_1+v6_1)), .int .u32 (IntKind.u32.wrap (h7_1+v7_1)), .int .u32 (IntKind.u32.wrap (h8_1+v8_1))]) [])
def F81_L2 (K:Kn) (g:prodL [.int .i64, .int .u32, .int .u32, .int .u32, .int .u32, .int .u32, .int .u32, .int .u32, .int .u32, .int .u32, .int .u32, .int .u32, .int .u32, .int .u32, .int .u32, .int .u32, .int .u32, .sl .u32, .sl .u32, .int .u32, .int .u32, .int .u32, .int .u32, .int .u32, .int .u32, .int .u32, .int .u32]):Prop:=
 qQ (γ:=prodL [.int .i64, .int .u32, .int .u32, .int .u32, .int .u32, .int .u32, .int .u32, .int .u32, .int .u32, .int .u32, .int .u32, .int .u32, .int .u32, .int .u32, .int .u32, .int .u32, .int .u32, .sl .u32, .sl .u32, .int .u32, .int .u32, .int .u32, .int .u32, .int .u32, .int .u32, .int .u32, .int .u32]) (fun V y=>Wf K V y.1 y.2.1 y.2.2.1 y.2.2.2.1 y.2.2.2.2.1 y.2.2.2.2.2.1 y.2.2.2.2.2.2.1 y.2.2.2.2.2.2.2.1 y.2.2.2.2.2.2.2.2.1 y.2.2.2.2.2.2.2.2.2.1 y.2.2.2.2.2.2.2.2.2.2.1 y.2.2.2.2.2.2.2.2.2.2.2.1 y.2.2.2.2.2.2.2.2.2.2.2.2.1 y.2.2.2.2.2.2.2.2.2.2.2.2.2.1 y.2.2.2.2.2.2.2.2.2.2.2.2.2.2.1 y.2.2.2.2.2.2.2.2.2.2.2.2.2.2.2.1 y.2.2.2.2.2.2.2.2.2.2.2.2.2.2.2.2.1 y.2.2.2.2.2.2.2.2.2.2.2.2.2.2.2.2.2.1 y.2.2.2.2.2.2.2.2.2.2.2.2.2.2.2.2.2.2.1 y.2.2.2.2.2.2.2.2.2.2.2.2.2.2.2.2.2.2.2.1 y.2.2.2.2.2.2.2.2.2.2.2.2.2.2.2.2.2.2.2.2.1 y.2.2.2.2.2.2.2.2.2.2.2.2.2.2.2.2.2.2.2.2.2.1 y.2.2.2.2.2.2.2.2.2.2.2.2.2.2.2.2.2.2.2.2.2.2.1 y.2.2.2.2.2.2.2.2.2.2.2.2.2.2.2.2.2.2.2.2.2.2.2.1 y.2.2.2.2.2.2.2.2.2.2.2.2.2.2.2.2.2.2.2.2.2.2.2.2.1 y.2.2.2.2.2.2.2.2.2.2.2.2.2.2.2.2.2.2.2.2.2.2.2.2.2.1 y.2.2.2.2.2.2.2.2.2.2.2.2.2.2.2.2.2.2.2.2.2.2.2.2.2.2.1) g
def F81 (g:prodL L81) (K:Kn):Prop:=
 sp135.pre (g.2.2.2.2.2.2.2.2.1,())/\
 True/\
 jz ((Qv g.2.2.2.2.2.2.2.2.1).length*1=64/\(Qv g.2.2.2.2.2.2.2.2.1).length=(List.replicate 64 (0:Int)).length) (
 jz (kL.length*1=64/\kL.length=(List.replicate 64 (0:Int)).length) (
 F81_L2 K (0,g.1,g.2.1,g.2.2.1,g.2.2.2.1,g.2.2.2.2.1,g.2.2.2.2.2.1,g.2.2.2.2.2.2.1,g.2.2.2.2.2.2.2.1,0,0,0,0,0,0,0,0,Qv g.2.2.2.2.2.2.2.2.1,kL,g.1,g.2.1,g.2.2.1,g.2.2.2.1,g.2.2.2.2.1,g.2.2.2.2.2.1,g.2.2.2.2.2.2.1,g.2.2.2.2.2.2.2.1,())))
theorem F81_eq (g:prodL L81) (K X:Kn):F81 g K=qJ D (qk [] [(135,false,sp135),(136,false,sp136),(137,true,vr)]) (qx []) H81 J81 114 [.cell 4 101] (qz Tryz.f81) (argsT S81 L81 g) [] (settle0 K) X:=by kernel_rfl
theorem F81_ok (g:prodL L81) (K X:Kn) (h:F81 g K):FCalls Tryz.prog 81 (argsT S81 L81 g) [] K X:=
 FCalls.settle0 (qq qY (jq (zq sp135_ok (zq sp136_ok (zq sp137_ok z8)))) qj rfl Tryz.func81 (c:=qz Tryz.f81) rfl Tryz.ntmps81 Tryz.results81 (by unfold qv;rw [Tryz.func81];kernel_rfl) (Nat.le_of_ble_eq_true (by kernel_rfl)) (c0:=0) (Eq.mp (F81_eq g K X) h))
end Go.Proofs.YtbglndogddddoaaGreatDoor
namespace Go.Proofs.YtbglndogddddoaaGreatDoor
open Go.RowKit
set_option maxRecDepth 100000
theorem rN2:vh 2:=by unfold vh;omega
theorem rN6:vh 6:=by unfold vh;omega
theorem rN11:vh 11:=by unfold vh;omega
theorem rN13:vh 13:=by unfold vh;omega
theorem rN22:vh 22:=by unfold vh;omega
theorem rN25:vh 25:=by unfold vh;omega
theorem F81_B2_is {K:Kn} {W:prodL [.int .i64, .int .u32, .int .u32, .int .u32, .int .u32, .int .u32, .int .u32, .int .u32, .int .u32, .int .u32, .int .u32, .int .u32, .int .u32, .int .u32, .int .u32, .int .u32, .int .u32, .sl .u32, .sl .u32, .int .u32, .int .u32, .int .u32, .int .u32, .int .u32, .int .u32, .int .u32, .int .u32]->Prop}
  {w:List Int} (hw:w.length=64) {t:Nat} (ht:t<64) {a b c d e f g k x0 x1 x2 x3 x4 x5 x6 x7:Int}
  (h:W (((t+1:Nat):Int),x0,x1,x2,x3,x4,x5,x6,x7,0,0,0,0,0,0,0,0,w,kL,IntKind.u32.wrap (QJ w t e f g k+Kh a b c),a,b,c,IntKind.u32.wrap (d+QJ w t e f g k),e,f,g,())):
  Wf K W t x0 x1 x2 x3 x4 x5 x6 x7 0 0 0 0 0 0 0 0 w kL a b c d e f g k:=by
 have hk:=kL_len
 unfold Wf
 rw [decide_eq_true (show (t:Int) <64 by omega),cond_true]
 unfold QJ Kh at h
 rw [wm (show t<kL.length by omega),wm (show t<w.length by omega)] at h
 simp only [toN]
 rw [wI (by omega)]
 refine ⟨by decide,by decide,by decide,by decide,by decide,by decide,rN6,rN11,rN25,by decide,by decide,by decide,by decide,by omega,by omega,jx (show t<kL.length by omega) ⟨by omega,by omega,jx (show t<w.length by omega) ⟨rN2,rN13,rN22, ?_⟩⟩⟩
 repeat (refine And.intro (by decide) ?_)
 exact h
theorem F81_B2_end {K:Kn} {W:prodL [.int .i64, .int .u32, .int .u32, .int .u32, .int .u32, .int .u32, .int .u32, .int .u32, .int .u32, .int .u32, .int .u32, .int .u32, .int .u32, .int .u32, .int .u32, .int .u32, .int .u32, .sl .u32, .sl .u32, .int .u32, .int .u32, .int .u32, .int .u32, .int .u32, .int .u32, .int .u32, .int .u32]->Prop}
  {w l:List Int} {a b c d e f g k x0 x1 x2 x3 x4 x5 x6 x7:Int}
  (h:K (.ag [.int .u32 (IntKind.u32.wrap (x0+a)), .int .u32 (IntKind.u32.wrap (x1+b)), .int .u32 (IntKind.u32.wrap (x2+c)), .int .u32 (IntKind.u32.wrap (x3+d)), .int .u32 (IntKind.u32.wrap (x4+e)), .int .u32 (IntKind.u32.wrap (x5+f)), .int .u32 (IntKind.u32.wrap (x6+g)), .int .u32 (IntKind.u32.wrap (x7+k))]) []):
  Wf K W 64 x0 x1 x2 x3 x4 x5 x6 x7 0 0 0 0 0 0 0 0 w l a b c d e f g k:=by
 unfold Wf
 rw [decide_eq_false (by omega),cond_false]
 repeat (refine And.intro (by decide) ?_)
 exact h
theorem F81_L2_is {w:List Int} (hw:w.length=64) {x0 x1 x2 x3 x4 x5 x6 x7:Int} {K:Kn} (h:K (.ag [.int .u32 ((yr [x0,x1,x2,x3,x4,x5,x6,x7] (Xi w [x0,x1,x2,x3,x4,x5,x6,x7] 64)).getD 0 0), .int .u32 ((yr [x0,x1,x2,x3,x4,x5,x6,x7] (Xi w [x0,x1,x2,x3,x4,x5,x6,x7] 64)).getD 1 0), .int .u32 ((yr [x0,x1,x2,x3,x4,x5,x6,x7] (Xi w [x0,x1,x2,x3,x4,x5,x6,x7] 64)).getD 2 0), .int .u32 ((yr [x0,x1,x2,x3,x4,x5,x6,x7] (Xi w [x0,x1,x2,x3,x4,x5,x6,x7] 64)).getD 3 0), .int .u32 ((yr [x0,x1,x2,x3,x4,x5,x6,x7] (Xi w [x0,x1,x2,x3,x4,x5,x6,x7] 64)).getD 4 0), .int .u32 ((yr [x0,x1,x2,x3,x4,x5,x6,x7] (Xi w [x0,x1,x2,x3,x4,x5,x6,x7] 64)).getD 5 0), .int .u32 ((yr [x0,x1,x2,x3,x4,x5,x6,x7] (Xi w [x0,x1,x2,x3,x4,x5,x6,x7] 64)).getD 6 0), .int .u32 ((yr [x0,x1,x2,x3,x4,x5,x6,x7] (Xi w [x0,x1,x2,x3,x4,x5,x6,x7] 64)).getD 7 0)]) []):
  F81_L2 K (0,x0,x1,x2,x3,x4,x5,x6,x7,0,0,0,0,0,0,0,0,w,kL,x0,x1,x2,x3,x4,x5,x6,x7,()):=by
 have hs:[x0,x1,x2,x3,x4,x5,x6,x7].length=8:=rfl
 have key: ∀t,(Xi w [x0,x1,x2,x3,x4,x5,x6,x7] t).length=8:=X7 w hs
 have hz:=vAt_zero w [x0,x1,x2,x3,x4,x5,x6,x7]
 have hsu:=Wq w [x0,x1,x2,x3,x4,x5,x6,x7]
 generalize Xi w [x0,x1,x2,x3,x4,x5,x6,x7]=v at h key hz hsu
 unfold F81_L2
 refine qQ.countTo 64 (fun t=>((t:Int),x0,x1,x2,x3,x4,x5,x6,x7,0,0,0,0,0,0,0,0,w,kL,(v t).getD 0 0,(v t).getD 1 0,(v t).getD 2 0,(v t).getD 3 0,(v t).getD 4 0,(v t).getD 5 0,(v t).getD 6 0,(v t).getD 7 0,())) (fun _=>True) (by rw [hz];rfl) (fun t ht _ W hW=> ?_) trivial
 obtain ⟨a,b,c,d,e,f,g,k,hv⟩:=Wx (key t)
 by_cases hlt:t<64
 . have hW:=hW hlt trivial
   rw [hsu,hv,rnd_8] at hW
   rw [hv]
   exact F81_B2_is hw hlt hW
 . have:t=64:=by omega
   subst this
   rw [hv,addW_8] at h
   rw [hv]
   exact F81_B2_end h
theorem F81_is {x0 x1 x2 x3 x4 x5 x6 x7:Int} {b:ByteArray} {K:Kn} (hb:b.size=64) (h:K (.ag [.int .u32 ((qK [x0,x1,x2,x3,x4,x5,x6,x7] b).getD 0 0), .int .u32 ((qK [x0,x1,x2,x3,x4,x5,x6,x7] b).getD 1 0), .int .u32 ((qK [x0,x1,x2,x3,x4,x5,x6,x7] b).getD 2 0), .int .u32 ((qK [x0,x1,x2,x3,x4,x5,x6,x7] b).getD 3 0), .int .u32 ((qK [x0,x1,x2,x3,x4,x5,x6,x7] b).getD 4 0), .int .u32 ((qK [x0,x1,x2,x3,x4,x5,x6,x7] b).getD 5 0), .int .u32 ((qK [x0,x1,x2,x3,x4,x5,x6,x7] b).getD 6 0), .int .u32 ((qK [x0,x1,x2,x3,x4,x5,x6,x7] b).getD 7 0)]) []):F81 (x0,x1,x2,x3,x4,x5,x6,x7,b,()) K:=by
 have hw:(Qv b).length=64:=kO b 64
 unfold qK at h
 unfold F81
 refine ⟨hb,trivial, ?_⟩
 dsimp only
 generalize Qv b=w at hw h ⊢
 refine ⟨⟨by omega,by rw [hw];rfl⟩,⟨rfl,rfl⟩, ?_⟩
 exact F81_L2_is hw h
def sp81:Sp:=⟨S81,L81,fun g=>g.2.2.2.2.2.2.2.2.1.size=64,fun g=> .ag [.int .u32 ((qK [g.1,g.2.1,g.2.2.1,g.2.2.2.1,g.2.2.2.2.1,g.2.2.2.2.2.1,g.2.2.2.2.2.2.1,g.2.2.2.2.2.2.2.1] g.2.2.2.2.2.2.2.2.1).getD 0 0), .int .u32 ((qK [g.1,g.2.1,g.2.2.1,g.2.2.2.1,g.2.2.2.2.1,g.2.2.2.2.2.1,g.2.2.2.2.2.2.1,g.2.2.2.2.2.2.2.1] g.2.2.2.2.2.2.2.2.1).getD 1 0), .int .u32 ((qK [g.1,g.2.1,g.2.2.1,g.2.2.2.1,g.2.2.2.2.1,g.2.2.2.2.2.1,g.2.2.2.2.2.2.1,g.2.2.2.2.2.2.2.1] g.2.2.2.2.2.2.2.2.1).getD 2 0), .int .u32 ((qK [g.1,g.2.1,g.2.2.1,g.2.2.2.1,g.2.2.2.2.1,g.2.2.2.2.2.1,g.2.2.2.2.2.2.1,g.2.2.2.2.2.2.2.1] g.2.2.2.2.2.2.2.2.1).getD 3 0), .int .u32 ((qK [g.1,g.2.1,g.2.2.1,g.2.2.2.1,g.2.2.2.2.1,g.2.2.2.2.2.1,g.2.2.2.2.2.2.1,g.2.2.2.2.2.2.2.1] g.2.2.2.2.2.2.2.2.1).getD 4 0), .int .u32 ((qK [g.1,g.2.1,g.2.2.1,g.2.2.2.1,g.2.2.2.2.1,g.2.2.2.2.2.1,g.2.2.2.2.2.2.1,g.2.2.2.2.2.2.2.1] g.2.2.2.2.2.2.2.2.1).getD 5 0), .int .u32 ((qK [g.1,g.2.1,g.2.2.1,g.2.2.2.1,g.2.2.2.2.1,g.2.2.2.2.2.1,g.2.2.2.2.2.2.1,g.2.2.2.2.2.2.2.1] g.2.2.2.2.2.2.2.2.1).getD 6 0), .int .u32 ((qK [g.1,g.2.1,g.2.2.1,g.2.2.2.1,g.2.2.2.2.1,g.2.2.2.2.2.1,g.2.2.2.2.2.2.1,g.2.2.2.2.2.2.2.1] g.2.2.2.2.2.2.2.2.1).getD 7 0)],fun _=>none⟩
theorem sp81_ok:sp81.Ok Tryz.prog 81 true:=
 ⟨fun g K X hp h=>F81_ok g K X (F81_is hp h),fun _ _ _=>rfl,fun _=>rfl,fun _ _=>⟨rfl,rfl⟩⟩
end Go.Proofs.YtbglndogddddoaaGreatDoor
namespace Go.Proofs.YtbglndogddddoaaGreatDoor
open Go.RowKit
attribute [local irreducible] qJ qd
set_option maxRecDepth 100000
def H80:List (Nat×Hint):=[(5,⟨[],[(3, .leaf),(4, .leaf),(5, .leaf)],[],[.str, .int .u64, .int .i64]⟩)]
def J80:List (Nat×Hint):=[]
abbrev S80:List Sh:=[.leaf]
abbrev L80:List Lf:=[.str]
def F80_B2 (K:Kn) (W2:prodL [.str, .int .u64, .int .i64]->Prop) (out_1:ByteArray) (bits_1 i_1:Int):Prop:=
 bif decide (0<=i_1)then (
  (0:Int)<=IntKind.u64.wrap (IntKind.i64.wrap (8*i_1))/\
 ql (out_1.size+(zb [IntKind.u8.wrap (Int.fdiv bits_1 (2^(min (IntKind.u64.wrap (IntKind.i64.wrap (8*i_1))).toNat IntKind.u64.bits)))]).size) 1 (
 W2 (out_1++(zb [IntKind.u8.wrap (Int.fdiv bits_1 (2^(min (IntKind.u64.wrap (IntKind.i64.wrap (8*i_1))).toNat IntKind.u64.bits)))]),bits_1,IntKind.i64.wrap (i_1-1),())))
 else (
  K (.str out_1) [])
def F80_L2 (K:Kn) (g:prodL [.str, .int .u64, .int .i64]):Prop:=
 qQ (γ:=prodL [.str, .int .u64, .int .i64]) (fun V y=>F80_B2 K V y.1 y.2.1 y.2.2.1) g
def F80 (g:prodL L80) (K:Kn):Prop:=
 ql (g.1.size+(⟨#[128]⟩:ByteArray).size) 1 (
 ¬64=(0:Int)/\
 ¬64=(0:Int)/\
 sp134.pre (Int.tmod (IntKind.i64.wrap (120- (Int.tmod ((g.1++(⟨#[128]⟩:ByteArray)).size:Int) 64))) 64,())/\
 ql ((g.1++(⟨#[128]⟩:ByteArray)).size+(Yv (Int.tmod (IntKind.i64.wrap (120- (Int.tmod ((g.1++(⟨#[128]⟩:ByteArray)).size:Int) 64))) 64)).size) 1 (
 F80_L2 K ((g.1++(⟨#[128]⟩:ByteArray))++(Yv (Int.tmod (IntKind.i64.wrap (120- (Int.tmod ((g.1++(⟨#[128]⟩:ByteArray)).size:Int) 64))) 64)),IntKind.u64.wrap ((IntKind.u64.wrap (g.1.size:Int))*8),7,())))
theorem F80_eq (g:prodL L80) (K X:Kn):F80 g K=qJ D (qk [] [(134,true,sp134)]) (qx []) H80 J80 35 [.tmp 2] (qz Tryz.f80) (argsT S80 L80 g) [] (settle0 K) X:=by kernel_rfl
theorem F80_ok (g:prodL L80) (K X:Kn) (h:F80 g K):FCalls Tryz.prog 80 (argsT S80 L80 g) [] K X:=
 FCalls.settle0 (qq (Γ:=qk [] [(134,true,sp134)]) (mu:=qx []) (H:=H80) (J:=J80) qY (qV (rs:=[]) (l:=[(134,true,sp134)]) (fun p hp=>by cases hp) (by intro p hp;simp only [List.mem_cons,List.not_mem_nil,or_false] at hp;subst hp;exact sp134_ok)) qj rfl Tryz.func80 (c:=qz Tryz.f80) rfl Tryz.ntmps80 Tryz.results80 (by unfold qv;rw [Tryz.func80];kernel_rfl) (Nat.le_of_ble_eq_true (by kernel_rfl)) (c0:=0) (Eq.mp (F80_eq g K X) h))
end Go.Proofs.YtbglndogddddoaaGreatDoor
namespace Go.Proofs.YtbglndogddddoaaGreatDoor
open Go.RowKit
set_option maxRecDepth 100000
theorem bStr_app (l m:List Int):zb (l++m)=zb l++zb m:=by
 apply ByteArray.ext
 rw [ByteArray.data_append]
 unfold zb
 simp
theorem WL (l:List Int):(zb l).size=l.length:=by
 show (l.map fun n=>UInt8.ofNat n.toNat).toArray.size=_
 simp
def tailB (s:ByteArray):List Int:=List.replicate (wD (s.size+1)) 0
def xV (s:ByteArray):ByteArray:=((s++zb [128])++zb (tailB s))++zb ((List.range 8).map (lenB s))
theorem zer_bStr (n:Nat):Yv (n:Int)=zb (List.replicate n 0):=by
 unfold Yv zb
 rw [show ((n:Nat):Int).toNat=n by omega,List.map_replicate,List.toArray_replicate]
 rfl
theorem F80_is {s:ByteArray} {K:Kn} (hs:s.size<=4194304) (h:K (.str (xV s)) []):F80 (s,()) K:=by
 have h1:(s++(⟨#[128]⟩:ByteArray)).size=s.size+1:=by rw [ByteArray.size_append];rfl
 have hp:wD (s.size+1) <64:=Nat.mod_lt _ (by omega)
 have e:Int.tmod (IntKind.i64.wrap (120- (Int.tmod ((s++(⟨#[128]⟩:ByteArray)).size:Int) 64))) 64=((wD (s.size+1):Nat):Int):=by
  rw [h1]
  have e1:Int.tmod ((s.size+1:Nat):Int) 64=(((s.size+1)%64:Nat):Int):=rfl
  rw [e1,wI (by omega)]
  rw [show (120:Int) - (((s.size+1)%64:Nat):Int)=((120- (s.size+1)%64:Nat):Int)by omega]
  rfl
 unfold F80
 dsimp only
 rw [e]
 have hz:(Yv ((wD (s.size+1):Nat):Int)).size=wD (s.size+1):=by rw [zer_bStr,WL,List.length_replicate]
 refine ⟨by rw [show (⟨#[128]⟩:ByteArray).size=1 from rfl];omega,by omega,by omega,⟨show (0:Int)<=((wD (s.size+1):Nat):Int)by omega,show ((wD (s.size+1):Nat):Int)<=4294967296 by omega⟩,by rw [h1,hz];omega, ?_⟩
 have hsz:((s++(⟨#[128]⟩:ByteArray))++Yv ((wD (s.size+1):Nat):Int)).size<=4294967296:=by rw [ByteArray.size_append,h1,hz];omega
 have hpr:xV s=((s++(⟨#[128]⟩:ByteArray))++Yv ((wD (s.size+1):Nat):Int))++zb ((List.range 8).map (lenB s)):=by
  unfold xV tailB
  rw [zer_bStr];rfl
 rw [hpr] at h
 generalize (s++(⟨#[128]⟩:ByteArray))++Yv ((wD (s.size+1):Nat):Int)=o at hsz h
 unfold F80_L2
 refine qQ.countTo 8 (fun j=>(o++zb ((List.range j).map (lenB s)),IntKind.u64.wrap ((IntKind.u64.wrap (s.size:Int))*8),(7:Int) - j,())) (fun _=>True) (by show (o,_,_,_)=(o++zb [],_,(7:Int) - 0,_);rw [show o++zb []=o by apply ByteArray.ext;rw [ByteArray.data_append];show o.data++ #[]=_;simp];rfl) (fun j hj _ W hW=> ?_) trivial
 show F80_B2 K W (o++zb ((List.range j).map (lenB s))) (IntKind.u64.wrap ((IntKind.u64.wrap (s.size:Int))*8)) ((7:Int) - j)
 unfold F80_B2
 by_cases hlt:j<8
 . rw [decide_eq_true (show (0:Int)<=7- (j:Int)by omega),cond_true]
   have hW:=hW hlt trivial
   have e8:IntKind.i64.wrap (8*((7:Int) - j))=56-8*(j:Int):=by rw [wI (by omega)];omega
   have eu:IntKind.u64.wrap (56-8*(j:Int))=56-8*(j:Int):=by
    simp only [IntKind.wrap,IntKind.bits,IntKind.signed,Bool.false_and,Bool.false_eq_true,if_false]
    omega
   rw [e8,eu]
   refine ⟨by omega, ?_, ?_⟩
   . rw [ByteArray.size_append,WL,WL,List.length_map,List.length_range,List.length_singleton];omega
   . rw [List.range_succ,List.map_append,bStr_app] at hW
     rw [wI (by omega),ByteArray.append_assoc]
     rw [show (7:Int) - ((j+1:Nat):Int)=7- (j:Int) - 1 by omega] at hW
     exact hW
 . have:j=8:=by omega
   subst this
   rw [decide_eq_false (by omega),cond_false]
   exact h
def sp80:Sp:=⟨S80,L80,fun g=>g.1.size<=4194304,fun g=> .str (xV g.1),fun _=>none⟩
theorem sp80_ok:sp80.Ok Tryz.prog 80 true:=
 ⟨fun g K X hp h=>F80_ok g K X (F80_is hp h),fun _ _ _=>rfl,fun _=>rfl,fun _ _=>⟨rfl,rfl⟩⟩
end Go.Proofs.YtbglndogddddoaaGreatDoor
namespace Go.Proofs.YtbglndogddddoaaGreatDoor
open Go.RowKit
attribute [local irreducible] qJ qd
set_option maxRecDepth 100000
def H39:List (Nat×Hint):=[(4,⟨[((2,[]),none),((3,[]),none)],[(2, .pt 0 0),(3, .pt 1 0),(4, .leaf),(5, .leaf)],[.el, .cells [.leaf, .leaf, .leaf, .leaf, .leaf, .leaf, .leaf, .leaf]],[.str, .int .i64, .el .dig, .int .u32, .int .u32, .int .u32, .int .u32, .int .u32, .int .u32, .int .u32, .int .u32]⟩),(9,⟨[],[],[],[]⟩),(33000009,⟨[],[],[],[]⟩)]
def J39:List (Nat×Hint):=[]
abbrev S39:List Sh:=[.leaf]
abbrev L39:List Lf:=[.str]
def J5 (K:Kn) (W2:prodL [.str, .int .i64, .el .dig, .int .u32, .int .u32, .int .u32, .int .u32, .int .u32, .int .u32, .int .u32, .int .u32]->Prop) (m_1:ByteArray) (i_1:Int) (t_1:Dig) (h1_1 h2_1 h3_1 h4_1 h5_1 h6_1 h7_1 h8_1:Int):Prop:=
 bif decide (IntKind.i64.wrap (i_1+64)<=(m_1.size:Int))then (
  (0:Int)<=i_1/\i_1<=IntKind.i64.wrap (i_1+64)/\IntKind.i64.wrap (i_1+64)<=(m_1.size:Int)/\
 sp81.pre (h1_1,h2_1,h3_1,h4_1,h5_1,h6_1,h7_1,h8_1,m_1.extract i_1.toNat (IntKind.i64.wrap (i_1+64)).toNat,())/\
 W2 (m_1,IntKind.i64.wrap (i_1+64),t_1,(qK [h1_1,h2_1,h3_1,h4_1,h5_1,h6_1,h7_1,h8_1] (m_1.extract i_1.toNat (IntKind.i64.wrap (i_1+64)).toNat)).getD 0 0,(qK [h1_1,h2_1,h3_1,h4_1,h5_1,h6_1,h7_1,h8_1] (m_1.extract i_1.toNat (IntKind.i64.wrap (i_1+64)).toNat)).getD 1 0,(qK [h1_1,h2_1,h3_1,h4_1,h5_1,h6_1,h7_1,h8_1] (m_1.extract i_1.toNat (IntKind.i64.wrap (i_1+64)).toNat)).getD 2 0,(qK [h1_1,h2_1,h3_1,h4_1,h5_1,h6_1,h7_1,h8_1] (m_1.extract i_1.toNat (IntKind.i64.wrap (i_1+64)).toNat)).getD 3 0,(qK [h1_1,h2_1,h3_1,h4_1,h5_1,h6_1,h7_1,h8_1] (m_1.extract i_1.toNat (IntKind.i64.wrap (i_1+64)).toNat)).getD 4 0,(qK [h1_1,h2_1,h3_1,h4_1,h5_1,h6_1,h7_1,h8_1] (m_1.extract i_1.toNat (IntKind.i64.wrap (i_1+64)).toNat)).getD 5 0,(qK [h1_1,h2_1,h3_1,h4_1,h5_1,h6_1,h7_1,h8_1] (m_1.extract i_1.toNat (IntKind.i64.wrap (i_1+64)).toNat)).getD 6 0,(qK [h1_1,h2_1,h3_1,h4_1,h5_1,h6_1,h7_1,h8_1] (m_1.extract i_1.toNat (IntKind.i64.wrap (i_1+64)).toNat)).getD 7 0,()))
 else (
  ¬4=(0:Int)/\
 0<=(0:Int)/\(0:Int).toNat<8/\
 ¬4=(0:Int)/\
 (0:Int)<=24/\
 0<=(0:Int)/\(0:Int).toNat<32/\
 ¬4=(0:Int)/\
 0<=(0:Int)/\(0:Int).toNat<8/\
 ¬4=(0:Int)/\
 (0:Int)<=16/\
 0<=(1:Int)/\(1:Int).toNat<32/\
 ¬4=(0:Int)/\
 0<=(0:Int)/\(0:Int).toNat<8/\
 ¬4=(0:Int)/\
 (0:Int)<=8/\
 0<=(2:Int)/\(2:Int).toNat<32/\
 ¬4=(0:Int)/\
 0<=(0:Int)/\(0:Int).toNat<8/\
 ¬4=(0:Int)/\
 (0:Int)<=0/\
 0<=(3:Int)/\(3:Int).toNat<32/\
 ¬4=(0:Int)/\
 0<=(1:Int)/\(1:Int).toNat<8/\
 ¬4=(0:Int)/\
 (0:Int)<=24/\
 0<=(4:Int)/\(4:Int).toNat<32/\
 ¬4=(0:Int)/\
 0<=(1:Int)/\(1:Int).toNat<8/\
 ¬4=(0:Int)/\
 (0:Int)<=16/\
 0<=(5:Int)/\(5:Int).toNat<32/\
 ¬4=(0:Int)/\
 0<=(1:Int)/\(1:Int).toNat<8/\
 ¬4=(0:Int)/\
 (0:Int)<=8/\
 0<=(6:Int)/\(6:Int).toNat<32/\
 ¬4=(0:Int)/\
 0<=(1:Int)/\(1:Int).toNat<8/\
 ¬4=(0:Int)/\
 (0:Int)<=0/\
 0<=(7:Int)/\(7:Int).toNat<32/\
 ¬4=(0:Int)/\
 0<=(2:Int)/\(2:Int).toNat<8/\
 ¬4=(0:Int)/\
 (0:Int)<=24/\
 0<=(8:Int)/\(8:Int).toNat<32/\
 ¬4=(0:Int)/\
 0<=(2:Int)/\(2:Int).toNat<8/\
 ¬4=(0:Int)/\
 (0:Int)<=16/\
 0<=(9:Int)/\(9:Int).toNat<32/\
 ¬4=(0:Int)/\
 0<=(2:Int)/\(2:Int).toNat<8/\
 ¬4=(0:Int)/\
 (0:Int)<=8/\
 0<=(10:Int)/\(10:Int).toNat<32/\
 ¬4=(0:Int)/\
 0<=(2:Int)/\(2:Int).toNat<8/\
 ¬4=(0:Int)/\
 (0:Int)<=0/\
 0<=(11:Int)/\(11:Int).toNat<32/\
 ¬4=(0:Int)/\
 0<=(3:Int)/\(3:Int).toNat<8/\
 ¬4=(0:Int)/\
 (0:Int)<=24/\
 0<=(12:Int)/\(12:Int).toNat<32/\
 ¬4=(0:Int)/\
 0<=(3:Int)/\(3:Int).toNat<8/\
 ¬4=(0:Int)/\
 (0:Int)<=16/\
 0<=(13:Int)/\(13:Int).toNat<32/\
 ¬4=(0:Int)/\
 0<=(3:Int)/\(3:Int).toNat<8/\
 ¬4=(0:Int)/\
 (0:Int)<=8/\
 0<=(14:Int)/\(14:Int).toNat<32/\
 ¬4=(0:Int)/\
 0<=(3:Int)/\(3:Int).toNat<8/\
 ¬4=(0:Int)/\
 (0:Int)<=0/\
 0<=(15:Int)/\(15:Int).toNat<32/\
 ¬4=(0:Int)/\
 0<=(4:Int)/\(4:Int).toNat<8/\
 ¬4=(0:Int)/\
 (0:Int)<=24/\
 0<=(16:Int)/\(16:Int).toNat<32/\
 ¬4=(0:Int)/\
 0<=(4:Int)/\(4:Int).toNat<8/\
 ¬4=(0:Int)/\
 (0:Int)<=16/\
 0<=(17:Int)/\(17:Int).toNat<32/\
 ¬4=(0:Int)/\
 0<=(4:Int)/\(4:Int).toNat<8/\
 ¬4=(0:Int)/\
 (0:Int)<=8/\
 0<=(18:Int)/\(18:Int).toNat<32/\
 ¬4=(0:Int)/\
 0<=(4:Int)/\(4:Int).toNat<8/\
 ¬4=(0:Int)/\
 (0:Int)<=0/\
 0<=(19:Int)/\(19:Int).toNat<32/\
 ¬4=(0:Int)/\
 0<=(5:Int)/\(5:Int).toNat<8/\
 ¬4=(0:Int)/\
 (0:Int)<=24/\
 0<=(20:Int)/\(20:Int).toNat<32/\
 ¬4=(0:Int)/\
 0<=(5:Int)/\(5:Int).toNat<8/\
 ¬4=(0:Int)/\
 (0:Int)<=16/\
 0<=(21:Int)/\(21:Int).toNat<32/\
 ¬4=(0:Int)/\
 0<=(5:Int)/\(5:Int).toNat<8/\
 ¬4=(0:Int)/\
 (0:Int)<=8/\
 0<=(22:Int)/\(22:Int).toNat<32/\
 ¬4=(0:Int)/\
 0<=(5:Int)/\(5:Int).toNat<8/\
 ¬4=(0:Int)/\
 (0:Int)<=0/\
 0<=(23:Int)/\(23:Int).toNat<32/\
 ¬4=(0:Int)/\
 0<=(6:Int)/\(6:Int).toNat<8/\
 ¬4=(0:Int)/\
 (0:Int)<=24/\
 0<=(24:Int)/\(24:Int).toNat<32/\
 ¬4=(0:Int)/\
 0<=(6:Int)/\(6:Int).toNat<8/\
 ¬4=(0:Int)/\
 (0:Int)<=16/\
 0<=(25:Int)/\(25:Int).toNat<32/\
 ¬4=(0:Int)/\
 0<=(6:Int)/\(6:Int).toNat<8/\
 ¬4=(0:Int)/\
 (0:Int)<=8/\
 0<=(26:Int)/\(26:Int).toNat<32/\
 ¬4=(0:Int)/\
 0<=(6:Int)/\(6:Int).toNat<8/\
 ¬4=(0:Int)/\
 (0:Int)<=0/\
 0<=(27:Int)/\(27:Int).toNat<32/\
 ¬4=(0:Int)/\
 0<=(7:Int)/\(7:Int).toNat<8/\
 ¬4=(0:Int)/\
 (0:Int)<=24/\
 0<=(28:Int)/\(28:Int).toNat<32/\
 ¬4=(0:Int)/\
 0<=(7:Int)/\(7:Int).toNat<8/\
 ¬4=(0:Int)/\
 (0:Int)<=16/\
 0<=(29:Int)/\(29:Int).toNat<32/\
 ¬4=(0:Int)/\
 0<=(7:Int)/\(7:Int).toNat<8/\
 ¬4=(0:Int)/\
 (0:Int)<=8/\
 0<=(30:Int)/\(30:Int).toNat<32/\
 ¬4=(0:Int)/\
 0<=(7:Int)/\(7:Int).toNat<8/\
 ¬4=(0:Int)/\
 (0:Int)<=0/\
 0<=(31:Int)/\(31:Int).toNat<32/\
 K (.ag (enc .dig (⟨IntKind.u8.wrap (Int.fdiv h1_1 (2^(min (24:Int).toNat IntKind.u32.bits))),IntKind.u8.wrap (Int.fdiv h1_1 (2^(min (16:Int).toNat IntKind.u32.bits))),IntKind.u8.wrap (Int.fdiv h1_1 (2^(min (8:Int).toNat IntKind.u32.bits))),IntKind.u8.wrap (Int.fdiv h1_1 (2^(min (0:Int).toNat IntKind.u32.bits))),IntKind.u8.wrap (Int.fdiv h2_1 (2^(min (24:Int).toNat IntKind.u32.bits))),IntKind.u8.wrap (Int.fdiv h2_1 (2^(min (16:Int).toNat IntKind.u32.bits))),IntKind.u8.wrap (Int.fdiv h2_1 (2^(min (8:Int).toNat IntKind.u32.bits))),IntKind.u8.wrap (Int.fdiv h2_1 (2^(min (0:Int).toNat IntKind.u32.bits))),IntKind.u8.wrap (Int.fdiv h3_1 (2^(min (24:Int).toNat IntKind.u32.bits))),IntKind.u8.wrap (Int.fdiv h3_1 (2^(min (16:Int).toNat IntKind.u32.bits))),IntKind.u8.wrap (Int.fdiv h3_1 (2^(min (8:Int).toNat IntKind.u32.bits))),IntKind.u8.wrap (Int.fdiv h3_1 (2^(min (0:Int).toNat IntKind.u32.bits))),IntKind.u8.wrap (Int.fdiv h4_1 (2^(min (24:Int).toNat IntKind.u32.bits))),IntKind.u8.wrap (Int.fdiv h4_1 (2^(min (16:Int).toNat IntKind.u32.bits))),IntKind.u8.wrap (Int.fdiv h4_1 (2^(min (8:Int).toNat IntKind.u32.bits))),IntKind.u8.wrap (Int.fdiv h4_1 (2^(min (0:Int).toNat IntKind.u32.bits))),IntKind.u8.wrap (Int.fdiv h5_1 (2^(min (24:Int).toNat IntKind.u32.bits))),IntKind.u8.wrap (Int.fdiv h5_1 (2^(min (16:Int).toNat IntKind.u32.bits))),IntKind.u8.wrap (Int.fdiv h5_1 (2^(min (8:Int).toNat IntKind.u32.bits))),IntKind.u8.wrap (Int.fdiv h5_1 (2^(min (0:Int).toNat IntKind.u32.bits))),IntKind.u8.wrap (Int.fdiv h6_1 (2^(min (24:Int).toNat IntKind.u32.bits))),IntKind.u8.wrap (Int.fdiv h6_1 (2^(min (16:Int).toNat IntKind.u32.bits))),IntKind.u8.wrap (Int.fdiv h6_1 (2^(min (8:Int).toNat IntKind.u32.bits))),IntKind.u8.wrap (Int.fdiv h6_1 (2^(min (0:Int).toNat IntKind.u32.bits))),IntKind.u8.wrap (Int.fdiv h7_1 (2^(min (24:Int).toNat IntKind.u32.bits))),IntKind.u8.wrap (Int.fdiv h7_1 (2^(min (16:Int).toNat IntKind.u32.bits))),IntKind.u8.wrap (Int.fdiv h7_1 (2^(min (8:Int).toNat IntKind.u32.bits))),IntKind.u8.wrap (Int.fdiv h7_1 (2^(min (0:Int).toNat IntKind.u32.bits))),IntKind.u8.wrap (Int.fdiv h8_1 (2^(min (24:Int).toNat IntKind.u32.bits))),IntKind.u8.wrap (Int.fdiv h8_1 (2^(min (16:Int).toNat IntKind.u32.bits))),IntKind.u8.wrap (Int.fdiv h8_1 (2^(min (8:Int).toNat IntKind.u32.bits))),IntKind.u8.wrap (Int.fdiv h8_1 (2^(min (0:Int).toNat IntKind.u32.bits)))⟩:Dig))) [])
def F39_L2 (K:Kn) (g:prodL [.str, .int .i64, .el .dig, .int .u32, .int .u32, .int .u32, .int .u32, .int .u32, .int .u32, .int .u32, .int .u32]):Prop:=
 qQ (γ:=prodL [.str, .int .i64, .el .dig, .int .u32, .int .u32, .int .u32, .int .u32, .int .u32, .int .u32, .int .u32, .int .u32]) (fun V y=>J5 K V y.1 y.2.1 y.2.2.1 y.2.2.2.1 y.2.2.2.2.1 y.2.2.2.2.2.1 y.2.2.2.2.2.2.1 y.2.2.2.2.2.2.2.1 y.2.2.2.2.2.2.2.2.1 y.2.2.2.2.2.2.2.2.2.1 y.2.2.2.2.2.2.2.2.2.2.1) g
def F39 (g:prodL L39) (K:Kn):Prop:=
 sp80.pre (g.1,())/\
 F39_L2 K (xV g.1,0,dz,1779033703,3144134277,1013904242,2773480762,1359893119,2600822924,528734635,1541459225,())
theorem F39_eq (g:prodL L39) (K X:Kn):F39 g K=qJ D (qk [] [(80,true,sp80),(81,true,sp81)]) (qx []) H39 J39 44 [.cell 2 32] (qz Tryz.f39) (argsT S39 L39 g) [] (settle0 K) X:=by kernel_rfl
theorem F39_ok (g:prodL L39) (K X:Kn) (h:F39 g K):FCalls Tryz.prog 39 (argsT S39 L39 g) [] K X:=
 FCalls.settle0 (qq qY (jq (zq sp80_ok (zq sp81_ok z8))) qj rfl Tryz.func39 (c:=qz Tryz.f39) rfl Tryz.ntmps39 Tryz.results39 (by unfold qv;rw [Tryz.func39];kernel_rfl) (Nat.le_of_ble_eq_true (by kernel_rfl)) (c0:=0) (Eq.mp (F39_eq g K X) h))
end Go.Proofs.YtbglndogddddoaaGreatDoor
namespace Go.Proofs.YtbglndogddddoaaGreatDoor
open Go.RowKit
set_option maxRecDepth 100000
theorem bStr_list (l:List Int):(zb l).data.toList=bs l:=rfl
theorem bs_app (l m:List Int):bs (l++m)=bs l++bs m:=by unfold bs;rw [List.map_append]
theorem bs_strB (s:ByteArray):bs (zx s)=s.data.toList:=by
 unfold bs zx
 rw [List.map_map]
 refine (List.map_congr_left fun x _=> ?_).trans (List.map_id _)
 show UInt8.ofNat ((x.toNat:Int)).toNat=x
 rw [Int.toNat_natCast,UInt8.ofNat_toNat]
theorem list_ext {a b:ByteArray} (h:a.data.toList=b.data.toList):a=b:=by
 apply ByteArray.ext
 exact Array.ext' h
theorem JK (s:ByteArray) (a n:Nat):(s.extract a (a+n)).data.toList=(s.data.toList.drop a).take n:=by
 rw [ByteArray.data_extract,Array.toList_extract,List.extract_eq_take_drop,Nat.add_sub_cancel_left]
theorem Wc (s:ByteArray):(xV s).data.toList=s.data.toList.take (s.size / 64*64)++bs (wj s):=by
 have e:wD (s.size+1)=wD (Qi s).length:=by
  rw [Yb]
  unfold wD
  omega
 unfold xV tailB wj qqm Qi
 rw [e]
 unfold Qi
 simp only [ByteArray.data_append,Array.toList_append,bStr_list,bs_app,bs_strB]
 have h1:(s.extract (s.size / 64*64) s.size).data.toList=s.data.toList.drop (s.size / 64*64):=by
  have h0:s.data.toList.length=s.size:=by simp
  have:=JK s (s.size / 64*64) (s.size-s.size / 64*64)
  rw [show s.size / 64*64+(s.size-s.size / 64*64)=s.size by omega] at this
  rw [this,List.take_of_length_le (by rw [List.length_drop,h0];exact Nat.le_refl _)]
 rw [h1]
 simp only [<- List.append_assoc,List.take_append_drop]
theorem pad_size (s:ByteArray):(xV s).size=64*(s.size / 64)+(wj s).length:=by
 have h:=congrArg List.length (Wc s)
 have h0:s.data.toList.length=s.size:=by simp
 rw [List.length_append,List.length_take,h0] at h
 have h2:(bs (wj s)).length=(wj s).length:=by unfold bs;rw [List.length_map]
 have h3:(xV s).data.toList.length=(xV s).size:=by simp
 rw [h2,h3] at h
 omega
def XC (m:ByteArray):List ByteArray:=(List.range (m.size / 64)).map (ZQ m)
theorem blkR_eq (s:ByteArray):XC (xV s)=Zc s++blkB s:=by
 have hl:=JP s
 have hq:(xV s).size / 64=s.size / 64+(wj s).length / 64:=by rw [pad_size];omega
 have h0:s.data.toList.length=s.size:=by simp
 unfold XC Zc blkB
 rw [hq,List.range_add,List.map_append,List.map_map]
 congr 1
 . refine List.map_congr_left fun i hi=>list_ext ?_
   have hi:=List.mem_range.1 hi
   show ((xV s).extract (64*i) (64*i+64)).data.toList=(s.extract (64*i) (64*i+64)).data.toList
   rw [JK,JK,Wc,List.drop_append_of_le_length (by rw [List.length_take,h0];omega),List.take_append_of_le_length (by rw [List.length_drop,List.length_take,h0];omega),List.drop_take,List.take_take]
   rw [Nat.min_eq_left (by omega)]
 . refine List.map_congr_left fun k hk=>list_ext ?_
   show ((xV s).extract (64*(s.size / 64+k)) (64*(s.size / 64+k)+64)).data.toList=bs (((wj s).drop (64*k)).take 64)
   have ht:(s.data.toList.take (s.size / 64*64)).length=64*(s.size / 64):=by rw [List.length_take,h0];omega
   rw [JK,Wc,Nat.mul_add, <- List.drop_drop,List.drop_left' ht]
   unfold bs
   rw [List.map_take,List.map_drop]
theorem F39_B2_is {K:Kn} {W:prodL [.str, .int .i64, .el .dig, .int .u32, .int .u32, .int .u32, .int .u32, .int .u32, .int .u32, .int .u32, .int .u32]->Prop} {m:ByteArray} {n:Nat} {a b c d e f g k:Int} (hm:m.size<=8388608) (hn:n<m.size / 64) (hW:W (m,((64*(n+1):Nat):Int),dz,(qK [a,b,c,d,e,f,g,k] (ZQ m n)).getD 0 0,(qK [a,b,c,d,e,f,g,k] (ZQ m n)).getD 1 0,(qK [a,b,c,d,e,f,g,k] (ZQ m n)).getD 2 0,(qK [a,b,c,d,e,f,g,k] (ZQ m n)).getD 3 0,(qK [a,b,c,d,e,f,g,k] (ZQ m n)).getD 4 0,(qK [a,b,c,d,e,f,g,k] (ZQ m n)).getD 5 0,(qK [a,b,c,d,e,f,g,k] (ZQ m n)).getD 6 0,(qK [a,b,c,d,e,f,g,k] (ZQ m n)).getD 7 0,())):
  J5 K W m ((64*n:Nat):Int) dz a b c d e f g k:=by
 have e1:IntKind.i64.wrap (((64*n:Nat):Int)+64)=((64*n+64:Nat):Int):=by rw [wI (by omega)];omega
 unfold J5
 rw [e1,decide_eq_true (by omega),cond_true,toN,toN]
 refine ⟨by omega,by omega,by omega, ?_, ?_⟩
 . show (m.extract (64*n) (64*n+64)).size=64
   rw [ByteArray.size_extract];omega
 . exact hW
theorem F39_B2_end {K:Kn} {W:prodL [.str, .int .i64, .el .dig, .int .u32, .int .u32, .int .u32, .int .u32, .int .u32, .int .u32, .int .u32, .int .u32]->Prop} {m:ByteArray} {a b c d e f g k:Int} (hm:m.size<=8388608) (h:K (.ag (enc .dig (digW [a,b,c,d,e,f,g,k]))) []):
  J5 K W m ((64*(m.size / 64):Nat):Int) dz a b c d e f g k:=by
 have e1:IntKind.i64.wrap (((64*(m.size / 64):Nat):Int)+64)=((64*(m.size / 64)+64:Nat):Int):=by rw [wI (by omega)];omega
 unfold J5
 rw [e1,decide_eq_false (by omega),cond_false]
 repeat (refine And.intro (by decide) ?_)
 exact h
theorem F39_is {s:ByteArray} {K:Kn} (hs:s.size<=4194304) (h:K (.ag (enc .dig (Q0 s))) []):F39 (s,()) K:=by
 have hla:=JP s
 have hm:(xV s).size<=8388608:=by rw [pad_size];omega
 unfold F39
 refine ⟨hs, ?_⟩
 unfold Q0 zX at h
 rw [<- blkR_eq, <- vA_all] at h
 have hN:(XC (xV s)).length=(xV s).size / 64:=by simp [XC]
 have hg: ∀n (hn:n< (XC (xV s)).length),(XC (xV s))[n]=ZQ (xV s) n:=fun n hn=>by simp [XC]
 rw [hN] at h
 have hz:=qqv st0 (XC (xV s))
 have hsu: ∀n,n< (xV s).size / 64->vA st0 (XC (xV s)) (n+1)=qK (vA st0 (XC (xV s)) n) (ZQ (xV s) n):=fun n hn=>by
  rw [qq5 _ (by rw [hN];exact hn),hg]
 have hl:=vA_len (st:=st0) rfl (XC (xV s))
 generalize vA st0 (XC (xV s))=v at h hz hsu hl
 dsimp only
 generalize xV s=m at hm h hsu ⊢
 unfold F39_L2
 refine qQ.countTo (m.size / 64) (fun n=>(m,((64*n:Nat):Int),dz,(v n).getD 0 0,(v n).getD 1 0,(v n).getD 2 0,(v n).getD 3 0,(v n).getD 4 0,(v n).getD 5 0,(v n).getD 6 0,(v n).getD 7 0,())) (fun _=>True) (by rw [hz];rfl) (fun n hn _ W hW=> ?_) trivial
 show J5 K W m ((64*n:Nat):Int) dz ((v n).getD 0 0) ((v n).getD 1 0) ((v n).getD 2 0) ((v n).getD 3 0) ((v n).getD 4 0) ((v n).getD 5 0) ((v n).getD 6 0) ((v n).getD 7 0)
 obtain ⟨a,b,c,d,e,f,g,k,hv⟩:=Wx (hl n)
 by_cases hlt:n<m.size / 64
 . have hW:=hW hlt trivial
   rw [hsu n hlt,hv] at hW
   rw [hv]
   exact F39_B2_is hm hlt hW
 . have:n=m.size / 64:=by omega
   subst this
   rw [hv] at h ⊢
   exact F39_B2_end hm h
def sp39:Sp:=⟨S39,L39,fun g=>g.1.size<=4194304,fun g=> .ag (enc .dig (Q0 g.1)),fun _=>none⟩
theorem sp39_ok:sp39.Ok Tryz.prog 39 true:=
 ⟨fun g K X hp h=>F39_ok g K X (F39_is hp h),fun _ _ _=>rfl,fun _=>rfl,fun _ _=>⟨rfl,rfl⟩⟩
end Go.Proofs.YtbglndogddddoaaGreatDoor
namespace Go.Proofs.YtbglndogddddoaaGreatDoor
open Go.RowKit
attribute [local irreducible] qJ qd
set_option maxRecDepth 100000
def H16:List (Nat×Hint):=[]
def J16:List (Nat×Hint):=[]
abbrev S16:List Sh:=[.ag [.leaf, .leaf, .leaf, .leaf, .leaf]]
abbrev L16:List Lf:=[.str, .str, .int .i64, .sl .dig, .sl .chg]
def F16 (g:prodL L16) (K:Kn):Prop:=
 sp14.pre (g.1,g.2.1,g.2.2.1,g.2.2.2.1,g.2.2.2.2.1,())/\
 bif !decide ((vO g.1 g.2.1 g.2.2.1 g.2.2.2.1 g.2.2.2.2.1).2=0)then (
  K (.tu [.ag (enc .dig dz), .int .i64 ((vO g.1 g.2.1 g.2.2.1 g.2.2.2.1 g.2.2.2.2.1).2)]) [])
 else (
  sp39.pre ((vO g.1 g.2.1 g.2.2.1 g.2.2.2.1 g.2.2.2.2.1).1,())/\
 K (.tu [.ag (enc .dig (Q0 ((vO g.1 g.2.1 g.2.2.1 g.2.2.2.1 g.2.2.2.2.1).1))), .int .i64 0]) [])
theorem F16_eq (g:prodL L16) (K X:Kn):F16 g K=qJ D (qk [] [(14,true,sp14),(39,true,sp39)]) (qx []) H16 J16 17 [.cell 2 32, .tmp 3] (qz Tryz.f16) (argsT S16 L16 g) [] (settle0 K) X:=by kernel_rfl
theorem F16_ok (g:prodL L16) (K X:Kn) (h:F16 g K):FCalls Tryz.prog 16 (argsT S16 L16 g) [] K X:=
 FCalls.settle0 (qq qY (jq (zq sp14_ok (zq sp39_ok z8))) qj rfl Tryz.func16 (c:=qz Tryz.f16) rfl Tryz.ntmps16 Tryz.results16 (by unfold qv;rw [Tryz.func16];kernel_rfl) (Nat.le_of_ble_eq_true (by kernel_rfl)) (c0:=0) (Eq.mp (F16_eq g K X) h))
end Go.Proofs.YtbglndogddddoaaGreatDoor
namespace Go.Proofs.YtbglndogddddoaaGreatDoor
open Go.RowKit
set_option maxRecDepth 100000
def idR (a m:ByteArray) (t:Int) (ds:List Dig) (cs:List Chg):Dig×Int:=bif !decide ((vO a m t ds cs).2=0)then (dz,(vO a m t ds cs).2)else (Q0 (vO a m t ds cs).1,0)
theorem encQ_size {a m:ByteArray} {t:Int} {ds:List Dig} {cs:List Chg}:(YD a m t ds cs).1.size<=65536:=by
 unfold YD
 by_cases x:(xi (zu a m t (ds.map z6) cs)).2=0
 . rw [decide_eq_true x,Bool.not_true,cond_false]
   by_cases y:65536< ((xi (zu a m t (ds.map z6) cs)).1.size:Int)
   . rw [decide_eq_true y];exact Nat.zero_le _
   . rw [decide_eq_false y,cond_false]
     show (xi (zu a m t (ds.map z6) cs)).1.size<=65536
     omega
 . rw [decide_eq_false x];exact Nat.zero_le _
theorem encR_size {a m:ByteArray} {t:Int} {ds:List Dig} {cs:List Chg}:(vO a m t ds cs).1.size<=65536:=by
 unfold vO
 cases decide ((JQ a m t ds cs).2=0)
 . exact Nat.zero_le _
 . exact encQ_size
theorem F16_is {a m:ByteArray} {t:Int} {ds:List Dig} {cs:List Chg} {K:Kn} (hp:xP a m t ds cs) (h:K (.tu [.ag (enc .dig (idR a m t ds cs).1), .int .i64 (idR a m t ds cs).2]) []):F16 (a,m,t,ds,cs,()) K:=by
 unfold F16
 refine ⟨hp, ?_⟩
 unfold idR at h
 show bif !decide ((vO a m t ds cs).2=0)then _ else _
 by_cases z:(vO a m t ds cs).2=0
 . rw [decide_eq_true z] at h ⊢
   exact ⟨Nat.le_trans encR_size (by omega),h⟩
 . rw [decide_eq_false z] at h ⊢
   exact h
def sp16:Sp:=⟨S16,L16,fun g=>xP g.1 g.2.1 g.2.2.1 g.2.2.2.1 g.2.2.2.2.1,fun g=> .tu [.ag (enc .dig (idR g.1 g.2.1 g.2.2.1 g.2.2.2.1 g.2.2.2.2.1).1), .int .i64 (idR g.1 g.2.1 g.2.2.1 g.2.2.2.1 g.2.2.2.2.1).2],fun _=>none⟩
theorem sp16_ok:sp16.Ok Tryz.prog 16 true:=
 ⟨fun g K X hp h=>F16_ok g K X (F16_is hp h),fun _ _ _=>rfl,fun _=>rfl,fun _ _=>⟨rfl,rfl⟩⟩
theorem id_eq {a m:ByteArray} {t:Int} {ds:List Dig} {cs:List Chg} (h:(xe a m t ds cs).2=vO a m t ds cs):Y0 a m t ds cs=idR a m t ds cs:=by
 unfold Y0 idR
 rw [h]
end Go.Proofs.YtbglndogddddoaaGreatDoor
namespace Go.Proofs.YtbglndogddddoaaGreatDoor
open Go.RowKit
attribute [local irreducible] qJ qd
set_option maxRecDepth 100000
def H3:List (Nat×Hint):=[]
def J3:List (Nat×Hint):=[]
abbrev S3:List Sh:=[.ag [.leaf, .leaf, .leaf, .leaf, .leaf]]
abbrev L3:List Lf:=[.str, .str, .int .i64, .sl .dig, .sl .chg]
def F3 (g:prodL L3) (K:Kn):Prop:=
 sp11.pre (g.1,g.2.1,g.2.2.1,g.2.2.2.1,g.2.2.2.2.1,())/\
 bif yP g.1 g.2.1 g.2.2.1 g.2.2.2.1 g.2.2.2.2.1 then (
  sp12.pre (())/\
  K (.bool true) [])
 else (
  sp13.pre (g.1,g.2.1,g.2.2.1,g.2.2.2.1,g.2.2.2.2.1,())/\
 sp14.pre (g.1,g.2.1,g.2.2.1,g.2.2.2.1,g.2.2.2.2.1,())/\
 sp15.pre (g.1,g.2.1,g.2.2.1,g.2.2.2.1,g.2.2.2.2.1,())/\
 sp16.pre (g.1,g.2.1,g.2.2.1,g.2.2.2.1,g.2.2.2.2.1,())/\
 bif decide ((xe g.1 g.2.1 g.2.2.1 g.2.2.2.1 g.2.2.2.2.1).2.1=(vO g.1 g.2.1 g.2.2.1 g.2.2.2.1 g.2.2.2.2.1).1)then (
  bif decide ((xe g.1 g.2.1 g.2.2.1 g.2.2.2.1 g.2.2.2.2.1).2.2=(vO g.1 g.2.1 g.2.2.1 g.2.2.2.1 g.2.2.2.2.1).2)then (
   bif zk ((Y0 g.1 g.2.1 g.2.2.1 g.2.2.2.1 g.2.2.2.2.1).1) ((idR g.1 g.2.1 g.2.2.1 g.2.2.2.1 g.2.2.2.2.1).1)then (
    bif decide ((Y0 g.1 g.2.1 g.2.2.1 g.2.2.2.1 g.2.2.2.2.1).2=(idR g.1 g.2.1 g.2.2.1 g.2.2.2.1 g.2.2.2.2.1).2)then (
     sp12.pre (())/\
     K (.bool true) [])
    else (
     K (.bool false) []))
   else (
    K (.bool false) []))
  else (
   K (.bool false) []))
 else (
  K (.bool false) []))
theorem F3_eq (g:prodL L3) (K X:Kn):F3 g K=qJ D (qk [] [(11,true,sp11),(12,true,sp12),(13,true,sp13),(14,true,sp14),(15,true,sp15),(16,true,sp16)]) (qx []) H3 J3 55 [.tmp 2] (qz Tryz.f3) (argsT S3 L3 g) [] (settle0 K) X:=by kernel_rfl
theorem F3_ok (g:prodL L3) (K X:Kn) (h:F3 g K):FCalls Tryz.prog 3 (argsT S3 L3 g) [] K X:=
 FCalls.settle0 (qq qY (jq (zq sp11_ok (zq sp12_ok (zq qqp (zq sp14_ok (zq sp15_ok (zq sp16_ok z8))))))) qj rfl Tryz.func3 (c:=qz Tryz.f3) rfl Tryz.ntmps3 Tryz.results3 (by unfold qv;rw [Tryz.func3];kernel_rfl) (Nat.le_of_ble_eq_true (by kernel_rfl)) (c0:=0) (Eq.mp (F3_eq g K X) h))
end Go.Proofs.YtbglndogddddoaaGreatDoor
namespace Go.Proofs.YtbglndogddddoaaGreatDoor
open Go.RowKit
set_option maxRecDepth 100000
theorem patchEncode.calls (g:prodL L3) (hw:Yl L3 g) (hb:wo L3 g<=1048576):FCalls Tryz.prog 3 (argsT S3 L3 g) [] (fun r _=>r= .bool true) fun _ _=>False:=by
 obtain ⟨a,m,t,ds,cs,⟨⟩⟩:=g
 obtain ⟨ht,hd,hc, -⟩:=hw
 have hb:a.size+1+(m.size+1+(1+((ds.map (bk .dig)).sum+1+((cs.map (bk .chg)).sum+1+0))))<=1048576:=hb
 obtain ⟨h1,h2,h3,h4,h5⟩:=pat_in (a:=a) (m:=m) (t:=t) (ds:=ds) (cs:=cs) (B:=1048576) (by omega) (Nat.le_refl _) ht hd hc
 refine F3_ok (a,m,t,ds,cs,()) _ _ ?_
 unfold F3
 refine ⟨⟨h1,h2⟩, ?_⟩
 show bif yP a m t ds cs then _ else _
 cases eg:yP a m t ds cs
 rotate_left
 . exact ⟨trivial,rfl⟩
 have hl:=not_great eg
 have he:=exam (a:=a) (m:=m) (t:=t) h3 hl h4
 have hi:=id_eq he
 refine ⟨h1,h1,h1,h1, ?_⟩
 show bif decide ((xe a m t ds cs).2.1=(vO a m t ds cs).1)then bif decide ((xe a m t ds cs).2.2=(vO a m t ds cs).2)then bif zk (Y0 a m t ds cs).1 (idR a m t ds cs).1 then bif decide ((Y0 a m t ds cs).2=(idR a m t ds cs).2)then _ else _ else _ else _ else _
 rw [hi,he,Wt,decide_eq_true rfl,decide_eq_true rfl,decide_eq_true rfl,decide_eq_true rfl]
 exact ⟨trivial,rfl⟩
end Go.Proofs.YtbglndogddddoaaGreatDoor
