import Derived.WalkKit
import Derived.Lib.Hide
import Derived.Orders
import Derived.Laws.Append
import Derived.Laws.BytesArg
import Derived.Lib.AppendStr
set_option linter.unusedVariables false
set_option linter.unusedSimpArgs false
set_option linter.unusedSectionVars false
namespace Go.Proofs.YtbglndogddddoaaGreatDoor
abbrev Jaa:=@decide_eq_true
abbrev Jab:=@decide_eq_false
abbrev Jac:=@of_decide_eq_true
abbrev Jad:=@of_decide_eq_false
abbrev Jae:=@cond_true
abbrev Jaf:=@cond_false
abbrev Jag:=@Nat.le_of_ble_eq_true
abbrev Jah:=@Option.some.injEq
abbrev Jai:=@List.getElem?_eq_some_iff
abbrev Jaj:=@List.length_cons
abbrev Jak:=@List.length_append
abbrev Jal:=@List.length_singleton
abbrev Jam:=@Nat.le_refl
abbrev Jan:=@List.eq_nil_of_length_eq_zero
abbrev Jao:=@List.getElem?_eq_getElem
abbrev Jap:=@Bool.not_true
abbrev Jaq:=@Bool.and_eq_true
abbrev Jar:=@Array.getElem?_eq_some_iff
abbrev Jas:=@List.getElem?_append_right
abbrev Jat:=@List.append_assoc
abbrev Jau:=@Nat.le_trans
abbrev Jav:=@List.getElem?_append_left
abbrev Jaw:=@Array.getElem?_eq_getElem
abbrev Jax:=@List.getElem?_map
abbrev Jay:=@Int.toNat_natCast
abbrev Jaz:=@Option.bind_some
abbrev Ja0:=@List.getElem?_eq_none
abbrev Ja1:=@List.length_nil
abbrev Ja2:=@Option.map_eq_some_iff
abbrev Ja3:=@List.mem_of_getElem?
abbrev Ja4:=@Bool.not_false
abbrev Ja5:=@Bool.false_eq_true
abbrev Ja6:=@Array.getElem?_setIfInBounds
abbrev Ja7:=@Nat.not_lt_zero
abbrev Ja8:=@Option.map_some
abbrev Ja9:=@Bool.false_ne_true
abbrev Jba:=@List.getElem_mem
abbrev Jbb:=@Array.getD_eq_getD_getElem?
abbrev Jbc:=@List.mem_cons_self
abbrev Jbd:=@List.getElem?_cons_succ
abbrev Jbe:=@List.mem_cons_of_mem
abbrev Jbf:=@List.mem_cons
abbrev Jbg:=@Prod.mk.injEq
abbrev Jbh:=@List.getElem?_cons_zero
abbrev Jbi:=@Array.getElem?_append_left
abbrev Jbj:=@Nat.zero_add
abbrev Jbk:=@decide_eq_true_eq
abbrev Jbl:=@List.getElem?_take_of_lt
abbrev Jbm:=@List.take_of_length_le
abbrev Jbn:=@Array.eq_empty_of_size_eq_zero
abbrev Jbo:=@List.getElem?_drop
abbrev Jbp:=@List.mem_range
abbrev Jbq:=@List.getD_eq_getElem?_getD
abbrev Jbr:=@List.mem_append
abbrev Jbs:=@List.length_map
abbrev Jbt:=@Nat.zero_le
abbrev Jbu:=@List.all_eq_true
abbrev Jbv:=@List.length_pos_iff
abbrev Jbw:=@Nat.lt_succ_self
abbrev Jbx:=@List.cons.injEq
abbrev Jby:=@List.drop_zero
abbrev Jbz:=@Array.getElem?_toList
abbrev Jb0:=@Option.some.inj
abbrev Jb1:=@List.drop_eq_getElem_cons
abbrev Jb2:=@Option.isSome_iff_exists
abbrev Jb3:=@List.length_replicate
abbrev Jb4:=@List.not_mem_nil
abbrev Jb5:=@List.length_take
abbrev Jb6:=@decide_eq_false_iff_not
abbrev Jb7:=@Nat.le_mul_of_pos_right
abbrev Jb8:=@decide_eq_decide
abbrev Jb9:=@List.length_drop
abbrev Jca:=@List.ext_getElem?
abbrev Jcb:=@Array.getElem?_modify
abbrev Jcc:=@List.sum_cons
abbrev Jcd:=@Nat.lt_of_lt_of_le
abbrev Jce:=@Int.eq_ofNat_of_zero_le
abbrev Jcf:=@List.drop_eq_nil_iff
abbrev Jcg:=@Nat.add_zero
abbrev Jch:=@List.mem_map
abbrev Jci:=@Bool.true_and
abbrev Jcj:=@List.map_append
abbrev Jck:=@Nat.eq_of_beq_eq_true
abbrev Jcl:=@Bool.or_assoc
abbrev Jcm:=@Bool.or_false
abbrev Jcn:=@List.take_append_drop
abbrev Jco:=@List.getElem?_replicate
section
open Go.RowKit
def quiet {α:Type} (P:Program):Sem α->Option α
 | .pure a=>some a
 | .program k=>quiet P (k P)
 | _=>none
theorem zw {α:Type} {P:Program} {s:Sem α} {a:α} (h:quiet P s=some a) (w:World):s.run P w= .ok a w:=by
 induction s with
 | pure b=>simp only [quiet,Jah] at h;subst h;rfl
 | program k ih=>simp only [quiet] at h;exact ih P h
 | _=>simp [quiet] at h
theorem qv {α β:Type} {P:Program} (s:Sem α) (f:α->Sem β):quiet P (s >>= f)=(quiet P s).bind fun a=>quiet P (f a):=by
 show quiet P (s.bind f)=_
 induction s with
 | pure b=>rfl
 | program k ih=>exact ih P
 | _=>rfl
def aggDesc:TypeDesc->Bool
 | .struct _ | .array _ _=>true
 | _=>false
section
variable {P:Program} {w:World} {a:Act} {o:Oper}
theorem qz3 {x:Value} (h:x.oneCell'=true):x.cells= #[x]:=by
 cases x<;>first | rfl | (simp [Value.oneCell'] at h)
@[simp] theorem qM {α:Type} (x:α):quiet P (pure x)=some x:=rfl
@[simp] theorem qnR {α:Type} (x:α):quiet P (Sem.pure x)=some x:=rfl
@[simp] theorem jk (T:TypeId):quiet P (underlying T)=P.underlying T:=by
 show quiet P (Sem.program _)=_
 simp only [quiet];show quiet P (match P.underlying T with | some d=>pure d | none=>stuck "no such type")=_
 cases P.underlying T<;>rfl
@[simp] theorem YS (T:TypeId):quiet P (typeInfo T)=P.info? T:=by
 show quiet P (Sem.program _)=_
 simp only [quiet];show quiet P (match P.info? T with | some d=>pure d | none=>stuck "no such type")=_
 cases P.info? T<;>rfl
@[simp] theorem jL (T:TypeId):quiet P (sizeOf T)=(P.info? T).map (·.size):=by
 unfold sizeOf;rw [qv,YS];cases P.info? T<;>rfl
@[simp] theorem wD (T:TypeId):quiet P (zeroValue T)=(P.info? T).bind (·.zero):=by
 unfold zeroValue;rw [qv,YS];cases P.info? T with
 | none=>rfl
 | some i=>cases h:i.zero<;>simp [h]<;>rfl
@[simp] theorem qz2 (T:TypeId):quiet P (isAgg T)=(P.underlying T).map aggDesc:=by
 unfold isAgg;rw [qv,jk];cases P.underlying T with
 | none=>rfl
 | some d=>cases d<;>rfl
@[simp] theorem qpx {α β:Type} (f:α->β) (s:Sem α):quiet P (Functor.map f s)=(quiet P s).map f:=by
 show quiet P (s >>= _)=_
 rw [qv];cases quiet P s<;>rfl
theorem Qm {β:Type} (n:Nat) {p:Nat->β->Prop} (h: ∀j,j<n-> ∃y,p j y): ∃l:List β,l.length=n/\ ∀(j:Nat) (y:β),l[j]? =some y->p j y:=by
 induction n with
 | zero=>exact ⟨[],rfl,by simp⟩
 | succ n ih=>
  obtain ⟨l,h1,h2⟩:=ih fun j hj=>h j (by omega)
  obtain ⟨y,hy⟩:=h n (by omega)
  refine ⟨l++[y],by simp [h1],fun j z hz=> ?_⟩
  by_cases hj:j<l.length
  . rw [Jav hj] at hz;exact h2 j z hz
  . rw [Jas (by omega)] at hz
    by_cases e:j-l.length=0
    . rw [e] at hz;simp at hz;subst hz;have:j=n:=by omega
      subst this;exact hy
    . have:j-l.length=(j-l.length-1)+1:=by omega
      rw [this] at hz;simp at hz
theorem wj (b q:Nat): ∀(vs:List Value) (i:Nat) (w:World) (blk:Array Value) (T:TypeId) (fr:Nat×Nat),w.heap[b]? =some (.cells blk T fr)->(∀j,j<blk.size-> ¬(fr.1<=j/\j<fr.2))->q+i+vs.length<=blk.size->(∀v∈vs,v.oneCell'=true)->
  ∃(w':World) (blk':Array Value),(storeCells ⟨b,q,none⟩ vs i).run P w= .ok () w'/\w'.heap[b]? =some (.cells blk' T fr)/\blk'.size=blk.size/\(∀j,blk'[j]? =if q+i<=j/\j<q+i+vs.length then vs[j- (q+i)]? else blk[j]?)/\
   (∀k,k≠b->w'.heap[k]? =w.heap[k]?)/\w'.heap.size=w.heap.size/\w'.os=w.os/\w'.tape=w.tape/\w'.output=w.output
 | [],i,w,blk,T,fr,h1,_,_,_=>⟨w,blk,rfl,h1,rfl,fun j=>by rw [if_neg (by simp)],fun _ _=>rfl,rfl,rfl,rfl,rfl⟩
 | v::r,i,w,blk,T,fr,h1,h2,h3,h4=>by
  have hi:q+i<blk.size:=by simp at h3;omega
  have hadd:(⟨b,q,none⟩:Addr).add i=⟨b,q+i,none⟩:=by unfold Addr.add;split<;>simp_all
  have hcell:w.cell? ⟨b,q+i,none⟩=some blk[q+i]:=by simp [World.cell?,h1,hi]
  have hfro:w.frozen? ⟨b,q+i,none⟩=false:=by
   have:=h2 _ hi;simp only [World.frozen?,h1];simp;omega
  have hst:(store ((⟨b,q,none⟩:Addr).add i) v).run P w= .ok () (w.setCell ⟨b,q+i,none⟩ v):=by
   rw [hadd,run_store P w _ v _ (h4 v (by simp)),hcell]
   simp [hfro]
  have hw1:(w.setCell ⟨b,q+i,none⟩ v).heap[b]? =some (.cells (blk.setIfInBounds (q+i) v) T fr):=by
   simp [World.setCell,Jcb,h1]
  obtain ⟨w',blk',a1,a2,a3,a4,a5,a6,a7,a8,a9⟩:=wj b q r (i+1) (w.setCell ⟨b,q+i,none⟩ v) _ T fr hw1 (by simpa using h2) (by simp at h3 ⊢;omega) (fun x hx=>h4 x (by simp [hx]))
  refine ⟨w',blk', ?_,a2,by simpa using a3,fun j=> ?_,fun k hk=>(a5 k hk).trans (Below.heap_setCell w _ v k hk),by simpa [World.setCell] using a6,a7,a8,a9⟩
  . simp only [storeCells,Sem.run_bind,hst,Result.andThen_ok,a1]
  . rw [a4 j,Ja6];by_cases e:j=q+i
    . subst e;rw [if_neg (by omega),if_pos rfl,if_pos hi,if_pos (by simp)]
      simp
    . rw [if_neg (show¬q+i=j from fun h=>e h.symm)]
      by_cases e2:q+(i+1)<=j/\j<q+(i+1)+r.length
      . rw [if_pos e2,if_pos (by simp;omega)]
        have:j- (q+i)=(j- (q+(i+1)))+1:=by omega
        rw [this];simp
      . rw [if_neg e2,if_neg (by simp;omega)]
theorem qzG (off:Nat): ∀(l:List Value) (s:Nat) (xs:Array Value),off+s+l.length<=xs.size->
  ((l.zipIdx s).foldl (fun cs (p:Value×Nat)=>cs.setIfInBounds (off+p.2) p.1) xs).size=xs.size/\ ∀(j:Nat),((l.zipIdx s).foldl (fun cs (p:Value×Nat)=>cs.setIfInBounds (off+p.2) p.1) xs)[j]? =if off+s<=j/\j<off+s+l.length then l[j- (off+s)]? else xs[j]?
 | [],s,xs,_=>⟨rfl,fun j=>by rw [if_neg (by simp)];rfl⟩
 | v::r,s,xs,h=>by
  simp only [Jaj] at h;obtain ⟨h1,h2⟩:=qzG off r (s+1) (xs.setIfInBounds (off+s) v) (by simp;omega)
  simp only [List.zipIdx_cons,List.foldl_cons];refine ⟨by simpa using h1,fun j=> ?_⟩
  rw [h2 j,Ja6];by_cases e:j=off+s
  . subst e;rw [if_neg (by omega),if_pos rfl,if_pos (by omega),if_pos (by simp)]
    simp
  . rw [if_neg (show¬off+s=j from fun h=>e h.symm)]
    by_cases e2:off+(s+1)<=j/\j<off+(s+1)+r.length
    . rw [if_pos e2,if_pos (by simp;omega)]
      have:j- (off+s)=(j- (off+(s+1)))+1:=by omega
      rw [this];simp
    . rw [if_neg e2,if_neg (by simp;omega)]
theorem qJR (off:Nat) (ys xs:Array Value) (h:off+ys.size<=xs.size):
  (ys.zipIdx.foldl (fun cs (p:Value×Nat)=>cs.setIfInBounds (off+p.2) p.1) xs).size=xs.size/\ ∀(j:Nat),(ys.zipIdx.foldl (fun cs (p:Value×Nat)=>cs.setIfInBounds (off+p.2) p.1) xs)[j]? =if off<=j/\j<off+ys.size then ys[j-off]? else xs[j]? :=by
 have:=qzG off ys.toList 0 xs (by simpa using h)
 rw [<- Array.foldl_toList,Array.toList_zipIdx];simpa using this
theorem kN (w:World) (yn old:Nat) (e:TypeId) (h:yn<=maxLen):yn<=grownCap w yn old e/\grownCap w yn old e<=maxLen:=by
 unfold grownCap Question.cut;simp only [maxLen] at *;have:(w.tape w.drawn (.appendCap yn old e))%(2^63-yn) <2^63-yn:=Nat.mod_lt _ (by omega)
 omega
theorem Y9 {ty T e:TypeId} {i:TypeInfo} {z:Value} (ht:P.underlying T=some (.slice e)) (hi:P.info? e=some i) (hz:i.zero=some z) (A B:Option Addr) (sLen sCap m c:Nat) (olds news:List Value)
  (hlo:olds.length=sLen*i.size) (hA:A=none->sLen=0/\sCap=0) (holds: ∀b,A=some b-> ∀(j:Nat) (u:Value),olds[j]? =some u->w.cell? (b.add j)=some u)
  (hln:news.length=m*i.size) (hB:B=none->m=0) (hnews: ∀b,B=some b-> ∀(j:Nat) (u:Value),news[j]? =some u->w.cell? (b.add j)=some u) (hg:sCap<sLen+m) (h63:sLen+m<=maxLen) (hfit:(sLen+m)*i.bytes<=140737488355328):
  (Builtin.append_ #[T,T] ty #[.slice A sLen sCap,.slice B m c]).run P w=
   .ok (.slice (some ⟨w.heap.size,0,none⟩) (sLen+m) (grownCap w (sLen+m) sCap e)) (w.drew.alloc (.cells (olds.toArray++news.toArray++Builtin.zeroCells z.cells (grownCap w (sLen+m) sCap e- (sLen+m))) e)):=by
 have h63':((sLen+m:Nat):Int)<=9223372036854775807:=by simp only [maxLen] at h63;omega
 cases A with
 | some b=>
  cases B with
  | some b'=>exact run_append_grow w T ty e i z ht hi hz b sLen sCap olds hlo (holds b rfl) b' m c news hln (hnews b' rfl) hg h63' (growslice_fits hg hfit)
  | none=>
   have hm:=hB rfl;subst hm;have hnil:news=[]:=Jan (by simpa using hln)
   subst hnil;have hn: ¬(sLen<=sCap):=by omega
   have h2: ¬(9223372036854775807< (sLen:Int)):=by omega
   have h48': ¬(281474976710656<Builtin.nextslicecap sLen sCap*i.bytes):=by have:=growslice_fits hg hfit;simp at this;omega
   have hfo:=run_firstCells_some (P:=P) w.drew i.size sLen b sLen sCap olds hlo (by simpa using holds b rfl)
   simp [Builtin.append_,run_underlying ht,sizeOf,typeInfo,zeroValue,hi,hz,Builtin.lenOf,hn,h2,h48',Question.forced,hfo,newRow,grownCap,run_firstCells_none]
 | none=>
  obtain ⟨rfl,rfl⟩:=hA rfl;have hnil:olds=[]:=Jan (by simpa using hlo)
  subst hnil;cases B with
  | none=>have:=hB rfl;omega
  | some b'=>
   have:=run_append_nil (P:=P) w T ty e i z ht hi hz b' m c news hln (hnews b' rfl) (by omega) (by omega) (by simp at hfit;omega)
   simp only [Jbj];rw [this];simp
theorem VQ {ty T U e:TypeId} {i:TypeInfo} {z:Value} {ik:IntKind} (ht:P.underlying T=some (.slice e)) (hU:P.underlying U=some (.int ik)) (hi:P.info? e=some i) (hz:i.zero=some z) (A:Option Addr) (sLen sCap m:Nat) (k:IntKind) (olds:List Value)
  (hlo:olds.length=sLen*i.size) (hA:A=none->sLen=0/\sCap=0) (holds: ∀b,A=some b-> ∀(j:Nat) (u:Value),olds[j]? =some u->w.cell? (b.add j)=some u)
  (hm:0<m) (hs:0<i.size) (hg:sCap<sLen+m) (h63:sLen+m<=maxLen) (hfit:(sLen+m)*i.bytes<=140737488355328):
  (Builtin.append_ #[T,U] ty #[.slice A sLen sCap,.int k (m:Int)]).run P w=
   .ok (.slice (some ⟨w.heap.size,0,none⟩) (sLen+m) (grownCap w (sLen+m) sCap e)) (w.drew.alloc (.cells (olds.toArray++Builtin.zeroCells z.cells m++Builtin.zeroCells z.cells (grownCap w (sLen+m) sCap e- (sLen+m))) e)):=by
 have h63':((sLen+m:Nat):Int)<=9223372036854775807:=by simp only [maxLen] at h63;omega
 have hw:IntKind.i64.wrap (m:Int)=(m:Int):=by simp [IntKind.wrap,IntKind.bits,IntKind.signed];omega
 have hn: ¬(sLen+m<=sCap):=by omega
 have h1: ¬((m:Int) <0):=by omega
 have hle:m*i.bytes<=(sLen+m)*i.bytes:=Nat.mul_le_mul_right _ (by omega)
 have h2: ¬(281474976710656< (m:Int)*(i.bytes:Int)):=by rw [<- Int.natCast_mul];omega
 have h3: ¬(9223372036854775807< (sLen:Int)+(m:Int)):=by omega
 have h4: ¬(281474976710656<Builtin.nextslicecap (sLen+m) sCap*i.bytes):=by have:=growslice_fits hg hfit;omega
 have h5: ¬(m*i.size=0):=Nat.ne_of_gt (Nat.mul_pos hm hs);have h6: ¬(m=0):=by omega
 have h7: ¬(9223372036854775807< (m:Int)):=by omega
 cases A with
 | some b=>
  have hfo:=run_firstCells_some (P:=P) w.drew i.size sLen b sLen sCap olds hlo (by simpa using holds b rfl)
  simp [Builtin.append_,run_underlying ht,run_underlying hU,sizeOf,typeInfo,zeroValue,hi,hz,asInt,asIntOf,hw,h1,h2,hn,h3,h4,h5,Question.forced,hfo,newRow,grownCap]
 | none=>
  obtain ⟨rfl,rfl⟩:=hA rfl;have hnil:olds=[]:=Jan (by simpa using hlo)
  subst hnil;simp only [Jbj] at *;simp [Builtin.append_,run_underlying ht,run_underlying hU,sizeOf,typeInfo,zeroValue,hi,hz,asInt,asIntOf,hw,h1,h2,hn,h3,h4,h5,h6,h7,Question.forced,newRow,grownCap,run_firstCells_none]
theorem vF {ty T e:TypeId} {i:TypeInfo} (ht:P.underlying T=some (.slice e)) (hi:P.info? e=some i) (A B:Option Addr) (sLen sCap c:Nat) (hc:sLen<=sCap):
  (Builtin.append_ #[T,T] ty #[.slice A sLen sCap,.slice B 0 c]).run P w= .ok (.slice A sLen sCap) w:=by
 cases B with
 | none=>cases A<;>simp [Builtin.append_,run_underlying ht,sizeOf,typeInfo,hi,Builtin.lenOf,hc,Builtin.firstCells,storeCells]
 | some b=>cases A<;>simp [Builtin.append_,run_underlying ht,sizeOf,typeInfo,hi,Builtin.lenOf,hc,Builtin.firstCells,loadCells,loadCellsFrom,storeCells]
theorem qqL {ty T e:TypeId} {i:TypeInfo} {w':World} (ht:P.underlying T=some (.slice e)) (hi:P.info? e=some i) (b q sLen sCap m c:Nat) (B:Addr) (news:List Value) (hln:news.length=m*i.size)
  (hnews: ∀(j:Nat) (u:Value),news[j]? =some u->w.cell? (B.add j)=some u) (hroom:sLen+m<=sCap) (hst:(storeCells ⟨b,q+sLen*i.size,none⟩ news 0).run P w= .ok () w'):
  (Builtin.append_ #[T,T] ty #[.slice (some ⟨b,q,none⟩) sLen sCap,.slice (some B) m c]).run P w= .ok (.slice (some ⟨b,q,none⟩) (sLen+m) sCap) w':=by
 have hf:=run_firstCells_some (P:=P) w i.size m B m c news hln hnews;simp [Builtin.append_,run_underlying ht,sizeOf,typeInfo,hi,Builtin.lenOf,hroom,hf,Addr.add_lit,hst]
theorem xW {x y:Operand} {ts:Array TypeId} {v:Value} {w':World} (ho:o.op= .call {callee:= .builtin .append,args:= #[x,y],argTypes:=ts}) (hrun:(Builtin.append_ ts o.type #[a.eval x,a.eval y]).run P w= .ok v w'):
  (execOp a.eval o).run P w= .ok (.value v) w':=by
 simp only [execOp,ho,resolve,invoke,builtin,Sem.run_bind,Sem.run_pure,Result.andThen_ok,List.map_toArray,List.map_cons,List.map_nil,hrun]
theorem V6 (z:Array Value) (k:Nat):(Builtin.zeroCells z k).size=k*z.size:=by simp [Builtin.zeroCells]
theorem vp {α:Type} {xs:Array α} {l:List α} (h:xs.toList=l):xs=l.toArray:=by rw [<- h]
def qqC (P:Program) (E:TypeId->List Value->List Value->Option Bool) (xs ys:List Value):List Field->Option Bool
 | []=>some true
 | f::r=>if f.name= "_" then qqC P E xs ys r else match P.info? f.type with
  | some i=>match E f.type ((xs.drop f.offset).take i.size) ((ys.drop f.offset).take i.size),qqC P E xs ys r with
   | some a,some b=>some (a&&b)
   | _,_=>none
  | none=>none
def qvO (E:List Value->List Value->Option Bool) (s:Nat) (xs ys:List Value):List Nat->Option Bool
 | []=>some true
 | i::r=>match E ((xs.drop (i*s)).take s) ((ys.drop (i*s)).take s),qvO E s xs ys r with
  | some a,some b=>some (a&&b)
  | _,_=>none
def WM (P:Program):Nat->TypeId->List Value->List Value->Option Bool
 | 0,_,_,_=>none
 | d+1,t,xs,ys=>match P.underlying t with
  | some (.array n e)=>match P.info? e with
   | some i=>qvO (WM P d e) i.size xs ys (List.range' 0 n)
   | none=>none
  | some (.struct fs)=>if P.stoodInHeld t=true then none else qqC P (WM P d) xs ys fs.toList
  | some .bool=>match xs,ys with
   | [.bool a],[.bool b]=>some (a==b)
   | _,_=>none
  | some (.int _)=>match xs,ys with
   | [.int k a],[.int k' b]=>if k=k' then some (a==b)else none
   | _,_=>none
  | some .string=>match xs,ys with
   | [.string a],[.string b]=>some (a==b)
   | _,_=>none
  | _=>none
def mkV (P:Program) (t:TypeId) (xs:List Value):Option Value:=
 match P.underlying t with
 | some d=>if aggDesc d=true then some (.agg xs.toArray)else xs[0]?
 | none=>none
theorem qWe {d:Nat} {t:TypeId} {xs ys:List Value} {b:Bool} (h:WM P d t xs ys=some b): ∃x y,mkV P t xs=some x/\mkV P t ys=some y:=by
 cases d with
 | zero=>simp [WM] at h
 | succ d=>
  unfold mkV;simp only [WM] at h;cases hu:P.underlying t with
  | none=>simp [hu] at h
  | some k=>
   cases k<;>simp only [hu] at h<;>(try cases h;done)
   case struct=>exact ⟨_,_,rfl,rfl⟩
   case array=>exact ⟨_,_,rfl,rfl⟩
   all_goals (split at h<;>first | exact ⟨_,_,rfl,rfl⟩ | cases h)
theorem yy {t:TypeId} {cs:Array Value} {off:Nat} {i:TypeInfo} {x:Value} (hi:P.info? t=some i) (h:mkV P t ((cs.toList.drop off).take i.size)=some x):quiet P (part t cs off)=some x:=by
 unfold mkV at h;cases hu:P.underlying t with
 | none=>simp [hu] at h
 | some d=>
  simp only [hu] at h;simp only [part,qv,qz2,hu,Ja8,Jaz];cases hd:aggDesc d with
  | true=>
   simp only [hd,if_true] at h ⊢;simp only [qv,jL,hi,Ja8,Jaz,qM];rw [<- h];congr 2
   apply Array.toList_inj.1;simp only [Array.toList_extract,List.extract_eq_take_drop];congr 1
   omega
  | false=>
   simp only [hd,Ja5,if_false] at h ⊢;rw [List.getElem?_take] at h;split at h
   . rw [Jbo,Jcg,Jbz] at h;rw [h];rfl
   . cases h
theorem XR: ∀(d:Nat) (t:TypeId) (xs ys:List Value) (b:Bool) (d':Nat),WM P d t xs ys=some b->d<=d'-> ∀x y,mkV P t xs=some x->mkV P t ys=some y->quiet P (Op.equalIn d' t x y)=some b
 | 0,_,_,_,_,_,h,_,_,_,_,_=>by simp [WM] at h
 | d+1,t,xs,ys,b,0,h,hd,_,_,_,_=>by omega
 | d+1,t,xs,ys,b,d'+1,h,hd,x,y,hx,hy=>by
  have hleaf: ∀{k x} {zs:List Value} {z:Value},P.underlying t=some k->aggDesc k=false->zs=[z]->mkV P t zs=some x->x=z:=fun hu ha hz h=>by
   subst hz;simp only [mkV,hu,ha] at h;simpa using h.symm
  simp only [WM] at h;simp only [Op.equalIn,qv,jk];cases hu:P.underlying t with
  | none=>simp [hu] at h
  | some k=>
   simp only [hu] at h;simp only [Jaz];cases k<;>simp only at h<;>(try cases h;done)
   case bool=>
    split at h
    . cases h;have e1:=hleaf hu rfl rfl hx;have e2:=hleaf hu rfl rfl hy;subst e1;subst e2;rfl
    . cases h
   case int q=>
    split at h
    . split at h
      . cases h;have e1:=hleaf hu rfl rfl hx;have e2:=hleaf hu rfl rfl hy;subst e1;subst e2;rename_i e;subst e;simp
      . cases h
    . cases h
   case string=>
    split at h
    . cases h;have e1:=hleaf hu rfl rfl hx;have e2:=hleaf hu rfl rfl hy;subst e1;subst e2;rfl
    . cases h
   case array m e=>
    cases hi:P.info? e with
    | none=>simp [hi] at h
    | some i=>
    simp only [hi] at h;have e1:x= .agg xs.toArray:=by simp only [mkV,hu] at hx;simpa [aggDesc] using hx.symm
    have e2:y= .agg ys.toArray:=by simp only [mkV,hu] at hy;simpa [aggDesc] using hy.symm
    subst e1;subst e2;simp only [qv,jL,hi,Ja8,Jaz];simp only [Std.Legacy.Range.forIn_eq_forIn_range',Std.Legacy.Range.size,Nat.sub_zero,Nat.add_one_sub_one,Nat.div_one];clear hu hx hy;generalize List.range' 0 m=is at h ⊢;induction is generalizing b with
    | nil=>simp only [qvO,Jah] at h;subst h;rfl
    | cons j is ih=>
     simp only [qvO] at h;cases h1:WM P d e ((xs.drop (j*i.size)).take i.size) ((ys.drop (j*i.size)).take i.size)with
     | none=>simp [h1] at h
     | some a=>
      cases h2:qvO (WM P d e) i.size xs ys is with
      | none=>simp [h1,h2] at h
      | some c=>
       simp only [h1,h2,Jah] at h;obtain ⟨u,v,hu',hv'⟩:=qWe h1;simp only [List.forIn_cons,qv];rw [yy (cs:=xs.toArray) hi hu',Jaz,yy (cs:=ys.toArray) hi hv',Jaz,XR d _ _ _ a d' h1 (by omega) u v hu' hv',Jaz]
       subst h;cases a
       . rfl
       . simpa using ih c h2
   case struct fs=>
    split at h
    . cases h
    rename_i hst;have e1:x= .agg xs.toArray:=by simp only [mkV,hu] at hx;simpa [aggDesc] using hx.symm
    have e2:y= .agg ys.toArray:=by simp only [mkV,hu] at hy;simpa [aggDesc] using hy.symm
    subst e1;subst e2;simp only;have hp:quiet P (program:Sem Program)=some P:=rfl;simp only [qv,hp,Jaz,hst,Ja5,if_false];rw [<- Array.forIn_toList];have key: ∀(l:List Field) (b:Bool),qqC P (WM P d) xs ys l=some b->quiet P (Op.eqFields d' xs.toArray ys.toArray l)=some b:=by
     intro l;induction l with
     | nil=>intro b hb;simp [qqC] at hb;subst hb;rfl
     | cons f r ih=>
      intro b hb;simp only [qqC] at hb;simp only [Op.eqFields];by_cases hn:f.name= "_"
      . simp only [hn,if_true] at hb;simp only [hn,ne_eq,not_true_eq_false,if_false];exact ih b hb
      . simp only [hn,if_false] at hb;simp only [hn,ne_eq,not_false_eq_true,if_true];cases hi:P.info? f.type with
        | none=>simp [hi] at hb
        | some i=>
         simp only [hi] at hb;cases h1:WM P d f.type ((xs.drop f.offset).take i.size) ((ys.drop f.offset).take i.size)with
         | none=>simp [h1] at hb
         | some a=>
          cases h2:qqC P (WM P d) xs ys r with
          | none=>simp [h1,h2] at hb
          | some c=>
           simp only [h1,h2,Jah] at hb;obtain ⟨u,v,hu',hv'⟩:=qWe h1;simp only [qv];rw [yy (cs:=xs.toArray) hi hu',Jaz,yy (cs:=ys.toArray) hi hv',Jaz,XR d _ _ _ a d' h1 (by omega) u v hu' hv',Jaz]
           subst hb;cases a
           . rfl
           . simpa using ih c h2
    rw [<- key fs.toList b h];clear key h hu hx hy hst;generalize fs.toList=l;induction l with
    | nil=>rfl
    | cons f r ih=>
     simp only [List.forIn_cons,Op.eqFields,qv];split
     . simp only [qv];cases quiet P (part f.type xs.toArray f.offset)with
       | none=>rfl
       | some a=>
        simp only [Jaz];cases quiet P (part f.type ys.toArray f.offset)with
        | none=>rfl
        | some c=>
         simp only [Jaz];cases quiet P (Op.equalIn d' f.type a c)with
         | none=>rfl
         | some e=>
          cases e
          . rfl
          . simp only [Jaz,Jap,Ja5,if_false,qM];exact ih
     . simp only [qM,Jaz];exact ih
end
end
section
structure YI where
 fn:FuncId
 key:Nat
 live:List Tmp
def wQ:Code->Option Nat
 | .region id _ _=>some id
 | .seq a b=>match wQ a with
  | some k=>some k
  | none=>wQ b
 | .block _ c=>wQ c
 | .loop c=>wQ c
 | _=>none
def wN (k:Nat):Code->Option (Array Tmp×Code×Code)
 | .seq a b=>match wN k a with
  | some r=>some r
  | none=>wN k b
 | .cond _ a b=>match wN k a with
  | some r=>some r
  | none=>wN k b
 | .block _ c=>wN k c
 | .loop c=>wN k c
 | .rangeFunc _ ps a b=>match decide (wQ b=some k)with
  | true=>some (ps,a,b)
  | false=>wN k b
 | _=>none
def qfm (P:Program) (f:FuncId) (k:Nat):Option (Nat×Array Tmp×Code×Code):=
 match P.funcs[f]? with
 | some fn=>match fn.body with
  | some c=>match wN k c with
   | some (ps,a,b)=>some (fn.ntmps,ps,a,b)
   | none=>none
  | none=>none
 | none=>none
def zB:Code->Bool
 | .seq a b=>zB a&&zB b
 | .cond _ a b=>zB a&&zB b
 | .block _ c=>zB c
 | .loop c=>zB c
 | .rangeFunc .. =>false
 | _=>true
end
section
structure Dig where
 b0:Int
 b1:Int
 b2:Int
 b3:Int
 b4:Int
 b5:Int
 b6:Int
 b7:Int
 b8:Int
 b9:Int
 b10:Int
 b11:Int
 b12:Int
 b13:Int
 b14:Int
 b15:Int
 b16:Int
 b17:Int
 b18:Int
 b19:Int
 b20:Int
 b21:Int
 b22:Int
 b23:Int
 b24:Int
 b25:Int
 b26:Int
 b27:Int
 b28:Int
 b29:Int
 b30:Int
 b31:Int
 deriving DecidableEq
structure Idn where
 patch:Dig
 n:Int
 deriving DecidableEq
structure Chg where
 kind:Int
 file:Idn
 typ:Int
 parent:Idn
 name:ByteArray
 mode:Int
 data:ByteArray
 after:Idn
 before:Idn
 lines:List ByteArray
 over:List Idn
 deriving DecidableEq
structure Atm where
 id:Idn
 kind:Int
 file:Idn
 typ:Int
 parent:Idn
 name:ByteArray
 mode:Int
 data:ByteArray
 text:ByteArray
 frm:Idn
 til:Idn
 over:List Idn
 deriving DecidableEq
inductive Fd where
 | file
 | data
 | txt
 | dir
 | fin (c:Chg)
 | sup (c:Chg)
 deriving DecidableEq
structure Rfn where
 id:Idn
 fits:Fd
 deriving DecidableEq
structure Ment where
 key:Int
 val:Int
 deriving DecidableEq
structure Sx where
 isList:Bool
 atom:ByteArray
 list:List Sx
inductive El where
 | str
 | u8
 | i64
 | u32
 | dig
 | idk
 | chg
 | atm
 | ref
 | ment
 | sexp
 deriving DecidableEq
@[reducible] def ty:El->Type
 | .str=>ByteArray
 | .u8=>Int
 | .i64=>Int
 | .u32=>Int
 | .dig=>Dig
 | .idk=>Idn
 | .chg=>Chg
 | .atm=>Atm
 | .ref=>Rfn
 | .ment=>Ment
 | .sexp=>Sx
def ytab:FuncId->Option YI:=fun f=>
 match Nat.beq f 1036016 with
 | true=>some ⟨36,16,[6]⟩
 | false=>
 match Nat.beq f 1023008 with
 | true=>some ⟨23,8,[5]⟩
 | false=>
 match Nat.beq f 1033004 with
 | true=>some ⟨33,4,[3]⟩
 | false=>
 none
def fdOf:Fd->Nat×Option (Sigma ty)
 | .file=>(89,none)
 | .data=>(90,none)
 | .txt=>(91,none)
 | .dir=>(92,none)
 | .fin c=>(93,some ⟨.chg,c⟩)
 | .sup c=>(94,some ⟨.chg,c⟩)
def qrc (x:Fd) (k0:Prop) (k1:Prop) (k2:Prop) (k3:Prop) (k4:Chg->Prop) (k5:Chg->Prop):Prop:=match x with
 | .file=>k0
 | .data=>k1
 | .txt=>k2
 | .dir=>k3
 | .fin c=>k4 c
 | .sup c=>k5 c
def qV2 (x:Fd) (k:Nat->Option (Sigma ty)->Prop):Prop:=qrc x (k 89 none) (k 90 none) (k 91 none) (k 92 none) (fun c=>k 93 (some ⟨.chg,c⟩)) (fun c=>k 94 (some ⟨.chg,c⟩))
def qgX (f:Nat) (o:Option (Sigma ty)):Option Fd:=
 match Nat.beq f 89 with
 | true=>match o with
  | none=>some .file
  | _=>none
 | false=>
 match Nat.beq f 90 with
 | true=>match o with
  | none=>some .data
  | _=>none
 | false=>
 match Nat.beq f 91 with
 | true=>match o with
  | none=>some .txt
  | _=>none
 | false=>
 match Nat.beq f 92 with
 | true=>match o with
  | none=>some .dir
  | _=>none
 | false=>
 match Nat.beq f 93 with
 | true=>match o with
  | some ⟨.chg,c⟩=>some (.fin c)
  | _=>none
 | false=>
 match Nat.beq f 94 with
 | true=>match o with
  | some ⟨.chg,c⟩=>some (.sup c)
  | _=>none
 | false=>
 none
theorem qZX {f:Nat} {o:Option (Sigma ty)} {x:Fd} (h:qgX f o=some x):fdOf x=(f,o):=by
 unfold qgX at h;split at h
 . rename_i e;have:=Jck e;subst this;split at h
   . injection h with h;subst h;rfl
   . cases h
 split at h
 . rename_i e;have:=Jck e;subst this;split at h
   . injection h with h;subst h;rfl
   . cases h
 split at h
 . rename_i e;have:=Jck e;subst this;split at h
   . injection h with h;subst h;rfl
   . cases h
 split at h
 . rename_i e;have:=Jck e;subst this;split at h
   . injection h with h;subst h;rfl
   . cases h
 split at h
 . rename_i e;have:=Jck e;subst this;split at h
   . injection h with h;subst h;rfl
   . cases h
 split at h
 . rename_i e;have:=Jck e;subst this;split at h
   . injection h with h;subst h;rfl
   . cases h
 cases h
theorem qKn (x:Fd):(ytab (fdOf x).1).isNone=true:=by cases x<;>rfl
theorem JZ (x:Fd) (k:Nat->Option (Sigma ty)->Prop):qV2 x k↔k (fdOf x).1 (fdOf x).2:=by cases x<;>exact Iff.rfl
end
section
inductive T where
 | undef
 | int (k:IntKind) (n:Int)
 | bool (b:Bool)
 | str (s:ByteArray)
 | cst (v:Value)
 | ub
 | nil
 | sl (full:Bool) (e:El) (l:List (ty e))
 | oa (e:El) (k ver:Nat)
 | os (e:El) (k ver off n:Nat)
 | pt (k off:Nat)
 | pe (e:El) (k ver i j:Nat)
 | pr (e:El) (x:ty e) (j:Nat)
 | ag (cs:List T)
 | tu (cs:List T)
 | fn (f:FuncId) (xs ys:List T)
 | ic (t:TypeId) (v:T)
 | fp
 | mp (k:Nat)
 | as (k n:Nat)
 | ments (e:El) (l:List (ty e))
 | fents (b:Bool) (l:List (Int×ByteArray×Nat))
 | itr (k:Option Nat) (e:El) (all left cur:List (ty e))
 | fd (x:Fd)
 | al (e:El) (l:List (ty e))
instance:Inhabited T:=⟨.undef⟩
inductive Ob where
 | cells (cs:List T)
 | arr (ver:Nat) (e:El) (l:List (ty e))
abbrev St:=List (Option Ob)
abbrev Tm:=List (Nat×T)
def get:Tm->Nat->T
 | [],_=> .undef
 | (j,v)::r,i=>if i=j then v else get r i
def put:Tm->Nat->T->Tm
 | [],i,v=>[(i,v)]
 | (j,u)::r,i,v=>if i=j then (i,v)::r else (j,u)::put r i v
theorem yj (t:Tm) (d:Nat) (v:T) (i:Nat):get (put t d v) i=if i=d then v else get t i:=by
 induction t with
 | nil=>by_cases h:i=d<;>simp [put,get,h]
 | cons p r ih=>
  obtain ⟨j,u⟩:=p;by_cases hj:d=j
  . subst hj;by_cases h:i=d<;>simp [put,get,h]
  . by_cases h:i=j
    . subst h;have:i≠d:=fun e=>hj e.symm
      simp [put,get,hj,this]
    . by_cases h2:i=d
      . subst h2;simp [put,get,hj,ih]
      . simp [put,get,hj,h,ih,h2]
def rd:St->Nat->Option Ob
 | [],_=>none
 | x::_,0=>x
 | _::r,k+1=>rd r k
theorem quO (st:St) (k:Nat):rd st k=(st[k]?).join:=by
 induction st generalizing k with
 | nil=>rfl
 | cons x r ih=>cases k<;>simp [rd,ih]
theorem qc {st:St} {k:Nat} {o:Ob}:rd st k=some o↔st[k]? =some (some o):=by
 rw [quO];cases h:st[k]? <;>simp
def T.one:T->Bool
 | .undef | .ag _ | .tu _ | .fp | .ments .. | .fents .. | .itr .. | .al .. =>false
 | .cst v=>v.oneCell'
 | _=>true
def T.pure1:T->Bool
 | .int .. | .bool _ | .str _ | .ub | .nil | .sl .. | .fd _=>true
 | .cst v=>v.oneCell'
 | _=>false
def zk:List T->Bool
 | .fp::_=>true
 | _=>false
def me1:T->Bool
 | .ments .. | .fents .. | .itr .. =>true
 | _=>false
def meHead:List T->Bool
 | v::_=>me1 v
 | _=>false
def cellsOf:T->Option (List T)
 | .ag cs=>match zk cs||meHead cs with
  | true=>none
  | false=>some cs
 | v=>if v.one=true then some [v] else none
theorem JW {v:T} {cs:List T} (h:cellsOf v=some cs):zk cs=false:=by
 cases v with
 | ag l=>
  simp only [cellsOf] at h;split at h
  . cases h
  . rename_i e;injection h with h;subst h;rw [Bool.or_eq_false_iff] at e;exact e.1
 | _=>
  simp only [cellsOf,Option.ite_none_right_eq_some,Jah] at h;obtain ⟨h1,rfl⟩:=h;first | rfl | (simp [T.one] at h1)
theorem Zu {v:T} {cs:List T} (h:cellsOf v=some cs):meHead cs=false:=by
 cases v with
 | ag l=>
  simp only [cellsOf] at h;split at h
  . cases h
  . rename_i e;injection h with h;subst h;rw [Bool.or_eq_false_iff] at e;exact e.2
 | _=>
  simp only [cellsOf,Option.ite_none_right_eq_some,Jah] at h;obtain ⟨h1,rfl⟩:=h;first | rfl | (simp [T.one] at h1)
def zM:T->T->Bool
 | .int k _,.int k' _=>decide (k=k')
 | .bool _,.bool _=>true
 | .str _,.str _=>true
 | _,_=>false
def tv:T->Value
 | .int k n=> .int k n
 | .bool b=> .bool b
 | .str s=> .string s
 | .cst v=>v
 | _=>Go.undef
def unfp:T->T
 | .fp=> .cst (.pointer none)
 | v=>v
def fnT (f:FuncId):T:=match (ytab f).isNone with
 | true=> .fn f [] []
 | false=> .cst (.func (.func f) #[] #[])
def qQb:Value->T
 | .slice none 0 0=> .nil
 | .int k n=> .int k n
 | .bool b=> .bool b
 | .string s=> .str s
 | .func (.func f) xs ys=>if xs.isEmpty=true/\ys.isEmpty=true then fnT f else .cst (.func (.func f) xs ys)
 | v=> .cst v
def tval:Value->T
 | .agg cs=>if cs.toList.all (·.oneCell')=true then .ag (cs.toList.map qQb)else .cst (.agg cs)
 | v=>qQb v
def ev (t:Tm):Operand->T
 | .tmp i=>get t i
 | .const v=>tval v
 | .global g=> .cst (.pointer (some ⟨g,0,none⟩))
 | .func f=>fnT f
def qaE:Nat->Option (Sigma ty)->T
 | f,none=> .fn f [] []
 | f,some ⟨e,c⟩=> .fn f [] [.pr e c 0]
def fdT (x:Fd):T:=qaE (fdOf x).1 (fdOf x).2
theorem qax (x:Fd): ∃f ys,fdT x= .fn f [] ys:=by
 unfold fdT;generalize fdOf x=p;obtain ⟨f,o⟩:=p;cases o with
 | none=>exact ⟨f,[],rfl⟩
 | some q=>obtain ⟨e,c⟩:=q;exact ⟨f,[.pr e c 0],rfl⟩
inductive Wk:T->T->Prop where
 | refl (v:T):Wk v v
 | sl (full:Bool) (e:El) (l:List (ty e)):Wk (.sl full e l) (.sl false e l)
 | nil (e:El):Wk .nil (.sl false e [])
 | fd {v:T} (x:Fd):v=fdT x->Wk v (.fd x)
inductive Wk2 (dec:(e:El)->List T->Option (ty e)) (enc:(e:El)->ty e->List T):T->T->Prop where
 | wk {v u:T}:Wk v u->Wk2 dec enc v u
 | el (e:El) (cs:List T) (x:ty e):dec e cs=some x->meHead cs=false->Wk2 dec enc (.ag cs) (.ag (enc e x))
def jX {e e':El} (h:e=e') (l:List (ty e)):List (ty e'):=h▸l
def Zr (k:IntKind):T->Option Int
 | .int k' n=>if k'=k then some n else none
 | _=>none
def qqP:T->Option ByteArray
 | .str s=>some s
 | _=>none
def qQh:T->Option Bool
 | .bool b=>some b
 | _=>none
def gSl (e:El):T->Option (List (ty e))
 | .nil=>some []
 | .sl _ e' l=>if h:e'=e then some (jX h l)else none
 | _=>none
def gFd:T->Option Fd
 | .fd x=>some x
 | .fn f [] []=>qgX f none
 | .fn f [] [.pr e c 0]=>qgX f (some ⟨e,c⟩)
 | _=>none
theorem qK5 {c:T} {x:Fd} (h:gFd c=some x):Wk c (.fd x):=by
 unfold gFd at h;split at h
 . injection h with h;subst h;exact .refl _
 . have:=qZX h;exact .fd x (by unfold fdT;rw [this];rfl)
 . have:=qZX h;exact .fd x (by unfold fdT;rw [this];rfl)
 . cases h
theorem j4 {k:IntKind} {c:T} {n:Int} (h:Zr k c=some n):Wk c (.int k n):=by
 unfold Zr at h;split at h
 . split at h
   . rename_i e;subst e;injection h with h;subst h;exact .refl _
   . cases h
 . cases h
theorem yq {c:T} {s:ByteArray} (h:qqP c=some s):Wk c (.str s):=by
 unfold qqP at h;split at h
 . injection h with h;subst h;exact .refl _
 . cases h
theorem qyy {c:T} {s:Bool} (h:qQh c=some s):Wk c (.bool s):=by
 unfold qQh at h;split at h
 . injection h with h;subst h;exact .refl _
 . cases h
theorem YV {e:El} {c:T} {l:List (ty e)} (h:gSl e c=some l):Wk c (.sl false e l):=by
 unfold gSl at h;split at h
 . injection h with h;subst h;exact .nil e
 . split at h
   . rename_i he;subst he;injection h with h;subst h;exact .sl _ _ _
   . cases h
 . cases h
end
section
def sz:El->Nat
 | .str=>1
 | .u8=>1
 | .i64=>1
 | .u32=>1
 | .dig=>32
 | .idk=>33
 | .chg=>139
 | .atm=>172
 | .ref=>34
 | .ment=>2
 | .sexp=>3
def wF (cs us:List T):Prop:=cs.length=us.length/\ ∀(j:Nat) (u:T),us[j]? =some u-> ∃c,cs[j]? =some c/\Wk c u
theorem wF.nil {cs:List T} (h:cs=[]):wF cs []:=by subst h;exact ⟨rfl,fun j u h=>by simp at h⟩
theorem wF.same (cs:List T):wF cs cs:=⟨rfl,fun j u h=>⟨u,h,.refl u⟩⟩
theorem wF.app {cs us vs:List T} (n:Nat) (hn:us.length=n) (h:wF (cs.take n) us) (k:wF (cs.drop n) vs):wF cs (us++vs):=by
 have hl:n<=cs.length:=by
  have:=h.1;rw [hn,Jb5] at this;omega
 refine ⟨?_,fun j u hj=> ?_⟩
 . have:=k.1;rw [Jb9] at this;rw [Jak];omega
 . by_cases hj':j<n
   . rw [Jav (by omega)] at hj
     obtain ⟨c,h1,h2⟩:=h.2 j u hj;rw [Jbl hj'] at h1;exact ⟨c,h1,h2⟩
   . rw [Jas (by omega),hn] at hj
     obtain ⟨c,h1,h2⟩:=k.2 _ u hj;rw [Jbo,show n+(j-n)=j by omega] at h1
     exact ⟨c,h1,h2⟩
def XJ {α β:Type} (n:Nat) (d:List T->Option α) (cs:List T) (k:α->List T->Option β):Option β:=match d (cs.take n)with
 | some x=>k x (cs.drop n)
 | none=>none
theorem qH {α β:Type} {n:Nat} {d:List T->Option α} {cs:List T} {k:α->List T->Option β} {y:β} (h:XJ n d cs k=some y): ∃x,d (cs.take n)=some x/\k x (cs.drop n)=some y:=by
 unfold XJ at h;split at h
 . rename_i x hx;exact ⟨x,hx,h⟩
 . cases h
def fin {β:Type} (y:β):List T->Option β
 | []=>some y
 | _=>none
theorem JF {β:Type} {x y:β} {cs:List T} (h:fin x cs=some y):cs=[]/\x=y:=by
 cases cs<;>simp [fin] at h
 exact ⟨rfl,h⟩
def d1 {α:Type} (g:T->Option α):List T->Option α
 | [c]=>g c
 | _=>none
theorem v7 {α:Type} {g:T->Option α} {v:α->T} (hg: ∀c x,g c=some x->Wk c (v x)) {cs:List T} {x:α} (h:d1 g cs=some x):wF cs [v x]:=by
 unfold d1 at h;split at h
 . refine ⟨rfl,fun j u hj=> ?_⟩
   cases j<;>simp at hj
   subst hj;exact ⟨_,rfl,hg _ _ h⟩
 . cases h
def u8L:List T->Option (List Int)
 | []=>some []
 | .int .u8 n::r=>match u8L r with
  | some l=>some (n::l)
  | none=>none
 | _=>none
theorem qW4: ∀{cs:List T} {l:List Int},u8L cs=some l->cs=l.map (T.int .u8)
 | [],l,h=>by simp [u8L] at h;subst h;rfl
 | c::r,l,h=>by
  unfold u8L at h;split at h
  . rename_i e;cases e
  . rename_i m r' e;cases e;split at h
    . rename_i l' hl;injection h with h;subst h;rw [qW4 hl];rfl
    . cases h
  . cases h
def WB (x:Dig):List T:=[.int .u8 x.b0,.int .u8 x.b1,.int .u8 x.b2,.int .u8 x.b3,.int .u8 x.b4,.int .u8 x.b5,.int .u8 x.b6,.int .u8 x.b7,.int .u8 x.b8,.int .u8 x.b9,.int .u8 x.b10,.int .u8 x.b11,.int .u8 x.b12,.int .u8 x.b13,.int .u8 x.b14,.int .u8 x.b15,.int .u8 x.b16,.int .u8 x.b17,.int .u8 x.b18,.int .u8 x.b19,.int .u8 x.b20,.int .u8 x.b21,.int .u8 x.b22,.int .u8 x.b23,.int .u8 x.b24,.int .u8 x.b25,.int .u8 x.b26,.int .u8 x.b27,.int .u8 x.b28,.int .u8 x.b29,.int .u8 x.b30,.int .u8 x.b31]
def qkl:List Int->Option Dig
 | [x0,x1,x2,x3,x4,x5,x6,x7,x8,x9,x10,x11,x12,x13,x14,x15,x16,x17,x18,x19,x20,x21,x22,x23,x24,x25,x26,x27,x28,x29,x30,x31]=>some ⟨x0,x1,x2,x3,x4,x5,x6,x7,x8,x9,x10,x11,x12,x13,x14,x15,x16,x17,x18,x19,x20,x21,x22,x23,x24,x25,x26,x27,x28,x29,x30,x31⟩
 | _=>none
def Wj (cs:List T):Option Dig:=match u8L cs with
 | some l=>qkl l
 | none=>none
theorem qJC {l:List Int} {x:Dig} (h:qkl l=some x):l.map (T.int .u8)=WB x:=by
 unfold qkl at h;split at h
 . injection h with h;subst h;rfl
 . cases h
theorem qqX {cs:List T} {x:Dig} (h:Wj cs=some x):wF cs (WB x):=by
 unfold Wj at h;split at h
 . rename_i l hl;rw [qW4 hl,qJC h];exact wF.same _
 . cases h
def xb (x:Idn):List T:=WB x.patch++([.int .i64 x.n]++[])
def j9 (cs:List T):Option Idn:=
 XJ 32 Wj cs fun x0 r0=>
 XJ 1 (d1 (Zr .i64)) r0 fun x1 r1=>
 fin ⟨x0,x1⟩ r1
theorem z6 {cs:List T} {x:Idn} (h:j9 cs=some x):wF cs (xb x):=by
 unfold j9 at h;obtain ⟨x0,h0,h⟩:=qH h;obtain ⟨x1,h1,h⟩:=qH h;obtain ⟨hr,rfl⟩:=JF h;exact wF.app 32 rfl (qqX h0) (wF.app 1 rfl ((v7 fun c x h=>j4 h) h1) (wF.nil hr))
def qQp (x:Chg):List T:=[.int .i64 x.kind]++(xb x.file++([.int .i64 x.typ]++(xb x.parent++([.str x.name]++([.int .i64 x.mode]++([.str x.data]++(xb x.after++(xb x.before++([.sl false .str x.lines]++([.sl false .idk x.over]++[]))))))))))
def qxl (cs:List T):Option Chg:=
 XJ 1 (d1 (Zr .i64)) cs fun x0 r0=>
 XJ 33 j9 r0 fun x1 r1=>
 XJ 1 (d1 (Zr .i64)) r1 fun x2 r2=>
 XJ 33 j9 r2 fun x3 r3=>
 XJ 1 (d1 (qqP)) r3 fun x4 r4=>
 XJ 1 (d1 (Zr .i64)) r4 fun x5 r5=>
 XJ 1 (d1 (qqP)) r5 fun x6 r6=>
 XJ 33 j9 r6 fun x7 r7=>
 XJ 33 j9 r7 fun x8 r8=>
 XJ 1 (d1 (gSl .str)) r8 fun x9 r9=>
 XJ 1 (d1 (gSl .idk)) r9 fun x10 r10=>
 fin ⟨x0,x1,x2,x3,x4,x5,x6,x7,x8,x9,x10⟩ r10
theorem qk7 {cs:List T} {x:Chg} (h:qxl cs=some x):wF cs (qQp x):=by
 unfold qxl at h;obtain ⟨x0,h0,h⟩:=qH h;obtain ⟨x1,h1,h⟩:=qH h;obtain ⟨x2,h2,h⟩:=qH h;obtain ⟨x3,h3,h⟩:=qH h;obtain ⟨x4,h4,h⟩:=qH h;obtain ⟨x5,h5,h⟩:=qH h;obtain ⟨x6,h6,h⟩:=qH h;obtain ⟨x7,h7,h⟩:=qH h;obtain ⟨x8,h8,h⟩:=qH h;obtain ⟨x9,h9,h⟩:=qH h;obtain ⟨x10,h10,h⟩:=qH h;obtain ⟨hr,rfl⟩:=JF h;exact wF.app 1 rfl ((v7 fun c x h=>j4 h) h0) (wF.app 33 rfl (z6 h1) (wF.app 1 rfl ((v7 fun c x h=>j4 h) h2) (wF.app 33 rfl (z6 h3) (wF.app 1 rfl ((v7 fun c x h=>yq h) h4) (wF.app 1 rfl ((v7 fun c x h=>j4 h) h5) (wF.app 1 rfl ((v7 fun c x h=>yq h) h6) (wF.app 33 rfl (z6 h7) (wF.app 33 rfl (z6 h8) (wF.app 1 rfl ((v7 fun c x h=>YV h) h9) (wF.app 1 rfl ((v7 fun c x h=>YV h) h10) (wF.nil hr)))))))))))
def qQR (x:Atm):List T:=xb x.id++([.int .i64 x.kind]++(xb x.file++([.int .i64 x.typ]++(xb x.parent++([.str x.name]++([.int .i64 x.mode]++([.str x.data]++([.str x.text]++(xb x.frm++(xb x.til++([.sl false .idk x.over]++[])))))))))))
def qxI (cs:List T):Option Atm:=
 XJ 33 j9 cs fun x0 r0=>
 XJ 1 (d1 (Zr .i64)) r0 fun x1 r1=>
 XJ 33 j9 r1 fun x2 r2=>
 XJ 1 (d1 (Zr .i64)) r2 fun x3 r3=>
 XJ 33 j9 r3 fun x4 r4=>
 XJ 1 (d1 (qqP)) r4 fun x5 r5=>
 XJ 1 (d1 (Zr .i64)) r5 fun x6 r6=>
 XJ 1 (d1 (qqP)) r6 fun x7 r7=>
 XJ 1 (d1 (qqP)) r7 fun x8 r8=>
 XJ 33 j9 r8 fun x9 r9=>
 XJ 33 j9 r9 fun x10 r10=>
 XJ 1 (d1 (gSl .idk)) r10 fun x11 r11=>
 fin ⟨x0,x1,x2,x3,x4,x5,x6,x7,x8,x9,x10,x11⟩ r11
theorem qkK {cs:List T} {x:Atm} (h:qxI cs=some x):wF cs (qQR x):=by
 unfold qxI at h;obtain ⟨x0,h0,h⟩:=qH h;obtain ⟨x1,h1,h⟩:=qH h;obtain ⟨x2,h2,h⟩:=qH h;obtain ⟨x3,h3,h⟩:=qH h;obtain ⟨x4,h4,h⟩:=qH h;obtain ⟨x5,h5,h⟩:=qH h;obtain ⟨x6,h6,h⟩:=qH h;obtain ⟨x7,h7,h⟩:=qH h;obtain ⟨x8,h8,h⟩:=qH h;obtain ⟨x9,h9,h⟩:=qH h;obtain ⟨x10,h10,h⟩:=qH h;obtain ⟨x11,h11,h⟩:=qH h;obtain ⟨hr,rfl⟩:=JF h;exact wF.app 33 rfl (z6 h0) (wF.app 1 rfl ((v7 fun c x h=>j4 h) h1) (wF.app 33 rfl (z6 h2) (wF.app 1 rfl ((v7 fun c x h=>j4 h) h3) (wF.app 33 rfl (z6 h4) (wF.app 1 rfl ((v7 fun c x h=>yq h) h5) (wF.app 1 rfl ((v7 fun c x h=>j4 h) h6) (wF.app 1 rfl ((v7 fun c x h=>yq h) h7) (wF.app 1 rfl ((v7 fun c x h=>yq h) h8) (wF.app 33 rfl (z6 h9) (wF.app 33 rfl (z6 h10) (wF.app 1 rfl ((v7 fun c x h=>YV h) h11) (wF.nil hr))))))))))))
def qZL (x:Rfn):List T:=xb x.id++([.fd x.fits]++[])
def qxy (cs:List T):Option Rfn:=
 XJ 33 j9 cs fun x0 r0=>
 XJ 1 (d1 (gFd)) r0 fun x1 r1=>
 fin ⟨x0,x1⟩ r1
theorem qy6 {cs:List T} {x:Rfn} (h:qxy cs=some x):wF cs (qZL x):=by
 unfold qxy at h;obtain ⟨x0,h0,h⟩:=qH h;obtain ⟨x1,h1,h⟩:=qH h;obtain ⟨hr,rfl⟩:=JF h;exact wF.app 33 rfl (z6 h0) (wF.app 1 rfl ((v7 fun c x h=>qK5 h) h1) (wF.nil hr))
def enc:(e:El)->ty e->List T
 | .dig,x=>WB x
 | .idk,x=>xb x
 | .chg,x=>qQp x
 | .atm,x=>qQR x
 | .ref,x=>qZL x
 | .str,x=>[.str x]
 | .u8,x=>[.int .u8 x]
 | .i64,x=>[.int .i64 x]
 | .u32,x=>[.int .u32 x]
 | .ment,x=>[.int .i64 x.key,.int .i64 x.val]
 | .sexp,x=>[.bool x.isList,.str x.atom,.sl false .sexp x.list]
theorem zF (e:El) (x:ty e):(enc e x).length=sz e:=by cases e<;>rfl
theorem ye (e:El):0<sz e:=by cases e<;>decide
set_option maxRecDepth 100000 in
theorem yo (e:El) (x:ty e): ∀u∈enc e x,u.pure1=true:=Jbu.1 (by cases e<;>rfl)
def dec:(e:El)->List T->Option (ty e)
 | .dig,cs=>Wj cs
 | .idk,cs=>j9 cs
 | .chg,cs=>qxl cs
 | .atm,cs=>qxI cs
 | .ref,cs=>qxy cs
 | .str,[c0]=>qqP c0
 | .u8,[c0]=>Zr .u8 c0
 | .i64,[c0]=>Zr .i64 c0
 | .u32,[c0]=>Zr .u32 c0
 | .ment,[c0,c1]=>match Zr .i64 c0,Zr .i64 c1 with
  | some x0,some x1=>some ⟨x0,x1⟩
  | _,_=>none
 | .sexp,[c0,c1,c2]=>match qQh c0,qqP c1,gSl .sexp c2 with
  | some x0,some x1,some x2=>some ⟨x0,x1,x2⟩
  | _,_,_=>none
 | _,_=>none
def elTy:El->TypeId->Bool
 | .u8,t=>t==5
 | _,_=>true
def qQO:TypeId×Nat:=(189,2)
def cellW (cs:List T) (E:TypeId) (m:Nat):Bool:=match zk cs with
 | true=>E==qQO.1&&m==qQO.2
 | false=>true
theorem qvA {cs:List T} {E:TypeId} {m:Nat} (h:zk cs=false):cellW cs E m=true:=by unfold cellW;rw [h]
theorem yF {cs cs':List T} {E:TypeId} {m:Nat} (h:zk cs'=true->zk cs=true) (k:cellW cs E m=true):cellW cs' E m=true:=by
 unfold cellW at k ⊢;cases h':zk cs' with
 | false=>rfl
 | true=>rw [h h'] at k;exact k
def qyn:(e:El)->Option (List Int->List (ty e))
 | .u8=>some fun l=>l
 | _=>none
def qxp:(e:El)->Option (List (ty e)->List Int)
 | .u8=>some fun l=>l
 | _=>none
theorem qxr {e:El} {f:List Int->List (ty e)} (h:qyn e=some f) (l:List Int):(f l).map (enc e)=l.map fun n=>[.int .u8 n]:=by
 cases e<;>simp [qyn] at h
 subst h;rfl
theorem qhh {e:El} {f:List (ty e)->List Int} (h:qxp e=some f) (l:List (ty e)):l.map (enc e)=(f l).map fun n=>[T.int .u8 n]:=by
 cases e<;>simp [qxp] at h
 subst h;rfl
theorem qZA {e:El} {f:List Int->List (ty e)} (h:qyn e=some f):sz e=1:=by
 cases e<;>first | rfl | (simp [qyn] at h)
def quk:List El:=[.i64,.str,.dig,.idk,.chg]
def u8E:Option El:=some .u8
def qt4:TypeId->Option El:=fun t=>
 match Nat.beq t 138 with
 | true=>some .u32
 | false=>
 none
def Z9:List T:=((List.range 20).map fun i=>((10^i:Nat):Int)).map (T.int .u64)
def LaidG (ro:Nat->List T->Prop):Prop:=(ro 3 Z9/\ro 3 [.tu [.int .i64 ((20:Nat):Int)]])/\ ∃te pe,ro 2 [.cst (.iface te pe)]
theorem LaidG.mono {ro ro':Nat->List T->Prop} (h: ∀b cs,ro b cs->ro' b cs) (k:LaidG ro):LaidG ro':=
 ⟨⟨h _ _ k.1.1,h _ _ k.1.2⟩,by obtain ⟨te,pe,k2⟩:=k.2;exact ⟨te,pe,h _ _ k2⟩⟩
def qaj:TypeId->Option El:=fun t=>
 match Nat.beq t 158 with
 | true=>some .ment
 | false=>
 none
def kO:El->Option (T×T)
 | .ment=>some (.int .i64 0,.int .i64 0)
 | _=>none
theorem ws {e:El} {k v:T} (h:kO e=some (k,v)) (x:ty e): ∃kc vc,enc e x=[kc,vc]/\zM k kc=true/\zM v vc=true:=by
 cases e<;>simp [kO] at h<;>obtain ⟨rfl,rfl⟩:=h<;>exact ⟨_,_,rfl,rfl,rfl⟩
theorem KY (e:El) (cs:List T) (x:ty e) (h:dec e cs=some x):cs.length=sz e/\ ∀(j:Nat) (u:T),(enc e x)[j]? =some u-> ∃c,cs[j]? =some c/\Wk c u:=by
 cases e;case str=>
  rcases cs with _ | ⟨c0,_ | ⟨c1,r⟩⟩<;>simp only [dec,reduceCtorEq] at h
  refine ⟨rfl,fun j u hj=> ?_⟩
  rcases j with _ | j<;>simp [enc] at hj
  subst hj;exact ⟨_,rfl,yq h⟩
 case u8=>
  rcases cs with _ | ⟨c0,_ | ⟨c1,r⟩⟩<;>simp only [dec,reduceCtorEq] at h
  refine ⟨rfl,fun j u hj=> ?_⟩
  rcases j with _ | j<;>simp [enc] at hj
  subst hj;exact ⟨_,rfl,j4 h⟩
 case i64=>
  rcases cs with _ | ⟨c0,_ | ⟨c1,r⟩⟩<;>simp only [dec,reduceCtorEq] at h
  refine ⟨rfl,fun j u hj=> ?_⟩
  rcases j with _ | j<;>simp [enc] at hj
  subst hj;exact ⟨_,rfl,j4 h⟩
 case u32=>
  rcases cs with _ | ⟨c0,_ | ⟨c1,r⟩⟩<;>simp only [dec,reduceCtorEq] at h
  refine ⟨rfl,fun j u hj=> ?_⟩
  rcases j with _ | j<;>simp [enc] at hj
  subst hj;exact ⟨_,rfl,j4 h⟩
 case dig=>
  have:=qqX h;exact ⟨this.1,this.2⟩
 case idk=>
  have:=z6 h;exact ⟨this.1,this.2⟩
 case chg=>
  have:=qk7 h;exact ⟨this.1,this.2⟩
 case atm=>
  have:=qkK h;exact ⟨this.1,this.2⟩
 case ref=>
  have:=qy6 h;exact ⟨this.1,this.2⟩
 case ment=>
  rcases cs with _ | ⟨c0,_ | ⟨c1,_ | ⟨c2,r⟩⟩⟩<;>simp only [dec,reduceCtorEq] at h
  split at h
  . rename_i x0 x1 h0 h1;injection h with h;subst h;refine ⟨rfl,fun j u hj=> ?_⟩
    rcases j with _ | _ | j<;>simp [enc] at hj<;>subst hj
    . exact ⟨_,rfl,j4 h0⟩
    . exact ⟨_,rfl,j4 h1⟩
  . cases h
 case sexp=>
  rcases cs with _ | ⟨c0,_ | ⟨c1,_ | ⟨c2,_ | ⟨c3,r⟩⟩⟩⟩<;>simp only [dec,reduceCtorEq] at h
  split at h
  . rename_i x0 x1 x2 h0 h1 h2;injection h with h;subst h;refine ⟨rfl,fun j u hj=> ?_⟩
    rcases j with _ | _ | _ | j<;>simp [enc] at hj<;>subst hj
    . exact ⟨_,rfl,qyy h0⟩
    . exact ⟨_,rfl,yq h1⟩
    . exact ⟨_,rfl,YV h2⟩
  . cases h
end
section
open Go.RowKit
variable {P:Program}
def encs (e:El) (l:List (ty e)):List T:=(l.map (enc e)).flatten
theorem wW {e:El} {x:ty e} {l:List (ty e)}:encs e (x::l)=enc e x++encs e l:=rfl
theorem Vp {e:El} {l m:List (ty e)}:encs e (l++m)=encs e l++encs e m:=by simp [encs]
theorem qg {e:El} {l:List (ty e)}:(encs e l).length=l.length*sz e:=by
 induction l with
 | nil=>simp [encs]
 | cons x l ih=>rw [wW,Jak,zF,ih,Jaj,Nat.succ_mul,Nat.add_comm]
theorem kq {e:El}: ∀{l:List (ty e)} {n:Nat},(encs e l).take (n*sz e)=encs e (l.take n)
 | [],n=>by simp [encs]
 | x::l,0=>by simp [encs]
 | x::l,n+1=>by
  rw [wW,List.take_succ_cons,wW,Nat.succ_mul,Nat.add_comm,List.take_append,zF];rw [Jbm (by rw [zF];omega),show sz e+n*sz e-sz e=n*sz e by omega,kq]
theorem wY {e:El}: ∀{l:List (ty e)} {n:Nat},(encs e l).drop (n*sz e)=encs e (l.drop n)
 | [],n=>by simp [encs]
 | x::l,0=>by simp
 | x::l,n+1=>by
  rw [wW,List.drop_succ_cons,Nat.succ_mul,Nat.add_comm,List.drop_append,zF];rw [List.drop_of_length_le (by rw [zF];omega),show sz e+n*sz e-sz e=n*sz e by omega,wY,List.nil_append]
theorem qjJ {e:El} {l:List (ty e)} {i:Nat} {x:ty e} (h:l[i]? =some x):((encs e l).drop (i*sz e)).take (sz e)=enc e x:=by
 rw [wY];have:=Jai.1 h;obtain ⟨hi,rfl⟩:=this;rw [Jb1 hi,wW,List.take_left' (zF e _)]
theorem vl {e:El} {l:List (ty e)} {i j:Nat} {x:ty e} (h:l[i]? =some x) (hj:j<sz e):(encs e l)[i*sz e+j]? =(enc e x)[j]? :=by
 rw [<- qjJ h,Jbl hj,Jbo]
theorem zo {e:El} {l:List (ty e)}: ∀u∈encs e l,u.pure1=true:=by
 intro u hu;simp only [encs,List.mem_flatten,Jch] at hu;obtain ⟨_,⟨x,_,rfl⟩,hu⟩:=hu;exact yo e x u hu
structure OI where
 b:Nat
 len:Nat
 cap:Nat
inductive Ph (P:Program):Prop where
 | mk
structure G (P:Program) where
 ph:Ph P
 ro:Nat->List T->Prop
 ob:Nat->Nat->Option OI
 fx:Nat->Loop->Prop
 dm:Nat->Prop
def roundAt (P:Program) (y:FuncId):Option (Nat×Array Tmp×Code×Code):=
 match ytab y with
 | some yi=>qfm P yi.fn yi.key
 | none=>none
structure YRec (P:Program) (f:FuncId) (r:Loop):Prop where
 ready:r.state= .ready
 none:r.pending=none
 code:roundAt P f=some (r.tmps.size,r.params,r.assign,r.body)
def flatV (e:El) (l:List (ty e)):Array Value:=(l.flatMap fun x=>(enc e x).map tv).toArray
def qwY (b:Bool) (p:Int×ByteArray×Nat):Value:=match b with
 | true=> .string p.2.1
 | false=> .int .i64 p.1
def flatF (b:Bool) (l:List (Int×ByteArray×Nat)):Array Value:=(l.flatMap fun p=>[qwY b p,.func (.func p.2.2) #[] #[]]).toArray
def itrV (b n:Nat) (seen:Array Nat):Value:= .iface 1 (.tuple (#[.map (some b),.int .i64 (n:Nat)]++seen.map fun i=> .int .i64 (i:Nat)))
def leftI {α:Type} (all:List α) (seen:Array Nat):List α:=(all.zipIdx.filter fun p=> !seen.contains p.2).map (·.1)
inductive R (g:G P):T->Value->Prop where
 | undef (x:Value):R g .undef x
 | int (k:IntKind) (n:Int):R g (.int k n) (.int k n)
 | bool (b:Bool):R g (.bool b) (.bool b)
 | str (s:ByteArray):R g (.str s) (.string s)
 | cst (v:Value):R g (.cst v) v
 | ub (b:Bool):R g .ub (.bool b)
 | fp:R g .fp (.pointer none)
 | mp (k:Nat) (oi:OI):g.ob k 0=some oi->R g (.mp k) (.map (some oi.b))
 | as (k n:Nat) (oi:OI):g.ob k 0=some oi->R g (.as k n) (.slice (some ⟨oi.b,0,none⟩) n n)
 | me (e:El) (l:List (ty e)):R g (.ments e l) (.iface 0 (.tuple (flatV e l)))
 | fe (b:Bool) (l:List (Int×ByteArray×Nat)):(∀p∈l,(ytab p.2.2).isNone=true)->R g (.fents b l) (.iface 0 (.tuple (flatF b l)))
 | it (q:Nat) (e:El) (all left cur:List (ty e)) (oi:OI) (seen:Array Nat):g.ob q 0=some oi->left=leftI all seen->(∀x∈cur, ∃i,seen.back?=some i/\all[i]? =some x)->R g (.itr (some q) e all left cur) (itrV oi.b all.length seen)
 | iz (e:El) (all left cur:List (ty e)) (v:Value):v.oneCell'=true->R g (.itr none e all left cur) v
 | nil (A:Option Addr):R g .nil (.slice A 0 0)
 | sl (full:Bool) (e:El) (l:List (ty e)) (A:Option Addr) (c:Nat):l.length<=c->c<=maxLen->(full=true->c=l.length)->
   (l≠[]-> ∃b off cs,A=some ⟨b,off,none⟩/\g.ro b cs/\(cs.drop off).take (l.length*sz e)=encs e l)->R g (.sl full e l) (.slice A l.length c)
 | oa (e:El) (k ver:Nat) (oi:OI) (A:Option Addr):g.ob k ver=some oi->(oi.cap≠0->A=some ⟨oi.b,0,none⟩)->oi.len<=oi.cap->oi.cap<=maxLen->R g (.oa e k ver) (.slice A oi.len oi.cap)
 | os (e:El) (k ver off n:Nat) (oi:OI) (A:Option Addr) (c:Nat):g.ob k ver=some oi->off+n<=oi.len->(c≠0->A=some ⟨oi.b,off*sz e,none⟩)->oi.len<=off+c->c<=maxLen->oi.len<=oi.cap->R g (.os e k ver off n) (.slice A n c)
 | pt (k off:Nat) (oi:OI):g.ob k 0=some oi->R g (.pt k off) (.pointer (some ⟨oi.b,off,none⟩))
 | pe (e:El) (k ver i j:Nat) (oi:OI):g.ob k ver=some oi->oi.cap≠0->R g (.pe e k ver i j) (.pointer (some ⟨oi.b,i*sz e+j,none⟩))
 | pr (e:El) (x:ty e) (j b off:Nat) (cs:List T):g.ro b cs->(cs.drop off).take (sz e)=enc e x->R g (.pr e x j) (.pointer (some ⟨b,off+j,none⟩))
 | ag (cs:List T) (xs:Array Value):cs.length=xs.size->(∀(i:Nat) (c:T) (x:Value),cs[i]? =some c->xs[i]? =some x->R g c x)->(∀(i:Nat) (x:Value),xs[i]? =some x->x.oneCell'=true)->R g (.ag cs) (.agg xs)
 | tu (cs:List T) (xs:Array Value):cs.length=xs.size->(∀(i:Nat) (c:T) (x:Value),cs[i]? =some c->xs[i]? =some x->R g c x)->R g (.tu cs) (.tuple xs)
 | fn (f:FuncId) (as bs:List T) (xs ys:Array Value):(ytab f).isNone=true->as.length=xs.size->bs.length=ys.size->(∀(i:Nat) (c:T) (x:Value),as[i]? =some c->xs[i]? =some x->R g c x)->
   (∀(i:Nat) (c:T) (x:Value),bs[i]? =some c->ys[i]? =some x->R g c x)->R g (.fn f as bs) (.func (.func f) xs ys)
 | ic (t:TypeId) (v:T) (x:Value):R g v x->R g (.ic t v) (.iface t x)
 | yl (f:FuncId) (us:List T) (yi:YI) (l:Nat) (r:Loop):ytab f=some yi->g.fx l r->YRec P f r->us.length=yi.live.length->
   (∀(i:Nat) (u:T) (d:Tmp),us[i]? =some u->yi.live[i]? =some d->R g u (r.tmps.getD d Go.undef))->R g (.fn f [] us) (.func (.yield l) #[] #[])
 | fd0 (x:Fd) (f:Nat):fdOf x=(f,none)->R g (.fd x) (.func (.func f) #[] #[])
 | fd1 (x:Fd) (f:Nat) (e:El) (c:ty e) (b off:Nat) (cs:List T):fdOf x=(f,some ⟨e,c⟩)->g.ro b cs->(cs.drop off).take (sz e)=enc e c->R g (.fd x) (.func (.func f) #[] #[.pointer (some ⟨b,off+0,none⟩)])
 | al (e:El) (l:List (ty e)) (xs:Array Value):(encs e l).length=xs.size->(∀(i:Nat) (c:T) (x:Value),(encs e l)[i]? =some c->xs[i]? =some x->R g c x)->(∀(i:Nat) (x:Value),xs[i]? =some x->x.oneCell'=true)->R g (.al e l) (.agg xs)
structure G.le (g g':G P):Prop where
 ro: ∀b cs,g.ro b cs->g'.ro b cs
 ob: ∀k v oi,g.ob k v=some oi->g'.ob k v=some oi
 fx: ∀b o,g.fx b o->g'.fx b o
 dm: ∀b,g.dm b->g'.dm b
theorem G.le_refl (g:G P):g.le g:=⟨fun _ _ h=>h,fun _ _ _ h=>h,fun _ _ h=>h,fun _ h=>h⟩
theorem G.le.trans {g g' g'':G P} (h:g.le g') (k:g'.le g''):g.le g'':=⟨fun b cs e=>k.ro b cs (h.ro b cs e),fun i v oi e=>k.ob i v oi (h.ob i v oi e),fun b o e=>k.fx b o (h.fx b o e),fun b e=>k.dm b (h.dm b e)⟩
structure GL (g:G P) (st:List (Option Ob)) (g':G P):Prop where
 le:g.le g'
 hid: ∀(k u:Nat),st[k]? =some none->g'.ob k u=g.ob k u
theorem GL.refl (g:G P) (st:List (Option Ob)):GL g st g:=⟨G.le_refl g,fun _ _ _=>rfl⟩
theorem R.mono {g g':G P} {v:T} {x:Value} (h:R g v x) (hl:g.le g'):R g' v x:=by
 induction h with
 | undef x=>exact .undef x
 | int k n=>exact .int k n
 | bool b=>exact .bool b
 | str s=>exact .str s
 | cst v=>exact .cst v
 | ub b=>exact .ub b
 | fp=>exact .fp
 | mp k oi h1=>exact .mp k oi (hl.ob _ _ _ h1)
 | as k n oi h1=>exact .as k n oi (hl.ob _ _ _ h1)
 | me e l=>exact .me e l
 | fe b l h=>exact .fe b l h
 | it q e all left cur oi seen h1 h2 h3=>exact .it q e all left cur oi seen (hl.ob _ _ _ h1) h2 h3
 | iz e all left cur v h=>exact .iz e all left cur v h
 | nil A=>exact .nil A
 | sl full e l A c h1 h2 h3 h4=>exact .sl full e l A c h1 h2 h3 fun hne=>by obtain ⟨b,off,cs,k1,k2,k3⟩:=h4 hne;exact ⟨b,off,cs,k1,hl.ro _ _ k2,k3⟩
 | oa e k ver oi A h1 h2 h3 h4=>exact .oa e k ver oi A (hl.ob _ _ _ h1) h2 h3 h4
 | os e k ver off n oi A c h1 h2 h3 h4 h5 h6=>exact .os e k ver off n oi A c (hl.ob _ _ _ h1) h2 h3 h4 h5 h6
 | pt k off oi h1=>exact .pt k off oi (hl.ob _ _ _ h1)
 | pe e k ver i j oi h1 h2=>exact .pe e k ver i j oi (hl.ob _ _ _ h1) h2
 | pr e x j b off cs h1 h2=>exact .pr e x j b off cs (hl.ro _ _ h1) h2
 | ag cs xs h1 _ h3 ih=>exact .ag cs xs h1 ih h3
 | tu cs xs h1 _ ih=>exact .tu cs xs h1 ih
 | fn f as bs xs ys h0 h1 h2 _ _ ih1 ih2=>exact .fn f as bs xs ys h0 h1 h2 ih1 ih2
 | ic t v x _ ih=>exact .ic t v x ih
 | yl f us yi l r h1 h2 h3 h4 _ ih=>exact .yl f us yi l r h1 (hl.fx _ _ h2) h3 h4 ih
 | fd0 x f h=>exact .fd0 x f h
 | fd1 x f e c b off cs h h1 h2=>exact .fd1 x f e c b off cs h (hl.ro _ _ h1) h2
 | al e l xs h1 _ h3 ih=>exact .al e l xs h1 ih h3
theorem R.same {g g':G P} {v:T} {x:Value} (h:R g v x) (hr:g.ro=g'.ro) (ho:g.ob=g'.ob) (hf: ∀b o,g.fx b o->g'.fx b o):R g' v x:=by
 induction h with
 | undef x=>exact .undef x
 | int k n=>exact .int k n
 | bool b=>exact .bool b
 | str s=>exact .str s
 | cst v=>exact .cst v
 | ub b=>exact .ub b
 | fp=>exact .fp
 | mp k oi h1=>exact .mp k oi (by rw [<- ho];exact h1)
 | as k n oi h1=>exact .as k n oi (by rw [<- ho];exact h1)
 | me e l=>exact .me e l
 | fe b l h=>exact .fe b l h
 | it q e all left cur oi seen h1 h2 h3=>exact .it q e all left cur oi seen (by rw [<- ho];exact h1) h2 h3
 | iz e all left cur v h=>exact .iz e all left cur v h
 | nil A=>exact .nil A
 | sl full e l A c h1 h2 h3 h4=>exact .sl full e l A c h1 h2 h3 (by rw [<- hr];exact h4)
 | oa e k ver oi A h1 h2 h3 h4=>exact .oa e k ver oi A (by rw [<- ho];exact h1) h2 h3 h4
 | os e k ver off n oi A c h1 h2 h3 h4 h5 h6=>exact .os e k ver off n oi A c (by rw [<- ho];exact h1) h2 h3 h4 h5 h6
 | pt k off oi h1=>exact .pt k off oi (by rw [<- ho];exact h1)
 | pe e k ver i j oi h1 h2=>exact .pe e k ver i j oi (by rw [<- ho];exact h1) h2
 | pr e x j b off cs h1 h2=>exact .pr e x j b off cs (by rw [<- hr];exact h1) h2
 | ag cs xs h1 _ h3 ih=>exact .ag cs xs h1 ih h3
 | tu cs xs h1 _ ih=>exact .tu cs xs h1 ih
 | fn f as bs xs ys h0 h1 h2 _ _ ih1 ih2=>exact .fn f as bs xs ys h0 h1 h2 ih1 ih2
 | ic t v x _ ih=>exact .ic t v x ih
 | yl f us yi l r h1 h2 h3 h4 _ ih=>exact .yl f us yi l r h1 (hf _ _ h2) h3 h4 ih
 | fd0 x f h=>exact .fd0 x f h
 | fd1 x f e c b off cs h h1 h2=>exact .fd1 x f e c b off cs h (by rw [<- hr];exact h1) h2
 | al e l xs h1 _ h3 ih=>exact .al e l xs h1 ih h3
theorem qij (g:G P) (f:FuncId):R g (fnT f) (.func (.func f) #[] #[]):=by
 unfold fnT;split
 . rename_i h;exact .fn f [] [] _ _ h rfl rfl (by simp) (by simp)
 . exact .cst _
theorem qp6 {g:G P} {y:Fd} {x:Value} (h:R g (fdT y) x):R g (.fd y) x:=by
 have hy:=qKn y;unfold fdT at h;generalize hf:fdOf y=p at h hy;obtain ⟨f,o⟩:=p;cases o with
 | none=>
  simp only [qaE] at h;cases h with
  | fn _ _ _ xs ys _ h1 h2 _ _=>
   have e1:xs= #[]:=Jbn h1.symm;have e2:ys= #[]:=Jbn h2.symm;subst e1;subst e2;exact .fd0 y f hf
  | yl _ _ yi l r h1 _ _ _ _=>simp only at hy;rw [h1] at hy;cases hy
 | some q=>
  obtain ⟨e,c⟩:=q;simp only [qaE] at h;cases h with
  | fn _ _ _ xs ys _ h1 h2 _ h4=>
   have e1:xs= #[]:=Jbn h1.symm;subst e1;have h2:1=ys.size:=h2;have hlt:0<ys.size:=by omega
   have h5:=h4 0 _ ys[0] rfl (Jaw hlt);have e2:ys= #[ys[0]]:=by
    apply Array.ext
    . simp;omega
    . intro i h6 h7;have:i=0:=by omega
      subst this;rfl
   generalize ys[0]=z at h5 e2;subst e2;cases h5 with
   | pr _ _ _ b off cs k1 k2=>exact .fd1 y f e c b off cs hf k1 k2
  | yl _ _ yi l r h1 _ _ _ _=>simp only at hy;rw [h1] at hy;cases hy
theorem qCV {g:G P} {y:Fd} {x:Value} (h:R g (.fd y) x):R g (fdT y) x:=by
 have hy:=qKn y;cases h with
 | fd0 _ f h=>rw [h] at hy;unfold fdT;rw [h];exact .fn f [] [] _ _ hy rfl rfl (by simp) (by simp)
 | fd1 _ f e c b off cs h h1 h2=>
  rw [h] at hy;unfold fdT;rw [h];refine .fn f [] [.pr e c 0] _ _ hy rfl rfl (by simp) (fun i u x hu hx=> ?_)
  cases i with
  | zero=>simp at hu hx;subst hu;subst hx;exact .pr e c 0 b off cs h1 h2
  | succ i=>simp at hu
theorem R.wk {g:G P} {v u:T} {x:Value} (h:R g v x) (hw:Wk v u):R g u x:=by
 cases hw with
 | refl=>exact h
 | sl full e l=>
  cases h with
  | sl _ _ _ A c h1 h2 h3 h4=>exact .sl false e l A c h1 h2 (by simp) h4
 | nil e=>
  cases h with
  | nil A=>exact .sl false e [] A 0 (Jam _) (Jbt _) (by simp) (by simp)
 | fd y hv=>subst hv;exact qp6 h
theorem R.wk2 {g:G P} {v u:T} {x:Value} (h:R g v x) (hw:Wk2 dec enc v u):R g u x:=by
 cases hw with
 | wk hw=>exact h.wk hw
 | el e cs y hd _=>
  obtain ⟨h1,h2⟩:=KY e cs y hd;cases h with
  | ag _ xs k1 k2 k3=>
   refine .ag _ xs (by rw [zF, <- h1];exact k1) (fun i c z hc hz=> ?_) k3
   obtain ⟨c0,c1,c2⟩:=h2 i c hc;exact (k2 i c0 z c1 hz).wk c2
theorem dec_ok (e:El) (cs:List T) (x:ty e) (h:dec e cs=some x):cs.length=sz e/\ ∀(j:Nat) (u:T),(enc e x)[j]? =some u-> ∃c,cs[j]? =some c/\ ∀(g:G P) (z:Value),R g c z->R g u z:=by
 obtain ⟨h1,h2⟩:=KY e cs x h;exact ⟨h1,fun j u hj=>by obtain ⟨c,c1,c2⟩:=h2 j u hj;exact ⟨c,c1,fun g z hz=>hz.wk c2⟩⟩
theorem R.pure {g g':G P} {v:T} {x:Value} (h:R g v x) (hv:v.pure1=true) (hl: ∀b cs,g.ro b cs->g'.ro b cs):R g' v x:=by
 cases h with
 | sl full e l A c h1 h2 h3 h4=>exact .sl full e l A c h1 h2 h3 fun hne=>by obtain ⟨b,off,cs,k1,k2,k3⟩:=h4 hne;exact ⟨b,off,cs,k1,hl _ _ k2,k3⟩
 | int k n=>exact .int k n
 | bool b=>exact .bool b
 | str s=>exact .str s
 | cst=>exact .cst x
 | ub b=>exact .ub b
 | nil A=>exact .nil A
 | fd0 x f h=>exact .fd0 x f h
 | fd1 x f e c b off cs h h1 h2=>exact .fd1 x f e c b off cs h (hl _ _ h1) h2
 | _=>simp [T.pure1] at hv
structure Cells (g:G P) (cs:List T) (blk:Array Value):Prop where
 le:cs.length<=blk.size
 at_: ∀(j:Nat) (u:T),cs[j]? =some u-> ∃x:Value,blk[j]? =some x/\x.oneCell'=true/\R g u x
theorem Cells.mono {g g':G P} {cs:List T} {blk:Array Value} (h:Cells g cs blk) (hl:g.le g'):Cells g' cs blk:=
 ⟨h.le,fun j u hj=>by obtain ⟨x,h1,h2,h3⟩:=h.at_ j u hj;exact ⟨x,h1,h2,h3.mono hl⟩⟩
theorem Cells.pure {g g':G P} {cs:List T} {blk:Array Value} (h:Cells g cs blk) (hp: ∀u∈cs,u.pure1=true) (hl: ∀b cs,g.ro b cs->g'.ro b cs):Cells g' cs blk:=
 ⟨h.le,fun j u hj=>by obtain ⟨x,h1,h2,h3⟩:=h.at_ j u hj;exact ⟨x,h1,h2,h3.pure (hp u (Ja3 hj)) hl⟩⟩
theorem Cells.same {g g':G P} {cs:List T} {blk:Array Value} (h:Cells g cs blk) (hr:g.ro=g'.ro) (ho:g.ob=g'.ob) (hf: ∀b o,g.fx b o->g'.fx b o):Cells g' cs blk:=
 ⟨h.le,fun j u hj=>by obtain ⟨x,h1,h2,h3⟩:=h.at_ j u hj;exact ⟨x,h1,h2,h3.same hr ho hf⟩⟩
structure CellsR (g:G P) (cs:List T) (blk:Array Value):Prop where
 ex: ∀n:Nat,cs=[.tu [.int .i64 (n:Int)]]->blk.size=n
 le:cs.length<=blk.size
 at_: ∀(j:Nat) (u:T),cs[j]? =some u->u.pure1=true-> ∃x:Value,blk[j]? =some x/\x.oneCell'=true/\R g u x
theorem Cells.toR {g:G P} {cs:List T} {blk:Array Value} (h:Cells g cs blk):CellsR g cs blk:=⟨fun n e=>by
 subst e;obtain ⟨x,_,h2,h3⟩:=h.at_ 0 _ rfl;cases h3;simp [Value.oneCell'] at h2,h.le,fun j u hj _=>h.at_ j u hj⟩
theorem CellsR.mono {g g':G P} {cs:List T} {blk:Array Value} (h:CellsR g cs blk) (hl:g.le g'):CellsR g' cs blk:=
 ⟨h.ex,h.le,fun j u hj hp=>by obtain ⟨x,h1,h2,h3⟩:=h.at_ j u hj hp;exact ⟨x,h1,h2,h3.mono hl⟩⟩
theorem CellsR.pure {g g':G P} {cs:List T} {blk:Array Value} (h:CellsR g cs blk) (hl: ∀b cs,g.ro b cs->g'.ro b cs):CellsR g' cs blk:=
 ⟨h.ex,h.le,fun j u hj hp=>by obtain ⟨x,h1,h2,h3⟩:=h.at_ j u hj hp;exact ⟨x,h1,h2,h3.pure hp hl⟩⟩
def qZ:Ob->List T
 | .cells cs=>cs
 | .arr _ e l=>encs e l
def obVer:Ob->Nat
 | .cells _=>0
 | .arr ver _ _=>ver
def qn:Ob->Bool
 | .cells _=>false
 | .arr .. =>true
def obBlk (g:G P) (k:Nat) (o:Ob):Option Nat:=match g.ob k (obVer o)with
 | some oi=>if qn o=true/\oi.cap=0 then none else some oi.b
 | none=>none
def Own (g:G P) (st:St) (b:Nat):Prop:= ∃k o,st[k]? =some (some o)/\obBlk g k o=some b
def obFits (o:Ob) (oi:OI):Prop:=match o with
 | .cells _=>True
 | .arr _ _ l=>oi.len=l.length/\oi.len<=oi.cap/\oi.cap<=maxLen
def jt (o:Ob) (oi:OI) (E:TypeId) (m:Nat):Prop:=match o with
 | .cells cs=>cellW cs E m=true
 | .arr _ e _=>oi.cap*sz e<=m/\elTy e E=true
def vo:Ob->Bool
 | .cells cs=>meHead cs
 | .arr .. =>false
def jb (es:Array MapEntry):Array Value:= #[.iface 0 (.tuple (es.toList.flatMap fun e=>[e.key,e.val]).toArray)]
def j6 (es:Array MapEntry) (clk:Nat):Bool:=decide (es.toList.map (·.born)=List.range es.size/\clk=es.size)
def vO (m:Bool) (o:Option Obj):Option Obj:=match m with
 | false=>o
 | true=>match o with
  | some (.map es clk)=>bif j6 es clk then some (.cells (jb es) 0 (0,0))else none
  | some (.mapIter (some b) n seen l)=>bif decide (n=l)then some (.cells #[itrV b n seen] 0 (0,0))else none
  | _=>none
theorem yw {m:Bool} {h:Array Obj} {b:Nat} {o:Obj} (hv:vO m h[b]? =some o):b<h.size:=by
 rcases Nat.lt_or_ge b h.size with hl | hl
 . exact hl
 . rw [Array.getElem?_eq_none hl] at hv;cases m<;>cases hv
theorem qqY {m:Bool} {x:Option Obj} {c:Array Value} {t:TypeId} {fr:Nat×Nat} (h:vO m x=some (.cells c t fr)): ∃o,x=some o/\ ∀r,o≠ .loop r:=by
 cases x with
 | none=>cases m<;>cases h
 | some o=>exact ⟨o,rfl,fun r e=>by subst e;cases m<;>cases h⟩
def obRow (g:G P) (w:World) (o:Ob) (oi:OI):Prop:=(qn o=true/\oi.cap=0)∨((∀cs0, ¬g.ro oi.b cs0)/\ ∃(blk:Array Value) (E:TypeId) (fr:Nat×Nat),vO (vo o) w.heap[oi.b]? =some (.cells blk E fr)/\(∀q,q<blk.size-> ¬(fr.1<=q/\q<fr.2))/\
 Cells g (qZ o) blk/\jt o oi E blk.size)
structure Good (g:G P) (st:St) (w:World):Prop where
 ro: ∀b cs,g.ro b cs-> ∃(blk:Array Value) (E:TypeId) (fr:Nat×Nat),w.heap[b]? =some (.cells blk E fr)/\CellsR g cs blk
 obj: ∀k o,st[k]? =some (some o)-> ∃oi,g.ob k (obVer o)=some oi/\obFits o oi/\obRow g w o oi
 inj: ∀k k' o o' b,st[k]? =some (some o)->st[k']? =some (some o')->obBlk g k o=some b->obBlk g k' o'=some b->k=k'
 old: ∀k v oi,g.ob k v=some oi->k<st.length/\ ∀o,st[k]? =some (some o)->v<=obVer o
 fx: ∀b o,g.fx b o->w.heap[b]? =some (.loop o)
 dm: ∀b,g.dm b->w.heap[b]? =some (.deferred (some []))
 laid:LaidG g.ro
def Kept (g:G P) (st:St) (g':G P) (st':St) (k:Nat):Prop:= ∀o,st[k]? =some (some o)->match o with
 | .cells cs=> ∃cs',st'[k]? =some (some (.cells cs'))/\cs'.length=cs.length/\g'.ob k 0=g.ob k 0
 | .arr _ e _=> ∃ver' l',st'[k]? =some (some (.arr ver' e l'))
def Fixd (g:G P) (st:St) (g':G P) (st':St) (k:Nat):Prop:= ∀ver e l,st[k]? =some (some (.arr ver e l))-> ∃ver' l',st'[k]? =some (some (.arr ver' e l'))/\(ver'=0->ver=0/\g'.ob k 0=g.ob k 0)
structure B0 where
 b:Nat
 c:Nat
structure Step (b0:B0) (g:G P) (st:St) (w:World) (g':G P) (st':St) (w':World):Prop where
 os:w'.os=w.os
 tape:w'.tape=w.tape
 output:w'.output=w.output
 size:w.heap.size<=w'.heap.size
 block: ∀b,b<w.heap.size-> ¬Own g st b->w'.heap[b]? =w.heap[b]?
 ro: ∀b cs,g.ro b cs->g'.ro b cs
 own: ∀b,Own g' st' b->Own g st b∨w.heap.size<=b
 new: ∀b cs,g'.ro b cs->g.ro b cs∨Own g st b∨w.heap.size<=b
 kept: ∀k,k<b0.b->Kept g st g' st' k
 fixd: ∀k,k<b0.c->Fixd g st g' st' k
 fx: ∀b o,g.fx b o->g'.fx b o
 dm: ∀b,g.dm b->g'.dm b
 dmn: ∀b,g'.dm b->g.dm b∨w.heap.size<=b
section
variable {g g' g'':G P} {st st' st'':St} {w w' w'':World} {b0:B0}
theorem Kept.refl {k:Nat}:Kept g st g st k:=fun o ho=>by
 cases o with
 | cells cs=>exact ⟨cs,ho,rfl,rfl⟩
 | arr ver e l=>exact ⟨ver,l,ho⟩
theorem Fixd.refl {k:Nat}:Fixd g st g st k:=fun ver e l h=>⟨ver,l,h,fun e=>⟨e,rfl⟩⟩
theorem Step.refl:Step b0 g st w g st w:=
 ⟨rfl,rfl,rfl,Jam _,fun _ _ _=>rfl,fun _ _ h=>h,fun _ h=> .inl h,fun _ _ h=> .inl h,fun _ _=>Kept.refl,fun _ _=>Fixd.refl,fun _ _ h=>h,fun _ h=>h,fun _ h=> .inl h⟩
theorem Step.trans (h:Step b0 g st w g' st' w') (k:Step b0 g' st' w' g'' st'' w''):Step b0 g st w g'' st'' w'':=by
 refine ⟨k.os.trans h.os,k.tape.trans h.tape,k.output.trans h.output,Jau h.size k.size,fun b hb hn=> ?_,fun b cs e=>k.ro b cs (h.ro b cs e),fun b hb=> ?_,fun b cs e=> ?_,fun i hi o ho=> ?_,fun i hi ver e l ho=> ?_,fun b o e=>k.fx b o (h.fx b o e),fun b e=>k.dm b (h.dm b e),fun b e=>(k.dmn b e).elim (h.dmn b) fun e=> .inr (Jau h.size e)⟩
 . refine (k.block b (Jcd hb h.size) fun ho=> ?_).trans (h.block b hb hn)
   rcases h.own b ho with h1 | h1
   . exact hn h1
   . omega
 . rcases k.own b hb with h1 | h1
   . exact h.own b h1
   . exact .inr (Jau h.size h1)
 . rcases k.new b cs e with h1 | h1 | h1
   . exact h.new b cs h1
   . rcases h.own b h1 with h2 | h2
     . exact .inr (.inl h2)
     . exact .inr (.inr h2)
   . exact .inr (.inr (Jau h.size h1))
 . have h1:=h.kept i hi o ho;cases o with
   | cells cs=>
    obtain ⟨cs',a1,a2,a3⟩:=h1;obtain ⟨cs'',b1,b2,b3⟩:=k.kept i hi _ a1;exact ⟨cs'',b1,b2.trans a2,b3.trans a3⟩
   | arr ver e l=>
    obtain ⟨ver',l',a1⟩:=h1;exact k.kept i hi _ a1
 . obtain ⟨ver',l',a1,a2⟩:=h.fixd i hi ver e l ho;obtain ⟨ver'',l'',b1,b2⟩:=k.fixd i hi _ _ _ a1;refine ⟨ver'',l'',b1,fun e0=> ?_⟩
   obtain ⟨c1,c2⟩:=b2 e0;obtain ⟨d1,d2⟩:=a2 c1;exact ⟨d1,c2.trans d2⟩
theorem Step.le {c0:B0} (h:Step b0 g st w g' st' w') (hb:c0.b<=b0.b) (hc:c0.c<=b0.c):Step c0 g st w g' st' w':=
 ⟨h.os,h.tape,h.output,h.size,h.block,h.ro,h.own,h.new,fun k hk=>h.kept k (Jcd hk hb),fun k hk=>h.fixd k (Jcd hk hc),h.fx,h.dm,h.dmn⟩
theorem Good.lt_ro (hg:Good g st w) {b:Nat} {cs:List T} (h:g.ro b cs):b<w.heap.size:=by
 obtain ⟨blk,E,fr,h1,_⟩:=hg.ro b cs h;exact (Jar.1 h1).1
theorem Good.own (hg:Good g st w) {k:Nat} {o:Ob} {b:Nat} (h:st[k]? =some (some o)) (hb:obBlk g k o=some b): ∃oi,g.ob k (obVer o)=some oi/\oi.b=b/\obFits o oi/\(∀cs0, ¬g.ro b cs0)/\ ∃(blk:Array Value) (E:TypeId) (fr:Nat×Nat),vO (vo o) w.heap[b]? =some (.cells blk E fr)/\(∀q,q<blk.size-> ¬(fr.1<=q/\q<fr.2))/\
  Cells g (qZ o) blk/\jt o oi E blk.size:=by
 obtain ⟨oi,h1,h2,h3⟩:=hg.obj k o h;unfold obBlk at hb;rw [h1] at hb;simp only at hb;split at hb
 . cases hb
 . rename_i hn;injection hb with hb;subst hb;rcases h3 with h3 | h3
   . exact absurd h3 hn
   . exact ⟨oi,h1,rfl,h2,h3.1,h3.2⟩
theorem Good.lt_own (hg:Good g st w) {b:Nat} (h:Own g st b):b<w.heap.size:=by
 obtain ⟨k,o,h1,h2⟩:=h;obtain ⟨_,_,_,_,_,blk,E,fr,h3,_⟩:=hg.own h1 h2;exact yw h3
theorem Good.own_ro (hg:Good g st w) {b:Nat} {cs:List T} (h:Own g st b) (hr:g.ro b cs):False:=by
 obtain ⟨k,o,h1,h2⟩:=h;obtain ⟨_,_,_,_,h3,_⟩:=hg.own h1 h2;exact h3 _ hr
class Bd (P:Program) where
 bd:List Deferred
 fn: ∀d∈bd, ∀D,d≠{target:= .collected D,args:= #[]}
 strict:Bool
instance (priority:=low) bdNone:Bd P:=⟨[],fun _ h=>by simp at h,false⟩
structure RelT [Bd P] (g:G P) (n:Nat) (t:Tm) (a:Act):Prop where
 size:a.tmps.size=n
 defers: ∃ms,a.defers=ms++Bd.bd P/\(Bd.strict P=true->ms=[])/\ ∀d∈ms, ∃D,d={target:= .collected D,args:= #[]}/\g.dm D
 once:a.defers.Nodup
 val: ∀i,R g (get t i) (a.tmps.getD i Go.undef)
theorem RelT.mono [Bd P] {n:Nat} {t:Tm} {a:Act} (h:RelT g n t a) (hl:g.le g'):RelT g' n t a:=⟨h.size,by obtain ⟨ms,k1,k0,k2⟩:=h.defers;exact ⟨ms,k1,k0,fun d hd=>by obtain ⟨D,h1,h2⟩:=k2 d hd;exact ⟨D,h1,hl.dm _ h2⟩⟩,h.once,fun i=>(h.val i).mono hl⟩
theorem RelT.put [Bd P] {n d:Nat} {t:Tm} {a:Act} {v:T} {x:Value} (h:RelT g n t a) (hd:d<n) (hv:R g v x):RelT g n (put t d v) (a.put (some d) x):=by
 refine ⟨by simp [Act.put,h.size],h.defers,h.once,fun i=> ?_⟩
 rw [yj];by_cases e:i=d
 . subst e;simp only [if_true,Act.put,Jbb,Ja6];rw [if_pos (by rw [h.size];exact hd)]
   exact hv
 . simp only [if_neg e,Act.put,Jbb,Ja6];rw [if_neg (Ne.symm e)];simpa using h.val i
theorem Good.not_cells (hg:Good g st w) {b:Nat} {o:Obj} (h:w.heap[b]? =some o) (hn: ∀m c t fr,vO m (some o)≠some (.cells c t fr)) (ho:Own g st b):False:=by
 obtain ⟨k,o',k1,k2⟩:=ho;obtain ⟨_,_,_,_,_,blk,E,fr,h3,_⟩:=hg.own k1 k2;rw [h] at h3;exact hn _ _ _ _ h3
theorem Good.fx_keep (hg:Good g st w) (hs: ∀b,b<w.heap.size-> ¬Own g st b->w'.heap[b]? =w.heap[b]?) {b:Nat} {o:Loop} (h:g.fx b o):w'.heap[b]? =some (.loop o):=by
 have h1:=hg.fx b o h;rw [hs b (Jar.1 h1).1 fun ho=>hg.not_cells h1 (by intro m;cases m<;>simp [vO]) ho]
 exact h1
theorem Good.dm_keep (hg:Good g st w) (hs: ∀b,b<w.heap.size-> ¬Own g st b->w'.heap[b]? =w.heap[b]?) {b:Nat} (h:g.dm b):w'.heap[b]? =some (.deferred (some [])):=by
 have h1:=hg.dm b h;rw [hs b (Jar.1 h1).1 fun ho=>hg.not_cells h1 (by intro m;cases m<;>simp [vO]) ho]
 exact h1
theorem qZu (hg:Good g st w) {cs:List T} {blk:Array Value} {E:TypeId} (hc:Cells g cs blk) (hw:w'.heap=w.heap.push (.cells blk E)) (hos:w'.os=w.os) (htape:w'.tape=w.tape) (hout:w'.output=w.output):
  Good {g with ro:=fun b cs0=>(b=w.heap.size/\cs0=cs)∨g.ro b cs0} st w'/\(∀b0,Step b0 g st w {g with ro:=fun b cs0=>(b=w.heap.size/\cs0=cs)∨g.ro b cs0} st w')/\g.le {g with ro:=fun b cs0=>(b=w.heap.size/\cs0=cs)∨g.ro b cs0}:=by
 have hro: ∀b cs',g.ro b cs'->(b=w.heap.size/\cs'=cs)∨g.ro b cs':=fun b cs' h=> .inr h
 have hle:g.le {g with ro:=fun b cs0=>(b=w.heap.size/\cs0=cs)∨g.ro b cs0}:=⟨hro,fun _ _ _ h=>h,fun _ _ h=>h,fun _ h=>h⟩
 have hblk: ∀b,b<w.heap.size->w'.heap[b]? =w.heap[b]? :=fun b hb=>by rw [hw];simp [Array.getElem?_push,Nat.ne_of_lt hb]
 have hsz:w.heap.size<=w'.heap.size:=by rw [hw];simp
 refine ⟨⟨fun b cs' h=> ?_,fun k o h=> ?_,fun k k' o o' b h1 h2 h3 h4=>hg.inj k k' o o' b h1 h2 h3 h4,hg.old,fun b o h=>hg.fx_keep (fun b hb _=>hblk b hb) h,fun b h=>hg.dm_keep (fun b hb _=>hblk b hb) h,LaidG.mono hro hg.laid⟩,fun b0=>⟨hos,htape,hout,hsz,fun b hb _=>hblk b hb,hro,fun b h=> .inl h,fun b cs' h=> ?_,fun k _=>Kept.refl,fun k _=>Fixd.refl,fun _ _ h=>h,fun _ h=>h,fun _ h=> .inl h⟩,hle⟩
 . rcases h with ⟨rfl,rfl⟩ | h
   . exact ⟨blk,E,(0,0),by rw [hw];simp,(hc.mono hle).toR⟩
   . obtain ⟨blk',E',fr,h1,h2⟩:=hg.ro b cs' h;exact ⟨blk',E',fr,by rw [hblk b (hg.lt_ro h)];exact h1,h2.mono hle⟩
 . obtain ⟨oi,h1,h2,h3⟩:=hg.obj k o h;refine ⟨oi,h1,h2, ?_⟩;rcases h3 with h3 | ⟨h3,blk',E',fr,h4,h5,h6,h7⟩
   . exact .inl h3
   . have hlt:=yw h4;exact .inr ⟨fun cs0 h0=>by
      rcases h0 with ⟨h0,_⟩ | h0
      . omega
      . exact h3 _ h0,blk',E',fr,by rw [hblk _ hlt];exact h4,h5,h6.mono hle,h7⟩
 . rcases h with ⟨h,_⟩ | h
   . exact .inr (.inr (by omega))
   . exact .inl h
def G.set (g:G P) (k v:Nat) (oi:OI):G P:={g with ob:=fun i u=>if i=k/\u=v then some oi else g.ob i u}
def qlM (g:G P) (k:Nat) (oi:OI) (o':Ob):Ob->Prop
 | .cells cs=> ∃cs',o'= .cells cs'/\cs'.length=cs.length/\g.ob k 0=some oi
 | .arr _ e _=> ∃ver' l',o'= .arr ver' e l'
theorem ja {g:G P} {st:St} {k v:Nat} {oi:OI} (h:(∃o,st[k]? =some (some o))∨k=st.length): ∀(k' u:Nat),st[k']? =some none->(g.set k v oi).ob k' u=g.ob k' u:=by
 intro k' u hk;simp only [G.set];rw [if_neg];rintro ⟨rfl,_⟩;rcases h with ⟨o,h⟩ | h
 . rw [h] at hk;cases hk
 . have:=(Jai.1 hk).1;omega
theorem zv (hg:Good g st w) {k v:Nat} {o':Ob} {oi:OI} (hst: ∀i,st'[i]? =if i=k then some (some o')else st[i]?) (hk:k<=st.length) (hl:st.length<=st'.length) (hv:obVer o'=v)
  (hnew:g.ob k v=none∨g.ob k v=some oi) (hver: ∀u oi,g.ob k u=some oi->u<=v) (hfit:obFits o' oi)
  (hb: ¬(qn o'=true/\oi.cap=0)->w.heap.size<=oi.b∨ ∃o,st[k]? =some (some o)/\obBlk g k o=some oi.b)
  (hos:w'.os=w.os) (htape:w'.tape=w.tape) (hout:w'.output=w.output) (hsz:w.heap.size<=w'.heap.size)
  (hfr: ∀b,b<w.heap.size->(∀o,st[k]? =some (some o)->obBlk g k o≠some b)->w'.heap[b]? =w.heap[b]?)
  (hrow: ¬(qn o'=true/\oi.cap=0)-> ∃(blk:Array Value) (E:TypeId) (fr:Nat×Nat),vO (vo o') w'.heap[oi.b]? =some (.cells blk E fr)/\(∀q,q<blk.size-> ¬(fr.1<=q/\q<fr.2))/\
   Cells g (qZ o') blk/\jt o' oi E blk.size)
  (hkept: ∀o,st[k]? =some (some o)->qlM g k oi o' o):
  Good (g.set k v oi) st' w'/\(∀b0,Step b0 g st w (g.set k v oi) st' w')/\g.le (g.set k v oi):=by
 have hle:g.le (g.set k v oi):=⟨fun _ _ h=>h,fun i u oi' h=>by
  simp only [G.set];split
  . rename_i e;obtain ⟨rfl,rfl⟩:=e;rcases hnew with e | e
    . rw [e] at h;cases h
    . rw [<- e];exact h
  . exact h,fun _ _ h=>h,fun _ h=>h⟩
 have hob:(g.set k v oi).ob k v=some oi:=by simp [G.set]
 have hother: ∀i u,i≠k->(g.set k v oi).ob i u=g.ob i u:=fun i u h=>by simp [G.set,h]
 have hblkk:obBlk (g.set k v oi) k o'=if qn o'=true/\oi.cap=0 then none else some oi.b:=by
  unfold obBlk;rw [hv,hob]
 have hblko: ∀i o,i≠k->obBlk (g.set k v oi) i o=obBlk g i o:=fun i o h=>by unfold obBlk;rw [hother i _ h]
 have hS: ∀b,b<w.heap.size-> ¬(∃o,st[k]? =some (some o)/\obBlk g k o=some b)->w'.heap[b]? =w.heap[b]? :=fun b hb' hn=>hfr b hb' fun o h1 h2=>hn ⟨o,h1,h2⟩
 have hown: ∀b,Own (g.set k v oi) st' b->Own g st b∨w.heap.size<=b:=by
  rintro b ⟨i,o,h1,h2⟩;rw [hst] at h1;split at h1
  . rename_i e;subst e;simp only [Jah] at h1;subst h1;rw [hblkk] at h2;split at h2
    . cases h2
    . rename_i hn;injection h2 with h2;subst h2;rcases hb hn with h3 | ⟨o,h3,h4⟩
      . exact .inr h3
      . exact .inl ⟨i,o,h3,h4⟩
  . rename_i e;rw [hblko i o e] at h2;exact .inl ⟨i,o,h1,h2⟩
 refine ⟨⟨fun b cs h=> ?_,fun i o h=> ?_,fun i i' o1 o2 b h1 h2 h3 h4=> ?_,fun i u oi' h=> ?_,fun b o h=>hg.fx_keep (fun b hb hn=>hS b hb fun ⟨o2,h3,h4⟩=>hn ⟨k,o2,h3,h4⟩) h,fun b h=>hg.dm_keep (fun b hb hn=>hS b hb fun ⟨o2,h3,h4⟩=>hn ⟨k,o2,h3,h4⟩) h,hg.laid⟩,fun b0=>⟨hos,htape,hout,hsz,fun b hb' hn=>hS b hb' fun ⟨o,h1,h2⟩=>hn ⟨k,o,h1,h2⟩,fun _ _ h=>h,hown,fun _ _ h=> .inl h,fun i _ o ho=> ?_,fun i _ ver e l ho=> ?_,fun _ _ h=>h,fun _ h=>h,fun _ h=> .inl h⟩,hle⟩
 . obtain ⟨blk,E,fr,h1,h2⟩:=hg.ro b cs h;refine ⟨blk,E,fr, ?_,h2.mono hle⟩;rw [hS b (hg.lt_ro h) fun ⟨o,h3,h4⟩=>hg.own_ro ⟨k,o,h3,h4⟩ h]
   exact h1
 . rw [hst] at h;split at h
   . rename_i e;subst e;simp only [Jah] at h;subst h;refine ⟨oi,by rw [hv];exact hob,hfit, ?_⟩
     by_cases hn:qn o'=true/\oi.cap=0
     . exact .inl hn
     . obtain ⟨blk,E,fr,h1,h2,h3,h4⟩:=hrow hn;refine .inr ⟨?_,blk,E,fr,h1,h2,h3.mono hle,h4⟩;show (∀cs0, ¬g.ro oi.b cs0)
       rcases hb hn with h5 | ⟨o,h5,h6⟩
       . intro cs hr;have:=hg.lt_ro hr;omega
       . intro cs hr;exact (hg.own_ro ⟨i,o,h5,h6⟩ hr).elim
   . rename_i e;obtain ⟨oi',h1,h2,h3⟩:=hg.obj i o h;refine ⟨oi',by rw [hother i _ e];exact h1,h2, ?_⟩
     rcases h3 with h3 | ⟨h3,blk,E,fr,h4,h5,h6,h7⟩
     . exact .inl h3
     . by_cases hn:qn o=true/\oi'.cap=0
       . exact .inl hn
       have hlt:=yw h4;refine .inr ⟨h3,blk,E,fr, ?_,h5,h6.mono hle,h7⟩;rw [hS _ hlt fun ⟨o2,h8,h9⟩=>e (hg.inj i k o o2 oi'.b h h8 (by unfold obBlk;rw [h1];simp only;rw [if_neg hn]) h9)]
       exact h4
 . rw [hst] at h1 h2;by_cases e1:i=k<;>by_cases e2:i'=k
   . rw [e1,e2]
   . exfalso;subst e1;simp only [if_true,Jah] at h1;subst h1;rw [if_neg e2] at h2;rw [hblko i' o2 e2] at h4;rw [hblkk] at h3;split at h3
     . cases h3
     . rename_i hn;injection h3 with h3;subst h3;rcases hb hn with h5 | ⟨o,h5,h6⟩
       . have:=hg.lt_own ⟨i',o2,h2,h4⟩;omega
       . exact e2 (hg.inj i' i o2 o _ h2 h5 h4 h6)
   . exfalso;subst e2;simp only [if_true,Jah] at h2;subst h2;rw [if_neg e1] at h1;rw [hblko i o1 e1] at h3;rw [hblkk] at h4;split at h4
     . cases h4
     . rename_i hn;injection h4 with h4;subst h4;rcases hb hn with h5 | ⟨o,h5,h6⟩
       . have:=hg.lt_own ⟨i,o1,h1,h3⟩;omega
       . exact e1 (hg.inj i i' o1 o _ h1 h5 h3 h6)
   . rw [if_neg e1] at h1;rw [if_neg e2] at h2;rw [hblko i o1 e1] at h3;rw [hblko i' o2 e2] at h4;exact hg.inj i i' o1 o2 b h1 h2 h3 h4
 . have hkl:k<st'.length:=by
    have:=hst k;rw [if_pos rfl] at this;exact (Jai.1 this).1
   by_cases e:i=k
   . subst e;refine ⟨hkl,fun o ho=> ?_⟩
     rw [hst,if_pos rfl] at ho;simp only [Jah] at ho;subst ho;rw [hv];simp only [G.set] at h;split at h
     . rename_i e2;omega
     . exact hver u oi' h
   . rw [hother i u e] at h;obtain ⟨h1,h2⟩:=hg.old i u oi' h;refine ⟨by omega,fun o ho=> ?_⟩
     rw [hst,if_neg e] at ho;exact h2 o ho
 . by_cases e:i=k
   . subst e;have:=hkept o ho;cases o with
     | cells cs=>
      obtain ⟨cs',rfl,h1,h2⟩:=this;exact ⟨cs',by rw [hst,if_pos rfl],h1,by rw [h2];simp only [obVer] at hv;subst hv;exact hob⟩
     | arr ver e l=>
      obtain ⟨ver',l',rfl⟩:=this;exact ⟨ver',l',by rw [hst,if_pos rfl]⟩
   . cases o with
     | cells cs=>exact ⟨cs,by rw [hst,if_neg e];exact ho,rfl,hother i 0 e⟩
     | arr ver e' l=>exact ⟨ver,l,by rw [hst,if_neg e];exact ho⟩
 . by_cases e1:i=k
   . subst e1;obtain ⟨ver',l',rfl⟩: ∃ver' l',o'= .arr ver' e l':=hkept _ ho;refine ⟨ver',l',by rw [hst,if_pos rfl],fun e0=> ?_⟩
     simp only [obVer] at hv;obtain ⟨oi0,h1,_⟩:=hg.obj i _ ho;simp only [obVer] at h1;have:=hver _ _ h1;have h0:ver=0:=by omega
     subst h0;refine ⟨rfl, ?_⟩;have hv0:v=0:=by omega
     subst hv0;rcases hnew with hn | hn
     . rw [hn] at h1;cases h1
     . rw [hob,hn]
   . exact ⟨ver,l,by rw [hst,if_neg e1];exact ho,fun e0=>⟨e0,hother i 0 e1⟩⟩
theorem qzg (hg:Good g st w) {n:Nat}:Good g st {w with drawn:=n}/\ ∀b0,Step b0 g st w g st {w with drawn:=n}:=
 ⟨⟨hg.ro,hg.obj,hg.inj,hg.old,hg.fx,hg.dm,hg.laid⟩,fun _=>⟨rfl,rfl,rfl,Jam _,fun _ _ _=>rfl,fun _ _ h=>h,fun _ h=> .inl h,fun _ _ h=> .inl h,fun _ _=>Kept.refl,fun _ _=>Fixd.refl,fun _ _ h=>h,fun _ h=>h,fun _ h=> .inl h⟩⟩
end
end
section
open Go.RowKit
inductive Srt where
 | slice (e:TypeId)
 | array (n:Nat) (e:TypeId)
 | struct (fs:List (Nat×TypeId))
 | string
 | int (k:IntKind)
 | bool
 | iface
 | map (k e:TypeId)
 | other
def qoB:Srt->Bool
 | .iface=>false
 | .other=>false
 | _=>true
structure TI where
 agg:Bool
 size:Nat
 bytes:Nat
 srt:Srt
 zero:Option (List T)
 el:Option El
 eqs:Option (List Nat)
abbrev TD:=List (Nat×TI)
def zx:TD->TypeId->Option TI
 | [],_=>none
 | (j,x)::r,t=>if t=j then some x else zx r t
def atI {α:Type} (l:List α) (i:Nat) (K:α->Prop):Prop:= ∃x,l[i]? =some x/\K x
def At {α:Type} (l:List α) (i:Int) (K:α->Prop):Prop:=0<=i/\atI l i.toNat K
def qs (s:ByteArray) (i:Int) (K:Int->Prop):Prop:=0<=i/\ ∃b:UInt8,s[i.toNat]? =some b/\K (b.toNat:Int)
def ql (n bytes:Nat) (A:Prop):Prop:=n*bytes<=140737488355328/\A
def xA (c A:Prop):Prop:=c/\A
def zp (s:ByteArray):List Int:=s.data.toList.map fun b=>(b.toNat:Int)
def xk (l:List Int):ByteArray:=⟨(l.map fun n=>UInt8.ofNat n.toNat).toArray⟩
inductive Res (α β:Type) where
 | ok (a:α)
 | err (e:β)
def Res.go {α β:Type} (o:Res α β) (K:α->Prop) (X:β->Prop):Prop:=match o with
 | .ok a=>K a
 | .err e=>X e
abbrev Kn:=T->St->Prop
def vK (cs:List T) (o:Nat) (xs:List T):List T:=cs.take o++(xs++cs.drop (o+xs.length))
def jS (agg:Bool) (size:Nat) (cs:List T) (off:Nat) (K:T->Prop):Prop:=
 match agg with
 | true=>match decide (off+size<=cs.length)with
  | true=>K (.ag ((cs.drop off).take size))
  | false=>False
 | false=>match cs[off]? with
  | some u=>K u
  | none=>False
def ju (s:St) (e:El) (k ver:Nat):Option (List (ty e)):=
 match rd s k with
 | some (.arr v e' l)=>if h:e'=e then if v=ver then some (jX h l)else none else none
 | _=>none
def Qd (ti:TI) (s:St) (a:T) (K:T->Prop):Prop:=
 match a with
 | .pt k off=>match rd s k with
  | some (.cells cs)=>match meHead cs with
   | false=>jS ti.agg ti.size cs off K
   | true=>False
  | _=>False
 | .pr e x j=>jS ti.agg ti.size (enc e x) j K
 | .pe e k ver i j=>match ju s e k ver with
  | some l=>match Nat.blt (sz e) ti.size with
   | true=>match i,j,ti.agg with
    | 0,0,true=>xA (l.length*sz e=ti.size) (K (.al e l))
    | _,_,_=>False
   | false=>atI l i fun x=>jS ti.agg ti.size (enc e x) j K
  | none=>False
 | _=>False
def Wx (ti:TI) (s:St) (a:T) (e':El) (l':List (ty e')) (K:St->Prop):Prop:=
 match a with
 | .pe e k ver 0 0=>if h:e'=e then match ju s e k ver with
  | some l=>xA (l'.length*sz e=ti.size/\l'.length=l.length) (K (s.set k (some (.arr ver e (jX h l')))))
  | none=>False else False
 | _=>False
def qrZ:T->Option ((e:El)×List (ty e))
 | .al e l=>some ⟨e,l⟩
 | _=>none
def kb (ti:TI) (s:St) (a v:T) (K:St->Prop):Prop:=
 match qrZ v with
 | some ⟨e',l'⟩=>Wx ti s a e' l' K
 | none=>match cellsOf v with
 | some xs=>match decide (xs.length=ti.size)with
  | true=>match a with
   | .pt k off=>match rd s k with
    | some (.cells cs)=>match !meHead cs&&decide (off+xs.length<=cs.length)with
     | true=>K (s.set k (some (.cells (vK cs off xs))))
     | false=>False
    | _=>False
   | .pe e k ver i j=>match ju s e k ver with
    | some l=>atI l i fun x=>match decide (j+xs.length<=sz e)with
     | true=>match dec e (vK (enc e x) j xs)with
      | some y=>K (s.set k (some (.arr ver e (l.set i y))))
      | none=>False
     | false=>False
    | none=>False
   | _=>False
  | false=>False
 | none=>False
def qzC (place:Nat->Option (Nat×Nat)) (cells:List T):List (Nat×T)->Option (List T)
 | []=>some cells
 | (i,v)::r=>match place i,cellsOf v with
  | some (off,size),some xs=>match decide (xs.length=size/\off+size<=cells.length)with
   | true=>qzC place (vK cells off xs) r
   | false=>none
  | _,_=>none
def qQI (D:TD) (s:Srt):Option (Nat->Option (Nat×Nat)):=
 match s with
 | .struct fs=>some fun i=>match fs[i]? with
  | some (off,t)=>match zx D t with
   | some ti=>some (off,ti.size)
   | none=>none
  | none=>none
 | .array _ e=>match zx D e with
  | some ti=>some fun k=>some (k*ti.size,ti.size)
  | none=>none
 | _=>none
def qQw (e:El):Nat->List T->Option (List (ty e))
 | 0,_=>some []
 | n+1,cs=>match dec e (cs.take (sz e)),qQw e n (cs.drop (sz e))with
  | some x,some l=>some (x::l)
  | _,_=>none
def xE (s:St) (e:El) (v:T) (K:List (ty e)->Prop):Prop:=
 match v with
 | .nil=>K []
 | .sl _ e' l=>if h:e'=e then K (jX h l)else False
 | .oa e' k ver=>if e'=e then match ju s e k ver with
  | some l=>K l
  | none=>False else False
 | .os e' k ver off n=>if e'=e then match ju s e k ver with
  | some l=>K ((l.drop off).take n)
  | none=>False else False
 | _=>False
def qya (s:St) (v:T) (K:Nat->Prop):Prop:=
 match v with
 | .nil=>K 0
 | .sl _ _ l=>K l.length
 | .oa e k ver=>match ju s e k ver with
  | some l=>K l.length
  | none=>False
 | .os _ _ _ _ n=>K n
 | _=>False
def asInt (v:T) (K:Int->Prop):Prop:=
 match v with
 | .int _ n=>K n
 | _=>False
def xl (v:Option T) (d:Int) (K:Int->Prop):Prop:=
 match v with
 | some v=>asInt v K
 | none=>K d
def qgJ (b:ByteArray) (lo hi:Option T) (K:T->Prop):Prop:=
 xl hi (b.size:Int) fun h=>xl lo 0 fun l=>0<=l/\l<=h/\h<=(b.size:Int)/\K (.str (b.extract l.toNat h.toNat))
def vI (e0:El) (s:St) (x:T) (lo hi mx:Option T) (K:T->Prop):Prop:=
 match mx with
 | some m=>match hi with
  | some h=>match x with
   | .sl _ e xs=>if e0=e then asInt m fun m=>xl lo 0 fun l=>asInt h fun h=>0<=l/\l<=h/\h=m/\m<=(xs.length:Int)/\K (.sl true e ((xs.take h.toNat).drop l.toNat))else False
   | .nil=>asInt m fun m=>xl lo 0 fun l=>asInt h fun h=>l=0/\h=0/\m=0/\K .nil
   | _=>False
  | none=>False
 | none=>match x with
  | .sl full e xs=>if e0=e then match hi with
   | some h=>asInt h fun h=>xl lo 0 fun l=>0<=l/\l<=h/\h<=(xs.length:Int)/\match full with
    | true=>bif decide (h=(xs.length:Int))then K (.sl true e ((xs.take h.toNat).drop l.toNat))else K (.sl false e ((xs.take h.toNat).drop l.toNat))
    | false=>K (.sl false e ((xs.take h.toNat).drop l.toNat))
   | none=>xl lo 0 fun l=>0<=l/\l<=(xs.length:Int)/\K (.sl full e (xs.drop l.toNat))else False
  | .nil=>xl hi 0 fun h=>xl lo 0 fun l=>l=0/\h=0/\K .nil
  | .oa e k ver=>if e0=e then match ju s e k ver with
   | some xs=>xl hi (xs.length:Int) fun h=>xl lo 0 fun l=>0<=l/\l<=h/\h<=(xs.length:Int)/\K (.os e k ver l.toNat (h.toNat-l.toNat))
   | none=>False else False
  | .os e k ver off n=>if e0=e then match ju s e k ver with
   | some xs=>xl hi (n:Int) fun h=>xl lo 0 fun l=>0<=l/\l<=h/\(off:Int)+h<=(xs.length:Int)/\K (.os e k ver (off+l.toNat) (h.toNat-l.toNat))
   | none=>False else False
  | _=>False
def VV (D:TD) (T0:TypeId):Option El:=
 match zx D T0 with
 | some ti=>match ti.srt with
  | .slice t=>match zx D t with
   | some te=>te.el
   | none=>none
  | _=>none
 | none=>none
def dsl (D:TD) (ti:TI) (t:TypeId) (s:St) (x:T) (lo hi mx:Option T) (K:T->Prop):Prop:=
 match ti.srt with
 | .string=>match x,mx with
  | .str b,none=>qgJ b lo hi K
  | _,_=>False
 | .slice _=>match VV D t with
  | some e0=>vI e0 s x lo hi mx K
  | none=>False
 | .array n te=>match x,lo,hi,mx,zx D te with
  | .pt k 0,none,none,none,some _=>K (.as k n)
  | _,_,_,_,_=>False
 | _=>False
def yx:List T->Option (List Int)
 | []=>some []
 | .int .u8 m::r=>match yx r with
  | some l=>some (m::l)
  | none=>none
 | _=>none
theorem vV: ∀{cs:List T} {l:List Int},yx cs=some l->cs=l.map (T.int .u8)
 | [],l,h=>by simp [yx] at h;subst h;rfl
 | c::r,l,h=>by
  unfold yx at h;split at h
  . rename_i e;cases e
  . rename_i m r' e;cases e;split at h
    . rename_i l' hl;injection h with h;subst h;rw [vV hl];rfl
    . cases h
  . cases h
def je (ti:TI) (e:El) (s:St) (x:T) (m:List (ty e)) (K:Kn):Prop:=
 match x with
 | .nil=>ql m.length ti.bytes (K (.oa e s.length 0) (s++[some (.arr 0 e m)]))
 | .sl true e' l=>if h:e'=e then xA (0<m.length) (ql (l.length+m.length) ti.bytes (K (.oa e s.length 0) (s++[some (.arr 0 e (jX h l++m))])))else False
 | .oa e' k ver=>if e'=e then match ju s e k ver with
  | some l=>ql (l.length+m.length) ti.bytes (K (.oa e k (ver+1)) (s.set k (some (.arr (ver+1) e (l++m)))))
  | none=>False else False
 | _=>False
def Vx:T->Bool
 | .sl true _ _=>true
 | _=>false
def kf (ti:TI) (s:St) (x y:T) (K:Kn):Prop:=
 match ti.el with
 | some e=>xE s e y fun m=>match Vx x&& !Vx y with
  | true=>bif decide (m.length=0)then K x s else je ti e s x m K
  | false=>je ti e s x m K
 | none=>False
def wt (ti:TI) (s:St) (x:T) (b:ByteArray) (K:Kn):Prop:=
 match ti.el with
 | some e=>match qyn e with
  | some f=>je ti e s x (f (zp b)) K
  | none=>False
 | none=>False
def wi (te:TI) (s:St) (e':El) (l:List (ty e')) (n:Int) (K:Kn):Prop:=
 match te.el,te.zero with
 | some e,some z=>match dec e z with
  | some y=>if h:e'=e then xA (0<n) (ql (l.length+n.toNat) te.bytes (K (.oa e s.length 0) (s++[some (.arr 0 e (jX h l++List.replicate n.toNat y))])))else False
  | none=>False
 | _,_=>False
def eqCells:List Nat->List T->List T->Option Bool
 | [],[],[]=>some true
 | 0::ks,.int k a::r,.int k' b::q=>match decide (k=k')with
  | true=>(eqCells ks r q).map (decide (a=b)&& ·)
  | false=>none
 | 1::ks,.bool a::r,.bool b::q=>(eqCells ks r q).map (decide (a=b)&& ·)
 | 2::ks,.str a::r,.str b::q=>(eqCells ks r q).map (decide (a=b)&& ·)
 | _,_,_=>none
def qW9 (ti:TI):List Nat:=
 match ti.eqs with
 | some ks=>ks
 | none=>[]
def qcI (op:BinOp) (a b:Int):Option Bool:=
 match op with
 | .eql=>some (decide (a=b))
 | .neq=>some (!decide (a=b))
 | .lss=>some (decide (a<b))
 | .leq=>some (decide (a<=b))
 | .gtr=>some (decide (b<a))
 | .geq=>some (decide (b<=a))
 | _=>none
def qb (op:BinOp) (k:IntKind) (x y:Int):Int:=
 let a:=BitVec.ofInt k.bits x
 let b:=BitVec.ofInt k.bits y
 match op with
 | .and=>k.wrap (a&&& b).toNat
 | .or=>k.wrap (a||| b).toNat
 | .xor=>k.wrap (a ^^^b).toNat
 | _=>k.wrap (a&&& ~~~b).toNat
def qQC (a b:ByteArray):Bool:=Op.bytesLess a.toList b.toList
def V0 (op:BinOp) (len:Nat) (K:T->Prop):Prop:=
 match op with
 | .eql=>bif decide (len=0)then K .ub else K (.bool false)
 | .neq=>bif decide (len=0)then K .ub else K (.bool true)
 | _=>False
def X4 (op:BinOp) (ti:TI) (x y:T) (K:T->Prop):Prop:=
 match x,y with
 | .int k a,.int k' b=>match op with
  | .shl=>0<=b/\K (.int k (k.wrap (a*2^(min b.toNat k.bits))))
  | .shr=>0<=b/\K (.int k (a.fdiv (2^(min b.toNat k.bits))))
  | op=>match decide (k=k')with
   | true=>match op with
    | .add=>K (.int k (k.wrap (a+b)))
    | .sub=>K (.int k (k.wrap (a-b)))
    | .mul=>K (.int k (k.wrap (a*b)))
    | .quo=> ¬b=0/\K (.int k (k.wrap (a.tdiv b)))
    | .rem=> ¬b=0/\K (.int k (a.tmod b))
    | .and=>K (.int k (qb .and k a b))
    | .or=>K (.int k (qb .or k a b))
    | .xor=>K (.int k (qb .xor k a b))
    | .andNot=>K (.int k (qb .andNot k a b))
    | op=>match qcI op a b with
     | some c=>K (.bool c)
     | none=>False
   | false=>False
 | .bool a,.bool b=>match op,ti.srt with
  | .eql,.bool=>K (.bool (decide (a=b)))
  | .neq,.bool=>K (.bool (!decide (a=b)))
  | _,_=>False
 | .str a,.str b=>match op with
  | .add=>ql (a.size+b.size) 1 (K (.str (a++b)))
  | .eql=>K (.bool (decide (a=b)))
  | .neq=>K (.bool (!decide (a=b)))
  | .lss=>K (.bool (qQC a b))
  | .leq=>K (.bool (qQC a b||decide (a=b)))
  | .gtr=>K (.bool (!(qQC a b||decide (a=b))))
  | .geq=>K (.bool (!qQC a b))
  | _=>False
 | .ag xs,.ag ys=>match ti.eqs,eqCells (qW9 ti) xs ys,op with
  | some n,some b,.eql=>match decide (xs.length=n.length)with
   | true=>K (.bool b)
   | false=>False
  | some n,some b,.neq=>match decide (xs.length=n.length)with
   | true=>K (.bool (!b))
   | false=>False
  | _,_,_=>False
 | _,_=>False
def wq (op:BinOp) (ti:TI) (s:St) (x:T) (K:T->Prop):Prop:=
 match ti.srt with
 | .slice _=>match x with
  | .nil=>V0 op 0 K
  | .sl _ _ l=>V0 op l.length K
  | .oa e k ver=>match ju s e k ver with
   | some l=>V0 op l.length K
   | none=>False
  | _=>False
 | _=>False
def Z1 (op:BinOp) (ti:TI) (x:T) (K:T->Prop):Prop:=
 match ti.srt with
 | .iface=>match x,op with
  | .ic _ _,.eql=>K (.bool false)
  | .ic _ _,.neq=>K (.bool true)
  | .cst .nilIface,.eql=>K (.bool true)
  | .cst .nilIface,.neq=>K (.bool false)
  | _,_=>False
 | _=>False
def dun (op:UnOp) (x:T) (K:T->Prop):Prop:=
 match op,x with
 | .not,.bool b=>K (.bool (!b))
 | .neg,.int k n=>K (.int k (k.wrap (0-n)))
 | .xor,.int k n=>K (.int k (qb .xor k (match k.signed with | true=> -1 | false=>k.max) n))
 | _,_=>False
def zT (D:TD) (T0:TypeId) (s:St) (x i:T) (K:T->Prop):Prop:=
 match i with
 | .int _ n=>match x with
  | .sl _ e l=>if VV D T0=some e then At l n fun u=>K (.pr e u 0)else False
  | .oa e k ver=>if VV D T0=some e then match ju s e k ver with
   | some l=>0<=n/\n.toNat<l.length/\K (.pe e k ver n.toNat 0)
   | none=>False else False
  | .os e k ver off m=>if VV D T0=some e then match ju s e k ver with
   | some _=>0<=n/\n.toNat<m/\K (.pe e k ver (off+n.toNat) 0)
   | none=>False else False
  | .pt k off=>match zx D T0 with
   | some ti=>match ti.srt with
    | .array m e=>match zx D e with
     | some te=>0<=n/\n.toNat<m/\K (.pt k (off+n.toNat*te.size))
     | none=>False
    | _=>False
   | none=>False
  | .pe e k ver 0 0=>match zx D T0 with
   | some ti=>match ti.srt with
    | .array m t'=>match zx D t' with
     | some te=>match te.el with
      | some e'=>if e'=e then 0<=n/\n.toNat<m/\K (.pe e k ver n.toNat 0)else False
      | none=>False
     | none=>False
    | _=>False
   | none=>False
  | _=>False
 | _=>False
def qwR:List T->Option (List Int)
 | []=>some []
 | .int .u8 m::r=>match qwR r with
  | some l=>some (m::l)
  | none=>none
 | _=>none
def qkp (te:TI) (cs:List T):Option (List Int):=
 match te.srt,te.agg,te.size with
 | .int .u8,false,1=>qwR cs
 | _,_,_=>none
theorem qwB: ∀{cs:List T} {l:List Int},qwR cs=some l->cs=l.map (T.int .u8)
 | [],l,h=>by simp [qwR] at h;subst h;rfl
 | c::r,l,h=>by
  unfold qwR at h;split at h
  . rename_i e;cases e
  . rename_i m r' e;cases e;split at h
    . rename_i l' hl;injection h with h;subst h;rw [qwB hl];rfl
    . cases h
  . cases h
theorem qXR {te:TI} {cs:List T} {l:List Int} (h:qkp te cs=some l) {n:Nat} {m:Int} (hl:l[n]? =some m) {K:T->Prop} (hK:K (.int .u8 m)):jS te.agg te.size cs (n*te.size) K:=by
 unfold qkp at h;split at h;case h_2=>cases h
 rename_i e1 e2 e3;rw [e2,e3,qwB h];simp [jS,hl,hK]
def qwN:List T->Option (List ByteArray)
 | []=>some []
 | .str s::r=>match qwN r with
  | some l=>some (s::l)
  | none=>none
 | _=>none
def qy9 (te:TI) (cs:List T):Option (List ByteArray):=
 match te.srt,te.agg,te.size with
 | .string,false,1=>qwN cs
 | _,_,_=>none
theorem qx6: ∀{cs:List T} {l:List ByteArray},qwN cs=some l->cs=l.map T.str
 | [],l,h=>by simp [qwN] at h;subst h;rfl
 | c::r,l,h=>by
  unfold qwN at h;split at h
  . rename_i e;cases e
  . rename_i m r' e;cases e;split at h
    . rename_i l' hl;injection h with h;subst h;rw [qx6 hl];rfl
    . cases h
  . cases h
theorem qXh {te:TI} {cs:List T} {l:List ByteArray} (h:qy9 te cs=some l) {n:Nat} {s:ByteArray} (hl:l[n]? =some s) {K:T->Prop} (hK:K (.str s)):jS te.agg te.size cs (n*te.size) K:=by
 unfold qy9 at h;split at h;case h_2=>cases h
 rename_i e1 e2 e3;rw [e2,e3,qx6 h];simp [jS,hl,hK]
def yd (D:TD) (T0:TypeId) (x i:T) (K:T->Prop):Prop:=
 match i with
 | .int _ n=>match zx D T0 with
  | some ti=>match ti.srt,x with
   | .string,.str s=>qs s n fun b=>K (.int .u8 b)
   | .array m e,.ag cs=>match zx D e with
    | some te=>match qy9 te cs with
     | some l=>0<=n/\n.toNat<m/\atI l n.toNat fun s=>K (.str s)
     | none=>match qkp te cs with
      | some l=>0<=n/\n.toNat<m/\atI l n.toNat fun v=>K (.int .u8 v)
      | none=>0<=n/\n.toNat<m/\jS te.agg te.size cs (n.toNat*te.size) K
    | none=>False
   | _,_=>False
  | none=>False
 | _=>False
def WW (D:TD) (T0:TypeId) (f:Nat):Option (Nat×TI):=
 match zx D T0 with
 | some ti=>match ti.srt with
  | .struct fs=>match fs[f]? with
   | some (off,t)=>match zx D t with
    | some te=>some (off,te)
    | none=>none
   | none=>none
  | _=>none
 | none=>none
def jo (D:TD) (T0:TypeId) (x:T) (f:Nat) (K:T->Prop):Prop:=
 match WW D T0 f with
 | some (off,te)=>match te.size with
  | 0=>False
  | _+1=>match x with
   | .pt k q=>K (.pt k (q+off))
   | .pr e u j=>K (.pr e u (j+off))
   | .pe e k ver i j=>K (.pe e k ver i (j+off))
   | _=>False
 | none=>False
def Z2 (D:TD) (T0:TypeId) (x:T) (f:Nat) (K:T->Prop):Prop:=
 match WW D T0 f with
 | some (off,te)=>match x with
  | .ag cs=>jS te.agg te.size cs off K
  | _=>False
 | none=>False
def yK (D:TD) (T0:TypeId) (parts:List (Nat×T)) (K:T->Prop):Prop:=
 match zx D T0 with
 | some ti=>match ti.agg,ti.zero,qQI D ti.srt with
  | true,some z,some pl=>match qzC pl z parts with
   | some cs=>K (.ag cs)
   | none=>False
  | _,_,_=>False
 | none=>False
def qjI (z:List T):Nat->List T
 | 0=>[]
 | n+1=>z++qjI z n
def ji (D:TD) (T0:TypeId) (len:Nat) (parts:List (Nat×T)) (K:T->Prop):Prop:=
 match len with
 | 0=>match parts,zx D T0 with
  | [],some ti=>match ti.srt with
   | .slice _=>K .nil
   | _=>False
  | _,_=>False
 | _+1=>match zx D T0 with
  | some ti=>match ti.srt with
   | .slice t=>match zx D t with
    | some te=>match te.zero,te.el with
     | some z,some e=>match decide (len*te.size<=16777216)with
      | true=>match qzC (fun i=>some (i*te.size,te.size)) (qjI z len) parts with
       | some cs=>match qQw e len cs with
        | some l=>K (.sl true e l)
        | none=>False
       | none=>False
      | false=>False
     | _,_=>False
    | none=>False
   | _=>False
  | none=>False
def yL (D:TD) (src dst:TypeId) (s:St) (x:T) (K:Kn):Prop:=
 match zx D src,zx D dst with
 | some a,some b=>match x,a.srt,b.srt with
  | .int _ n,_,.int k=>K (.int k (k.wrap n)) s
  | .str c,.string,.string=>K (.str c) s
  | .str c,.string,.slice t=>match zx D t with
   | some te=>match te.srt,te.el with
    | .int .u8,some e=>match qyn e with
     | some f=>ql c.size te.bytes (K (.oa e s.length 0) (s++[some (.arr 0 e (f (zp c)))]))
     | none=>False
    | _,_=>False
   | none=>False
  | .os e k ver off n,.slice t,.string=>match zx D t with
   | some te=>match te.srt,qxp e,ju s e k ver with
    | .int .u8,some f,some l=>K (.str (xk (f ((l.drop off).take n)))) s
    | _,_,_=>False
   | none=>False
  | .sl _ e l,.slice t,.string=>match zx D t with
   | some te=>match te.srt,qxp e with
    | .int .u8,some f=>K (.str (xk (f l))) s
    | _,_=>False
   | none=>False
  | .oa e k ver,.slice t,.string=>match zx D t with
   | some te=>match te.srt,qxp e,ju s e k ver with
    | .int .u8,some f,some l=>K (.str (xk (f l))) s
    | _,_,_=>False
   | none=>False
  | .as k n,.slice t,.string=>match rd s k,zx D t with
   | some (.cells cs),some te=>match meHead cs,te.srt,yx (cs.take n)with
    | false,.int .u8,some l=>match decide (l.length=n)with
     | true=>K (.str (xk l)) s
     | false=>False
    | _,_,_=>False
   | _,_=>False
  | _,_,_=>False
 | _,_=>False
def xi (D:TD) (t:TypeId):Option TI:=
 match zx D t with
 | some ti=>match ti.srt with
  | .slice e=>zx D e
  | _=>none
 | none=>none
def Ky (D:TD) (T0:TypeId) (ln cp:T) (s:St) (K:Kn):Prop:=
 match xi D T0 with
 | some te=>match te.el,te.zero with
  | some e,some z=>match dec e z with
   | some y=>match ln,cp with
    | .int .i64 n,.int .i64 c=>xA (0<=n/\c=n) (ql n.toNat te.bytes (∀l:List (ty e),l=List.replicate n.toNat y->K (.oa e s.length 0) (s++[some (.arr 0 e l)])))
    | _,_=>False
   | none=>False
  | _,_=>False
 | none=>False
def kR:T->T->Bool
 | .int _ n,.int _ m=>decide (n=m)
 | .str s,.str t=>decide (s=t)
 | _,_=>false
def w9 (e:El) (k:T):List (ty e)->Option (ty e)
 | []=>none
 | x::r=>match kR k ((enc e x).headD .undef)with
  | true=>some x
  | false=>w9 e k r
def Qv (e:El) (k:T) (y:ty e):List (ty e)->List (ty e)
 | []=>[y]
 | x::r=>match kR k ((enc e x).headD .undef)with
  | true=>y::r
  | false=>x::Qv e k y r
def qhu:T->Bool
 | .bool b=>b
 | _=>false
def quL:T->ByteArray
 | .str s=>s
 | _=>⟨#[]⟩
def qru:T->Int
 | .int _ n=>n
 | _=>0
def qaU (e:El) (z:T) (o:Option (ty e)):T:=match z with
 | .bool b=> .bool (match o with | some x=>qhu ((enc e x).getD 1 .undef) | none=>b)
 | .str s=> .str (match o with | some x=>quL ((enc e x).getD 1 .undef) | none=>s)
 | .int k n=> .int k (match o with | some x=>qru ((enc e x).getD 1 .undef) | none=>n)
 | _=> .undef
def qYa:Srt->T->Bool
 | .int k,.int k' _=>decide (k=k')
 | .string,.str _=>true
 | _,_=>false
def JT (D:TD) (t:TypeId):Option (El×T×T):=match qaj t,zx D t with
 | some e,some ti=>match kO e,ti.srt with
  | some (ks,vs),.map kt vt=>match zx D kt,zx D vt with
   | some tk,some tu=>match qYa tk.srt ks,tu.zero with
    | true,some [z]=>match tu.agg,zM vs z with
     | false,true=>some (e,ks,z)
     | _,_=>none
    | _,_=>none
   | _,_=>none
  | _,_=>none
 | _,_=>none
def VN (s:St) (e:El):T->Option (Nat×List (ty e))
 | .mp k=>match rd s k with
  | some (.cells [.ments e' l])=>if h:e'=e then some (k,jX h l)else none
  | _=>none
 | _=>none
def wR (D:TD) (t:TypeId) (m k:T) (ok:Bool) (s:St) (K:T->Prop):Prop:=
 match JT D t with
 | some (e,ks,z)=>match VN s e m,zM ks k with
  | some (_,l),true=>match ok with
   | true=>K (.tu [qaU e z (w9 e k l),.bool (w9 e k l).isSome])
   | false=>K (qaU e z (w9 e k l))
  | _,_=>False
 | none=>False
def jG (D:TD) (t:TypeId) (m k v:T) (s:St) (K:St->Prop):Prop:=
 match JT D t with
 | some (e,ks,_)=>match VN s e m,zM ks k,dec e [k,v] with
  | some (q,l),true,some y=>K (s.set q (some (.cells [.ments e (Qv e k y l)])))
  | _,_,_=>False
 | none=>False
def Qb (D:TD) (t:TypeId):Option Bool:=match qaj t,zx D t with
 | none,some ti=>match ti.srt with
  | .map kt _=>match zx D kt with
   | some tk=>match tk.srt with
    | .string=>some true
    | .int .i64=>some false
    | _=>none
   | none=>none
  | _=>none
 | _,_=>none
def WO (s:St):T->Option (Nat×Bool×List (Int×ByteArray×Nat))
 | .mp k=>match rd s k with
  | some (.cells [.fents b l])=>some (k,b,l)
  | _=>none
 | _=>none
def qxg (b:Bool) (k:T) (p:Int×ByteArray×Nat):Option Bool:=match b,k with
 | true,.str s=>some (decide (s=p.2.1))
 | false,.int .i64 n=>some (decide (n=p.1))
 | _,_=>none
def ky (b:Bool) (k:T) (K:T->Prop):List (Int×ByteArray×Nat)->Prop
 | []=>False
 | p::r=>match qxg b k p with
  | some c=>bif c then K (.fn p.2.2 [] [])else ky b k K r
  | none=>False
def wd (D:TD) (t:TypeId) (m k:T) (ok:Bool) (s:St) (K:T->Prop):Prop:=
 match Qb D t,WO s m,ok with
 | some b,some (_,b',l),false=>match b==b' with
  | true=>ky b k K l
  | false=>False
 | _,_,_=>False
def qek (b:Bool) (k:T):List (Int×ByteArray×Nat)->Bool
 | []=>true
 | p::r=>match qxg b k p with
  | some false=>qek b k r
  | _=>false
def qKZ (b:Bool) (k:T) (f:Nat):Option (Int×ByteArray×Nat):=match b,k with
 | true,.str s=>some (0,s,f)
 | false,.int .i64 n=>some (n,⟨#[]⟩,f)
 | _,_=>none
def jm (D:TD) (t:TypeId) (m k v:T) (s:St) (K:St->Prop):Prop:=
 match Qb D t,WO s m,v with
 | some b,some (q,b',l),.fn f [] []=>match b==b',(ytab f).isNone,qek b k l,qKZ b k f with
  | true,true,true,some p=>K (s.set q (some (.cells [.fents b (l++[p])])))
  | _,_,_,_=>False
 | _,_,_=>False
def ZF (D:TD) (t:TypeId) (m:T) (s:St) (K:Kn):Prop:=
 match zx D t,m with
 | some ti,.mp k=>match ti.srt,rd s k with
  | .map _ _,some (.cells [.ments e l])=>match (kO e).isSome with
   | true=>K (.pt s.length 0) (s++[some (.cells [.itr (some k) e l l []])])
   | false=>False
  | _,_=>False
 | _,_=>False
def qzE (s:St) (v:T) (K:(k q:Nat)->(e:El)->(all left cur l:List (ty e))->Prop):Prop:=
 match v with
 | .pt k 0=>match rd s k with
  | some (.cells [.itr (some q) e all left cur])=>match rd s q with
   | some (.cells [.ments e' l])=>if h:e'=e then match (kO e).isSome with
    | true=>K k q e all left cur (jX h l)
    | false=>False else False
   | _=>False
  | _=>False
 | _=>False
def XP (v:T) (s:St) (K:T->Prop):Prop:=
 qzE s v fun _ _ e all _ cur l=>match cur with
  | [x]=>xA (l=all) (K (.tu (enc e x)))
  | _=>False
def qh2 (v:T) (s:St) (K:Kn):Prop:=
 qzE s v fun k q e all left _ l=>xA (l=all) (xA (left=[]->K (.tu [.bool false]) s) (∀(p:List (ty e)) (x:ty e) (r:List (ty e)),left=p++x::r->K (.tu (.bool true::enc e x)) (s.set k (some (.cells [.itr (some q) e all (p++r) [x]])))))
def qL (b:ByteArray) (i:Nat) (m:Int):Int:=match b[i]? with
 | some c=>(c.toNat:Int)
 | none=>m
def V1 (b:ByteArray):Nat->List Int->List T
 | _,[]=>[]
 | i,m::r=> .int .u8 (qL b i m)::V1 b (i+1) r
def Kf (te:TI) (k n:Nat) (b:ByteArray) (s:St) (K:Kn):Prop:=
 match te.size,rd s k with
 | 1,some (.cells cs)=>match meHead cs,yx cs with
  | false,some l=>match decide (l.length=n)with
   | true=>K (.int .i64 ((min b.size n:Nat):Int)) (s.set k (some (.cells (V1 b 0 l))))
   | false=>False
  | _,_=>False
 | _,_=>False
def qjz (te:TI) (s:St) (x:T) (K:St->Prop):Prop:=False
def jy (D:TD) (b:Builtin) (ts:List TypeId) (vs:List T) (s:St) (K:Kn):Prop:=
 match b,ts,vs with
 | .len,[t],[x]=>match zx D t with
  | some ti=>match ti.srt with
   | .string=>match x with
    | .str b=>K (.int .i64 (b.size:Nat)) s
    | _=>False
   | .slice _=>qya s x fun n=>K (.int .i64 (n:Nat)) s
   | _=>False
  | none=>False
 | .append,[t,t'],[x,y]=>match decide (t=t')with
  | true=>match xi D t with
   | some te=>match te.zero with
    | some _=>kf te s x y K
    | none=>False
   | none=>False
  | false=>match xi D t,zx D t' with
   | some te,some ti'=>match ti'.srt,y with
    | .int _,.int _ n=>match x with
     | .sl true e' l=>wi te s e' l n K
     | _=>False
    | .string,.str b=>match te.zero with
     | some _=>wt te s x b K
     | none=>False
    | _,_=>False
   | _,_=>False
 | .copy,[t,_],[.as k n,.str b]=>match xi D t with
  | some te=>Kf te k n b s K
  | none=>False
 | .cap,[t],[.sl true _ l]=>match zx D t with
  | some ti=>match ti.srt with
   | .slice _=>K (.int .i64 (l.length:Nat)) s
   | _=>False
  | none=>False
 | .clear,[t],[x]=>match xi D t with
  | some te=>qjz te s x fun s=>K .undef s
  | none=>False
 | .min,_,[.int k a,.int _ b]=>K (.int k (if b<a then b else a)) s
 | .max,_,[.int k a,.int _ b]=>K (.int k (if b>a then b else a)) s
 | _,_,_=>False
def tgt:T->List T->Option (FuncId×List T)
 | .fn f xs ys,vs=>some (f,xs++vs++ys)
 | _,_=>none
abbrev Qy:=FuncId->List T->St->Kn->Kn->Prop
def fdV:T->Option Fd
 | .fd x=>some x
 | _=>none
def qZK:Option (Sigma ty)->List T
 | none=>[]
 | some ⟨e,c⟩=>[.pr e c 0]
def qqk (x:Bool) (p q:T) (K:T->Prop):Prop:=
 match p,q with
 | .bool p,.bool q=>K (.bool (bif x then p else q))
 | p,q=>bif x then K p else K q
def jT (D:TD) (Γ:Qy) (op:Op) (ρ:Operand->T) (s:St) (K X:Kn):Prop:=
 match op with
 | .move x=>K (ρ x) s
 | .assign x=>K (ρ x) s
 | .pick c a b=>match ρ c with
  | .bool x=>qqk x (ρ a) (ρ b) fun v=>K v s
  | _=>False
 | .alloc t=>match zx D t with
  | some ti=>match ti.zero with
   | some z=>K (.pt s.length 0) (s++[some (.cells z)])
   | none=>False
  | none=>False
 | .box _ v=>match cellsOf (ρ v)with
  | some z=>K (.pt s.length 0) (s++[some (.cells z)])
  | none=>False
 | .makeSlice t x y=>Ky D t (ρ x) (ρ y) s K
 | .makeMap t none=>match JT D t with
  | some (e,_,_)=>K (.mp s.length) (s++[some (.cells [.ments e []])])
  | none=>match Qb D t with
   | some b=>K (.mp s.length) (s++[some (.cells [.fents b []])])
   | none=>False
 | .lookup t m k ok=>match (qaj t).isSome with
  | true=>wR D t (ρ m) (ρ k) ok s fun v=>K v s
  | false=>wd D t (ρ m) (ρ k) ok s fun v=>K v s
 | .mapUpdate t m k v=>match (qaj t).isSome with
  | true=>jG D t (ρ m) (ρ k) (ρ v) s fun s=>K .undef s
  | false=>jm D t (ρ m) (ρ k) (ρ v) s fun s=>K .undef s
 | .insert t m k v=>match (qaj t).isSome with
  | true=>jG D t (ρ m) (ρ k) (ρ v) s fun s=>K .undef s
  | false=>jm D t (ρ m) (ρ k) (ρ v) s fun s=>K .undef s
 | .range t m=>ZF D t (ρ m) s K
 | .entry x=>XP (ρ x) s fun v=>K v s
 | .build t parts=>yK D t (parts.toList.map fun p=>(p.1,ρ p.2)) fun v=>K v s
 | .buildSlice t len parts=>ji D t len (parts.toList.map fun p=>(p.1,ρ p.2)) fun v=>K v s
 | .load t a=>match zx D t with
  | some ti=>Qd ti s (ρ a) fun v=>K v s
  | none=>False
 | .store t a x=>match zx D t with
  | some ti=>kb ti s (ρ a) (ρ x) fun s=>K .undef s
  | none=>False
 | .nilCheck x=>match ρ x with
  | .pt k q=>K (.pt k q) s
  | .pr e u j=>K (.pr e u j) s
  | .pe e k ver i j=>K (.pe e k ver i j) s
  | .fn f xs ys=>K (.fn f xs ys) s
  | _=>False
 | .binOp op t x y _=>match zx D t with
  | some ti=>match y with
   | .const (.slice none 0 0)=>wq op ti s (ρ x) fun v=>K v s
   | .const .nilIface=>Z1 op ti (ρ x) fun v=>K v s
   | _=>X4 op ti (ρ x) (ρ y) fun v=>K v s
  | none=>False
 | .unOp op _ x=>dun op (ρ x) fun v=>K v s
 | .convert a b x=>yL D a b s (ρ x) K
 | .makeInterface t x=>match zx D t with
  | some ti=>match qoB ti.srt with
   | true=>K (.ic t (ρ x)) s
   | false=>False
  | none=>False
 | .panic x=>match ρ x with
  | .ic t v=>X (.ic t v) s
  | _=>False
 | .makeFunc (.func f) first captured=>match (ytab f).isNone with
  | true=>K (.fn f (first.toList.map ρ) (captured.toList.map ρ)) s
  | false=>False
 | .slice t x lo hi mx=>match zx D t with
  | some ti=>dsl D ti t s (ρ x) (lo.map ρ) (hi.map ρ) (mx.map ρ) fun v=>K v s
  | none=>False
 | .fieldAddr t x f=>jo D t (ρ x) f fun v=>K v s
 | .field t x f=>Z2 D t (ρ x) f fun v=>K v s
 | .indexAddr t x i=>zT D t s (ρ x) (ρ i) fun v=>K v s
 | .index t x i=>yd D t (ρ x) (ρ i) fun v=>K v s
 | .extract x i=>match ρ x with
  | .tu vs=>match vs[i]? with
   | some v=>K v s
   | none=>False
  | _=>False
 | .call {callee:= .builtin b,args:=args,argTypes:=ts}=>jy D b ts.toList (args.toList.map ρ) s K
 | .call {callee:= .value f,args:=args,argTypes:=_}=>match fdV (ρ f)with
  | some x=>qV2 x fun g o=>Γ g (args.toList.map ρ++qZK o) s K X
  | none=>match tgt (ρ f) (args.toList.map ρ)with
   | some (g,vs)=>Γ g vs s K X
   | none=>False
 | _=>False
def qxn (D:TD) (t:TypeId) (e:El) (s:St) (K:Kn):Prop:=
 match zx D t with
 | some ti=>match ti.zero,elTy e t with
  | some z,true=>match qQw e (z.length / sz e) z with
   | some l=>match decide (l.length*sz e=z.length/\0<l.length/\l.length<=maxLen)with
    | true=>K (.pe e s.length 0 0 0) (s++[some (.arr 0 e l)])
    | false=>False
   | none=>False
  | _,_=>False
 | none=>False
def qKT (e:El) (v:T) (K:T->Prop):Prop:=
 match v with
 | .ag cs=>match qQw e (cs.length / sz e) cs with
  | some l=>match decide (l.length*sz e=cs.length)with
   | true=>K (.al e l)
   | false=>False
  | none=>False
 | _=>False
def qd5 (D:TD) (Γ:Qy) (op:Op) (ρ:Operand->T) (s:St) (K X:Kn):Prop:=
 match op with
 | .next x false=>qh2 (ρ x) s K
 | .alloc t=>match qt4 t with
  | some e=>qxn D t e s K
  | none=>jT D Γ (.alloc t) ρ s K X
 | .build t parts=>match qt4 t with
  | some e=>yK D t (parts.toList.map fun p=>(p.1,ρ p.2)) fun v=>qKT e v fun v=>K v s
  | none=>jT D Γ (.build t parts) ρ s K X
 | op=>jT D Γ op ρ s K X
def dg0:Dig:=⟨0,0,0,0,0,0,0,0,0,0,0,0,0,0,0,0,0,0,0,0,0,0,0,0,0,0,0,0,0,0,0,0⟩
def dgl (d:Dig) (r:List T):List T:= .int .u8 d.b0:: .int .u8 d.b1:: .int .u8 d.b2:: .int .u8 d.b3:: .int .u8 d.b4:: .int .u8 d.b5:: .int .u8 d.b6:: .int .u8 d.b7:: .int .u8 d.b8:: .int .u8 d.b9:: .int .u8 d.b10:: .int .u8 d.b11:: .int .u8 d.b12:: .int .u8 d.b13:: .int .u8 d.b14:: .int .u8 d.b15:: .int .u8 d.b16:: .int .u8 d.b17:: .int .u8 d.b18:: .int .u8 d.b19:: .int .u8 d.b20:: .int .u8 d.b21:: .int .u8 d.b22:: .int .u8 d.b23:: .int .u8 d.b24:: .int .u8 d.b25:: .int .u8 d.b26:: .int .u8 d.b27:: .int .u8 d.b28:: .int .u8 d.b29:: .int .u8 d.b30:: .int .u8 d.b31::r
def dgt (d:Dig) {α:Type} (r:α):Int×Int×Int×Int×Int×Int×Int×Int×Int×Int×Int×Int×Int×Int×Int×Int×Int×Int×Int×Int×Int×Int×Int×Int×Int×Int×Int×Int×Int×Int×Int×Int×α:=(d.b0,(d.b1,(d.b2,(d.b3,(d.b4,(d.b5,(d.b6,(d.b7,(d.b8,(d.b9,(d.b10,(d.b11,(d.b12,(d.b13,(d.b14,(d.b15,(d.b16,(d.b17,(d.b18,(d.b19,(d.b20,(d.b21,(d.b22,(d.b23,(d.b24,(d.b25,(d.b26,(d.b27,(d.b28,(d.b29,(d.b30,(d.b31,r))))))))))))))))))))))))))))))))
end
section
open Go.RowKit
variable {P:Program} [Bd P]
def srtOk (P:Program) (d:TypeDesc):Srt->Prop
 | .slice e=>d= .slice e/\(P.info? e).isSome=true
 | .array n e=>d= .array n e
 | .struct fs=> ∃fields,d= .struct fields/\(fs=fields.toList.map fun f=>(f.offset,f.type))/\(fields.toList.all fun f=>(P.info? f.type).isSome)=true
 | .string=>d= .string
 | .int k=>d= .int k
 | .bool=>d= .bool
 | .iface=> ∃ms,d= .interface ms
 | .map k e=>d= .map k e
 | .other=>True
structure TIok (P:Program) (t:TypeId) (ti:TI):Prop where
 under: ∃d,P.underlying t=some d/\aggDesc d=ti.agg/\srtOk P d ti.srt
 info: ∃i,P.info? t=some i/\i.size=ti.size/\i.bytes=ti.bytes/\ ∀z,ti.zero=some z->(∃x,i.zero=some x/\cellsOf (tval x)=some (z.map unfp)/\cellW z t z.length=true)/\z.length=ti.size
 el: ∀e,ti.el=some e->sz e=ti.size/\0<ti.bytes
 elt: ∀e,ti.el=some e->elTy e t=true
 onec:ti.agg=false->ti.zero.isSome=true-> ∀i x,P.info? t=some i->i.zero=some x->x.oneCell'=true
 eqs: ∀ks,ti.eqs=some ks-> ∀(xs ys:List T) (vs us:Array Value) (g:G P) (b:Bool),xs.length=ks.length->eqCells ks xs ys=some b->R g (.ag xs) (.agg vs)->R g (.ag ys) (.agg us)->
  quiet P (Op.equal t (.agg vs) (.agg us))=some b/\P.eqGuardType P.depth t=false
abbrev zY (P:Program) (D:TD):Prop:= ∀t ti,zx D t=some ti->TIok P t ti
section
variable {P:Program} [Bd P] {D:TD} {g:G P} {st:St} {w:World} {n:Nat} {t:Tm} {a:Act} {o:Oper} {K X:Kn}
theorem qQS (v:Value):R g (qQb v) v:=by
 unfold qQb;split
 . exact .nil none
 . exact .int _ _
 . exact .bool _
 . exact .str _
 . rename_i f xs ys;split
   . rename_i h;obtain ⟨h1,h2⟩:=h;have e1:xs= #[]:=by simpa using h1
     have e2:ys= #[]:=by simpa using h2
     subst e1;subst e2;exact qij g f
   . exact .cst _
 . exact .cst _
theorem qWD (v:Value):R g (tval v) v:=by
 unfold tval;split
 . rename_i cs;split
   . rename_i h;refine .ag _ _ (by simp) (fun i c x hc hx=> ?_) (fun i x hx=> ?_)
     . simp only [Jax,Jbz,hx,Ja8,Jah] at hc;rw [<- hc];exact qQS x
     . exact Jbu.1 h x (by simpa using Array.mem_of_getElem? hx)
   . exact .cst _
 . exact qQS v
theorem RelT.ev (h:RelT g n t a) (x:Operand):R g (ev t x) (a.eval x):=by
 cases x with
 | tmp i=>exact h.val i
 | const v=>exact qWD v
 | global g=>exact .cst _
 | func f=>exact qij g f
theorem quD {v:T} {x:Value} (h:R g v x) (hv:v.one=true):x.oneCell'=true:=by
 cases h with
 | cst v=>exact hv
 | undef=>simp [T.one] at hv
 | ag=>simp [T.one] at hv
 | tu=>simp [T.one] at hv
 | fp=>simp [T.one] at hv
 | me=>simp [T.one] at hv
 | fe=>simp [T.one] at hv
 | it=>simp [T.one] at hv
 | iz=>simp [T.one] at hv
 | al=>simp [T.one] at hv
 | _=>rfl
theorem qQD {v:T} {x:Value} {cs:List T} (h:R g v x) (hc:cellsOf v=some cs):
  x.cells.size=cs.length/\ ∀(i:Nat) (c:T),cs[i]? =some c-> ∃y,x.cells[i]? =some y/\y.oneCell'=true/\R g c y:=by
 by_cases hv:v.one=true
 . have h1:=quD h hv;rw [qz3 h1];have:cs=[v]:=by
    cases v<;>simp_all [cellsOf,T.one]
   subst this;refine ⟨rfl,fun i c hi=> ?_⟩
   cases i with
   | zero=>simp at hi;subst hi;exact ⟨x,rfl,h1,h⟩
   | succ i=>simp at hi
 . cases h with
   | ag cs' xs h1 h2 h3=>
    simp only [cellsOf] at hc;split at hc;case h_1=>cases hc
    simp only [Jah] at hc;subst hc;refine ⟨h1.symm,fun i c hi=> ?_⟩
    have hlt:i<xs.size:=by rw [<- h1];exact (Jai.1 hi).1
    exact ⟨xs[i],by simp [Value.cells,hlt],h3 i _ (by simp [hlt]),h2 i c _ hi (by simp [hlt])⟩
   | _=>simp [cellsOf,hv] at hc
theorem ZD {v:T} {x:Value} {cs:List T} (h:R g v x) (hc:cellsOf v=some cs):R g (.ag cs) (.agg x.cells):=by
 obtain ⟨h1,h2⟩:=qQD h hc;refine .ag _ _ h1.symm (fun i c y hi hy=> ?_) (fun i y hy=> ?_)
 . obtain ⟨z,z1,_,z3⟩:=h2 i c hi;rw [z1] at hy;injection hy with hy;subst hy;exact z3
 . have hlt:i<cs.length:=by rw [<- h1];exact (Jar.1 hy).1
   obtain ⟨z,z1,z2,_⟩:=h2 i cs[i] (by simp)
   rw [z1] at hy;injection hy with hy;subst hy;exact z2
theorem qlU {z:List T} {x:Value} (h:R g (.ag (z.map unfp)) x):R g (.ag z) x:=by
 cases h with
 | ag _ xs h1 h2 h3=>
  refine .ag _ xs (by rw [<- h1,Jbs]) (fun i c y hc hy=> ?_) h3
  have:=h2 i (unfp c) y (by rw [Jax,hc];rfl) hy
  cases c<;>first | exact this | skip
  simp only [unfp] at this;cases this;exact .fp
theorem Qf {ti:TI} {T0:TypeId} (hT:TIok P T0 ti) {z:List T} (h:ti.zero=some z): ∃i x,P.info? T0=some i/\i.zero=some x/\R g (.ag z) (.agg x.cells):=by
 obtain ⟨i,h1,_,_,h4⟩:=hT.info;obtain ⟨⟨x,h5,h6,_⟩,_⟩:=h4 z h;exact ⟨i,x,h1,h5,qlU (ZD (qWD x) h6)⟩
def xU (P:Program) (o:Oper) (a:Act) (g:G P) (st:St) (w:World) (K X:Kn):Prop:=
 ∀(K':Act->World->Prop) (Q':Exit->Act->World->Prop),
  (∀(v:T) (s':St) (x:Value) (g':G P) (w':World),K v s'->Good g' s' w'->GL g st g'->(∀b0,Step b0 g st w g' s' w')->R g' v x->K' (a.put o.dst x) w')->
  (∀(u:T) (s':St) (v:Value) (g':G P) (w':World),X u s'->Good g' s' w'->GL g st g'->(∀b0,Step b0 g st w g' s' w')->R g' u v->Q' (.panic [{v,recovered:=false}]) a w')->o.wp P a w K' Q'
theorem xq {v:T} {x:Value} (hg:Good g st w) (hrun:(execOp a.eval o).run P w= .ok (.value x) w) (hR:R g v x) (hK:K v st):xU P o a g st w K X:=by
 intro K' Q' h1 _;unfold Oper.wp;rw [hrun];exact h1 v st x g w hK hg (GL.refl g st) (fun _=>Step.refl) hR
theorem qk {v:T} {x:Value} (hg:Good g st w) (hrun:quiet P (execOp a.eval o)=some (.value x)) (hR:R g v x) (hK:K v st):xU P o a g st w K X:=
 xq hg (zw hrun w) hR hK
theorem qwF (hg:Good g st w) (ht:RelT g n t a) {x:Operand} (ho:o.op= .move x∨o.op= .assign x) (hK:K (ev t x) st):xU P o a g st w K X:=
 qk (x:=a.eval x) hg (by rcases ho with ho | ho<;>simp only [execOp,ho]<;>rfl) (ht.ev x) hK
theorem YX (hg:Good g st w) (ht:RelT g n t a) {c x y:Operand} {b:Bool} (ho:o.op= .pick c x y) (hc:ev t c= .bool b) {v:T} (hv:R g v (if b=true then a.eval x else a.eval y)) (hK:K v st):xU P o a g st w K X:=by
 have h:=ht.ev c;rw [hc] at h;generalize he:a.eval c=ec at h;cases h;exact qk (x:=if b=true then a.eval x else a.eval y) hg (by simp only [execOp,ho,he,asBool,qv,qM,Jaz]) hv hK
theorem vu {agg:Bool} {size off:Nat} {cs:List T} {K:T->Prop} (h:jS agg size cs off K): ∃v,K v/\(if agg=true then (if off+size<=cs.length then some (T.ag ((cs.drop off).take size))else none)else cs[off]?)=some v:=by
 unfold jS at h;cases agg with
 | true=>
  simp only at h;split at h
  . rename_i hd;exact ⟨_,h,by simp only [if_true];rw [if_pos (by simpa using hd)]⟩
  . exact h.elim
 | false=>
  simp only at h;split at h
  . rename_i u hu;exact ⟨u,h,by simpa using hu⟩
  . exact h.elim
theorem Kd {T0:TypeId} {ti:TI} (hT:TIok P T0 ti) {xs:Array Value} {cs:List T} {off:Nat} {v:T} (hx:R g (.ag cs) (.agg xs))
  (h:(if ti.agg=true then (if off+ti.size<=cs.length then some (T.ag ((cs.drop off).take ti.size))else none)else cs[off]?)=some v): ∃y,quiet P (part T0 xs off)=some y/\R g v y:=by
 obtain ⟨d,hd,hd',_⟩:=hT.under;obtain ⟨i,hi,hi',_⟩:=hT.info;cases hx with
 | ag _ _ k1 k2 k3=>
  cases hag:ti.agg with
  | false=>
   simp only [hag,Ja5,if_false] at h;have hlt:off<xs.size:=by rw [<- k1];exact (Jai.1 h).1
   exact ⟨xs[off],by simp [part,qv,hd,hd',hag,hlt],k2 off v _ h (by simp [hlt])⟩
  | true=>
   simp only [hag,if_true] at h;split at h
   . rename_i hle;injection h with h;subst h;refine ⟨.agg (xs.extract off (off+ti.size)),by simp [part,qv,hd,hd',hag,hi,hi'],.ag _ _ (by simp;omega) (fun j c y hc hy=> ?_) (fun j y hy=> ?_)⟩
     . have hj:j<ti.size:=by
        have:=(Jai.1 hc).1;simp at this;omega
       rw [Jbl hj,Jbo] at hc;rw [Array.getElem?_extract] at hy;split at hy
       . exact k2 _ c y hc hy
       . cases hy
     . rw [Array.getElem?_extract] at hy;split at hy
       . exact k3 _ y hy
       . cases hy
   . cases h
theorem Xo {T0:TypeId} {f off:Nat} {te:TI} (hD:zY P D) (h:WW D T0 f=some (off,te)): ∃fields fd,P.underlying T0=some (.struct fields)/\fields[f]? =some fd/\fd.offset=off/\TIok P fd.type te:=by
 unfold WW at h;split at h;case h_2=>cases h
 rename_i ti hti;split at h;case h_2=>cases h
 rename_i fs hfs;split at h;case h_2=>cases h
 rename_i off' t' hf;split at h;case h_2=>cases h
 rename_i te' hte;simp only [Jah,Jbg] at h;obtain ⟨rfl,rfl⟩:=h;obtain ⟨d,h1,_,h3⟩:=(hD _ _ hti).under;rw [hfs] at h3;obtain ⟨fields,rfl,rfl,_⟩:=h3;rw [Jax] at hf;cases hfd:fields.toList[f]? with
 | none=>simp [hfd] at hf
 | some fd=>
  simp only [hfd,Ja8,Jah,Jbg] at hf;obtain ⟨rfl,rfl⟩:=hf;exact ⟨fields,fd,h1,by simpa using hfd,rfl,hD _ _ hte⟩
theorem qqG (hD:zY P D) (hg:Good g st w) (ht:RelT g n t a) {s:TypeId} {x:Operand} {f:Nat} (ho:o.op= .fieldAddr s x f) (h:jo D s (ev t x) f fun v=>K v st):xU P o a g st w K X:=by
 unfold jo at h;split at h;case h_2=>exact h.elim
 rename_i off te hf;obtain ⟨fields,fd,h1,h2,rfl,hte⟩:=Xo hD hf;obtain ⟨i,hi,hi',_⟩:=hte.info;split at h
 . exact h.elim
 rename_i m hm;have hne: ¬i.size=0:=by omega
 have hq: ∀b q,a.eval x= .pointer (some ⟨b,q,none⟩)->quiet P (execOp a.eval o)=some (.value (.pointer (some ⟨b,q+fd.offset,none⟩))):=by
  intro b q e;simp [execOp,ho,Instr.fieldAt,e,Instr.sureAddr,fieldPlace,qv,h1,h2,hi,hne,Addr.add_lit]
 have hR:=ht.ev x;generalize hv:ev t x=xv at hR h;generalize he:a.eval x=ex at hR;cases hR with
 | pt k q oi p1=>exact qk hg (hq _ _ he) (.pt k _ oi p1) h
 | pr e u j b q cs p1 p2=>exact qk hg (hq _ _ he) (by rw [Nat.add_assoc];exact .pr e u _ b q cs p1 p2) h
 | pe e k ver i j oi p1 p2=>exact qk hg (hq _ _ he) (by rw [Nat.add_assoc];exact .pe e k ver i _ oi p1 p2) h
 | _=>exact h.elim
theorem qJz (hD:zY P D) (hg:Good g st w) (ht:RelT g n t a) {s:TypeId} {x:Operand} {f:Nat} (ho:o.op= .field s x f) (h:Z2 D s (ev t x) f fun v=>K v st):xU P o a g st w K X:=by
 unfold Z2 at h;split at h;case h_2=>exact h.elim
 rename_i off te hf;obtain ⟨fields,fd,h1,h2,rfl,hte⟩:=Xo hD hf;have hR:=ht.ev x;generalize hv:ev t x=xv at hR h;generalize he:a.eval x=ex at hR;split at h;case h_2=>exact h.elim
 rename_i cs;obtain ⟨v,hK,hs⟩:=vu h;cases hR with
 | ag cs xs k1 k2 k3=>
  obtain ⟨y,y1,y2⟩:=Kd hte (R.ag cs xs k1 k2 k3) hs;exact qk hg (by simp [execOp,ho,Instr.field,he,asAgg,qv,h1,h2,y1]) y2 hK
theorem qh {s:St} {e:El} {k ver:Nat} {l:List (ty e)} (h:ju s e k ver=some l):s[k]? =some (some (.arr ver e l)):=by
 unfold ju at h;split at h;case h_2=>cases h
 rename_i v e' l' hr;split at h;case isFalse=>cases h
 rename_i he;subst he;split at h;case isFalse=>cases h
 rename_i hv;subst hv;injection h with h;subst h;exact qc.1 hr
theorem zf {T0 e:TypeId} {ti:TI} (hT:TIok P T0 ti) (h:ti.srt= .slice e):P.underlying T0=some (.slice e):=by
 obtain ⟨d,h1,_,h3⟩:=hT.under;rw [h] at h3;rw [h1];exact congrArg some h3.1
theorem qkc {T0 e:TypeId} {ti:TI} (hT:TIok P T0 ti) (h:ti.srt= .slice e): ∃i,P.info? e=some i:=by
 obtain ⟨d,h1,_,h3⟩:=hT.under;rw [h] at h3;exact Jb2.1 h3.2
theorem wO {T0 e:TypeId} {m:Nat} {ti:TI} (hT:TIok P T0 ti) (h:ti.srt= .array m e):P.underlying T0=some (.array m e):=by
 obtain ⟨d,h1,_,h3⟩:=hT.under;rw [h] at h3;rw [h1];exact congrArg some h3
theorem Q7 {T0:TypeId} {ti:TI} (hT:TIok P T0 ti) (h:ti.srt= .string):P.underlying T0=some .string:=by
 obtain ⟨d,h1,_,h3⟩:=hT.under;rw [h] at h3;rw [h1];exact congrArg some h3
theorem wJ {T0:TypeId} {k:IntKind} {ti:TI} (hT:TIok P T0 ti) (h:ti.srt= .int k):P.underlying T0=some (.int k):=by
 obtain ⟨d,h1,_,h3⟩:=hT.under;rw [h] at h3;rw [h1];exact congrArg some h3
theorem Good.arr (hg:Good g st w) {k ver:Nat} {e:El} {l:List (ty e)} (h:st[k]? =some (some (.arr ver e l))): ∃oi,g.ob k ver=some oi/\oi.len=l.length/\oi.len<=oi.cap/\oi.cap<=maxLen/\(oi.cap≠0->(∀cs0, ¬g.ro oi.b cs0)/\
  ∃(blk:Array Value) (E:TypeId) (fr:Nat×Nat),w.heap[oi.b]? =some (.cells blk E fr)/\(∀q,q<blk.size-> ¬(fr.1<=q/\q<fr.2))/\Cells g (encs e l) blk/\oi.cap*sz e<=blk.size/\elTy e E=true):=by
 obtain ⟨oi,h1,h2,h3⟩:=hg.obj k _ h;refine ⟨oi,h1,h2.1,h2.2.1,h2.2.2,fun hc=> ?_⟩
 rcases h3 with h3 | h3
 . exact absurd h3.2 hc
 . exact h3
end
end
section
open Go.RowKit
variable {P:Program} [Bd P]
theorem xX {cs xs:List T} {o:Nat} (h:o+xs.length<=cs.length):(vK cs o xs).length=cs.length:=by
 simp [vK];omega
theorem xd {cs xs:List T} {o:Nat} (h:o+xs.length<=cs.length) (j:Nat):(vK cs o xs)[j]? =if o<=j/\j<o+xs.length then xs[j-o]? else cs[j]? :=by
 unfold vK;have ho:o<=cs.length:=by omega
 have hl:(cs.take o).length=o:=by simp [ho]
 by_cases h1:j<o
 . rw [Jav (by omega),if_neg (by omega),Jbl h1]
 . rw [Jas (by omega),hl]
   by_cases h2:j<o+xs.length
   . rw [Jav (by omega),if_pos (by omega)]
   . rw [Jas (by omega),if_neg (by omega),Jbo]
     congr 1;omega
theorem ko {st:St} {k:Nat} {o:Ob} (hk:k<st.length) (i:Nat):(st.set k (some o))[i]? =if i=k then some (some o)else st[i]? :=by
 rw [List.getElem?_set];by_cases e:k=i
 . subst e;simp [hk]
 . have:i≠k:=Ne.symm e;simp [e,this]
theorem j8 {st:St} {o:Ob} (i:Nat):(st++[some o])[i]? =if i=st.length then some (some o)else st[i]? :=by
 by_cases e:i<st.length
 . rw [Jav e,if_neg (by omega)]
 . rw [Jas (by omega)]
   by_cases e':i=st.length
   . subst e';simp
   . rw [if_neg e',Ja0 (l:=st) (by omega)]
     have h1:i-st.length=(i-st.length-1)+1:=by omega
     rw [h1];simp
section
variable {P:Program} [Bd P] {D:TD} {g:G P} {st:St} {w:World} {n:Nat} {t:Tm} {a:Act} {o:Oper} {K X:Kn}
def jl (g:G P) (w:World) (cs:List T) (b off:Nat):Prop:= ∀(j:Nat) (u:T),cs[j]? =some u-> ∃y,w.cell? ⟨b,off+j,none⟩=some y/\y.oneCell'=true/\R g u y
theorem jl.of {cs:List T} {blk:Array Value} {b:Nat} {E:TypeId} {fr:Nat×Nat} (h:Cells g cs blk) (hb:w.heap[b]? =some (.cells blk E fr)) (off:Nat):jl g w (cs.drop off) b off:=by
 intro j u hj;rw [Jbo] at hj;obtain ⟨y,y1,y2,y3⟩:=h.at_ _ u hj;exact ⟨y,by simp [World.cell?,hb,y1],y2,y3⟩
theorem jl.take {cs:List T} {b off:Nat} (h:jl g w cs b off) (m:Nat):jl g w (cs.take m) b off:=by
 intro j u hj;rw [List.getElem?_take] at hj;split at hj
 . exact h j u hj
 . cases hj
theorem jl.ofR {cs:List T} {blk:Array Value} {b:Nat} {E:TypeId} {fr:Nat×Nat} (h:CellsR g cs blk) (hb:w.heap[b]? =some (.cells blk E fr)) (off m:Nat) (hp: ∀u∈(cs.drop off).take m,u.pure1=true):jl g w ((cs.drop off).take m) b off:=by
 intro j u hj;have hpu:=hp u (Ja3 hj);rw [List.getElem?_take] at hj;split at hj
 . rw [Jbo] at hj;obtain ⟨x,h1,h2,h3⟩:=h.at_ _ u hj hpu;exact ⟨x,by simp [World.cell?,hb,h1],h2,h3⟩
 . cases hj
theorem jl.drop {cs:List T} {b off:Nat} (h:jl g w cs b off) (m:Nat):jl g w (cs.drop m) b (off+m):=by
 intro j u hj;rw [Jbo] at hj;have:=h (m+j) u hj;rw [<- Nat.add_assoc] at this;exact this
theorem qd4 (hg:Good g st w) {v:T} {x:Value} (h:R g v x):(∀k off cs,v= .pt k off->rd st k=some (.cells cs)->meHead cs=false-> ∃b q,x= .pointer (some ⟨b,q,none⟩)/\jl g w (cs.drop off) b q)/\
  (∀e u j,v= .pr e u j-> ∃b q,x= .pointer (some ⟨b,q,none⟩)/\jl g w ((enc e u).drop j) b q)/\
  (∀e k ver i j l u,v= .pe e k ver i j->ju st e k ver=some l->l[i]? =some u-> ∃b q,x= .pointer (some ⟨b,q,none⟩)/\jl g w ((enc e u).drop j) b q):=by
 refine ⟨fun k off cs hv hr hm=> ?_,fun e u j hv=> ?_,fun e k ver i j l u hv hr hu=> ?_⟩
 . subst hv;cases h with
   | pt _ _ oi p1=>
    obtain ⟨oi',h1,h2,h3⟩:=hg.obj k _ (qc.1 hr);simp only [obVer] at h1;rw [p1] at h1;injection h1 with h1;subst h1;rcases h3 with h3 | ⟨_,blk,E,fr,h4,_,h5,_⟩
    . cases h3.1
    . simp only [vo,hm,vO] at h4;exact ⟨_,_,rfl,jl.of h5 h4 off⟩
 . subst hv;cases h with
   | pr _ _ _ b q cs p1 p2=>
    obtain ⟨blk,E,fr,h1,h2⟩:=hg.ro b cs p1;refine ⟨b,q+j,rfl, ?_⟩;rw [<- p2];exact (jl.ofR h2 h1 q _ (by rw [p2];exact yo _ _)).drop j
 . subst hv;cases h with
   | pe _ _ _ _ _ oi p1 p2=>
    obtain ⟨oi',h1,_,_,_,h2⟩:=hg.arr (qh hr);rw [p1] at h1;injection h1 with h1;subst h1;obtain ⟨_,blk,E,fr,h3,_,h4,_⟩:=h2 p2;refine ⟨oi.b,i*sz e+j,rfl, ?_⟩;rw [<- qjJ hu];exact ((jl.of h4 h3 _).take _).drop j
theorem wy {T0:TypeId} {ti:TI} (hT:TIok P T0 ti) {cs:List T} {off b q:Nat} {v:T} (hrow:jl g w (cs.drop off) b q)
  (h:(if ti.agg=true then (if off+ti.size<=cs.length then some (T.ag ((cs.drop off).take ti.size))else none)else cs[off]?)=some v): ∃y,(loadVar T0 ⟨b,q,none⟩).run P w= .ok y w/\R g v y:=by
 obtain ⟨d,hd,hd',_⟩:=hT.under;obtain ⟨i,hi,hi',_⟩:=hT.info;have hagg:(isAgg T0).run P w= .ok ti.agg w:=zw (by rw [qz2,hd];simp [hd']) w
 cases hag:ti.agg with
 | false=>
  simp only [hag,Ja5,if_false] at h;obtain ⟨y,y1,y2,y3⟩:=hrow 0 v (by rw [Jbo];simpa using h)
  refine ⟨y, ?_,y3⟩;rw [hag] at hagg;simp only [loadVar,Sem.run_bind,Sem.run_pure,Result.andThen_ok,hagg];simp at y1;simp [run_load,y1]
 | true=>
  simp only [hag,if_true] at h;split at h
  . rename_i hle;injection h with h;subst h;obtain ⟨ys,hl,hys⟩:=Qm ti.size (p:=fun j y=> ∃u,cs[off+j]? =some u/\w.cell? ⟨b,q+j,none⟩=some y/\y.oneCell'=true/\R g u y) (fun j hj=>by
     obtain ⟨y,hy⟩:=hrow j cs[off+j] (by rw [Jbo];simp)
     exact ⟨y,cs[off+j],by simp,hy⟩)
    have hload:(loadCells ⟨b,q,none⟩ ti.size).run P w= .ok ys.toArray w:=by
     rw [<- hl];exact run_loadCells_list w _ ys fun j y hj=>by
      obtain ⟨u,_,h2,_⟩:=hys j y hj;rw [Addr.add_lit];exact h2
    have hsz:(sizeOf T0).run P w= .ok ti.size w:=zw (by rw [jL,hi];simp [hi']) w
    rw [hag] at hagg;refine ⟨.agg ys.toArray, ?_,.ag _ _ (by simp;omega) (fun j c y hc hy=> ?_) (fun j y hy=> ?_)⟩
    . simp only [loadVar,Sem.run_bind,Sem.run_pure,Result.andThen_ok,hagg,hload,hsz,if_true]
    . obtain ⟨u,u1,_,_,u4⟩:=hys j y (by simpa using hy)
      have hj:j<ti.size:=by
       have:=(Jai.1 hc).1;simp at this;omega
      rw [Jbl hj,Jbo,u1] at hc;injection hc with hc;rw [<- hc];exact u4
    . obtain ⟨_,_,_,u3,_⟩:=hys j y (by simpa using hy)
      exact u3
  . cases h
theorem qBJ {e:El} {l:List (ty e)} {y:Value} (h:R g (.ag (encs e l)) y):R g (.al e l) y:=by
 cases h with
 | ag _ xs h1 h2 h3=>exact .al e l xs h1 h2 h3
theorem YR {T0:TypeId} {ti:TI} (hT:TIok P T0 ti) (hg:Good g st w) {v:T} {x:Value} {K:T->Prop} (hR:R g v x) (h:Qd ti st v K): ∃ad y u,x= .pointer (some ad)/\(loadVar T0 ad).run P w= .ok y w/\R g u y/\K u:=by
 obtain ⟨q1,q2,q3⟩:=qd4 hg hR;unfold Qd at h;split at h
 . rename_i k off;split at h;case h_2=>exact h.elim
   rename_i cs hr;split at h;case h_2=>exact h.elim
   rename_i hm;obtain ⟨u,hK,hs⟩:=vu h;obtain ⟨b,q,rfl,hrow⟩:=q1 k off cs rfl hr hm;obtain ⟨y,y1,y2⟩:=wy hT hrow hs;exact ⟨_,y,u,rfl,y1,y2,hK⟩
 . rename_i e z j;obtain ⟨u,hK,hs⟩:=vu h;obtain ⟨b,q,rfl,hrow⟩:=q2 e z j rfl;obtain ⟨y,y1,y2⟩:=wy hT hrow hs;exact ⟨_,y,u,rfl,y1,y2,hK⟩
 . rename_i e k ver i j;split at h;case h_2=>exact h.elim
   rename_i l hr;split at h
   . split at h;case h_2=>exact h.elim
     rename_i hag;obtain ⟨hlen,hK⟩:=h;cases hR with
     | pe _ _ _ _ _ oi p1 p2=>
     obtain ⟨oi',h1,_,_,_,h5⟩:=hg.arr (qh hr);rw [p1] at h1;injection h1 with h1;subst h1;obtain ⟨_,blk,E,fr,b1,_,b3,_⟩:=h5 p2;have hrow:=jl.of b3 b1 0;obtain ⟨y,y1,y2⟩:=wy hT (cs:=encs e l) (off:=0) (v:= .ag (encs e l)) hrow (by
      rw [if_pos hag,if_pos (by rw [qg,hlen];omega),Jby,Jbm (by rw [qg,hlen];exact Jam _)])
     exact ⟨_,y,_,rfl,by rw [Nat.zero_mul];exact y1,qBJ y2,hK⟩
   obtain ⟨z,hz,h⟩:=h;obtain ⟨u,hK,hs⟩:=vu h;obtain ⟨b,q,rfl,hrow⟩:=q3 e k ver i j l z rfl hr hz;obtain ⟨y,y1,y2⟩:=wy hT hrow hs;exact ⟨_,y,u,rfl,y1,y2,hK⟩
 . exact h.elim
theorem qaY (hD:zY P D) (hg:Good g st w) (ht:RelT g n t a) {T0:TypeId} {x:Operand} (ho:o.op= .load T0 x) {ti:TI} (hti:zx D T0=some ti) (h:Qd ti st (ev t x) fun v=>K v st):xU P o a g st w K X:=by
 obtain ⟨ad,y,u,h1,h2,h3,h4⟩:=YR (hD _ _ hti) hg (ht.ev x) h;exact xq (x:=y) hg (by simp only [execOp,ho,Instr.loadAt,h1,Instr.sureAddr,Sem.run_bind,Sem.run_pure,Result.andThen_ok,h2]) h3 h4
theorem xH (hg:Good g st w) {k:Nat} {o':Ob} (h:st[k]? =some (some o')) {u:Nat} {oi:OI} (hu:g.ob k u=some oi):u<=obVer o':=(hg.old k u oi hu).2 o' h
theorem zu (hg:Good g st w) {u:Nat}:g.ob st.length u=none:=by
 cases h:g.ob st.length u with
 | none=>rfl
 | some oi=>have:=(hg.old _ _ _ h).1;omega
theorem zS {k:Nat} {o':Ob} {oi:OI} (h:g.ob k (obVer o')=some oi) (hn: ¬(qn o'=true/\oi.cap=0)):obBlk g k o'=some oi.b:=by
 unfold obBlk;rw [h];simp only;rw [if_neg hn]
theorem Vd {cs:List T}:zk cs=true↔cs[0]? =some .fp:=by
 cases cs with
 | nil=>simp [zk]
 | cons v r=>cases v<;>simp [zk]
theorem VK {cs:List T}:meHead cs=true↔ ∃v,cs[0]? =some v/\me1 v=true:=by
 cases cs with
 | nil=>simp [meHead]
 | cons v r=>simp [meHead]
theorem qJO {cs xs:List T} {q:Nat} (h:q+xs.length<=cs.length) (hx:meHead xs=false) (hc:meHead cs=false):meHead (vK cs q xs)=false:=by
 refine Bool.eq_false_iff.2 fun hh=> ?_
 obtain ⟨v,hh,hv⟩:=VK.1 hh;rw [xd h] at hh;split at hh
 . rename_i e0;obtain rfl:q=0:=by omega
   rw [Nat.sub_zero] at hh;rw [VK.2 ⟨v,hh,hv⟩] at hx;cases hx
 . rw [VK.2 ⟨v,hh,hv⟩] at hc;cases hc
theorem qyz {cs xs:List T} {q:Nat} (h:q+xs.length<=cs.length) (hx:zk xs=false) (hh:zk (vK cs q xs)=true):zk cs=true:=by
 rw [Vd,xd h] at hh;split at hh
 . rename_i e;obtain rfl:q=0:=by omega
   rw [Nat.sub_zero, <- Vd,hx] at hh;cases hh
 . exact Vd.2 hh
def qQv:Ob->Ob->Prop
 | .cells cs,.cells cs'=>cs'.length=cs.length
 | .arr _ e _,.arr _ e' _=>e'=e
 | _,_=>False
theorem qjL (hg:Good g st w) {T0:TypeId} {ti:TI} (hT:TIok P T0 ti) {x y:Operand} (ho:o.op= .store T0 x y) {k q:Nat} {ob ob':Ob} {oi:OI} {xs:List T} (hk:st[k]? =some (some ob)) (hoi:g.ob k (obVer ob)=some oi) (hn: ¬(qn ob=true/\oi.cap=0))
  (hx:a.eval x= .pointer (some ⟨oi.b,q,none⟩)) (hy:R g (.ag xs) (.agg (a.eval y).cells)) (hxs:xs.length=ti.size) (hq:q+xs.length<=(qZ ob).length)
  (hob:obVer ob'=obVer ob/\qn ob'=qn ob) (hc: ∀(j:Nat) (u:T),(qZ ob')[j]? =some u-> ∃u',(vK (qZ ob) q xs)[j]? =some u'/\ ∀z,R g u' z->R g u z) (hl:(qZ ob').length=(qZ ob).length) (hfit:obFits ob' oi)
  (hsz:qQv ob ob') (hmp:vo ob=false/\vo ob'=false) (hfp:qn ob'=false->zk (qZ ob')=true->zk (qZ ob)=true) (hK:K .undef (st.set k (some ob'))):xU P o a g st w K X:=by
 obtain ⟨oi',h1,_,_,hro,blk,E,fr,g1,g2,g3,g4⟩:=hg.own hk (zS hoi hn);rw [hmp.1] at g1;have g1:w.heap[oi.b]? =some (.cells blk E fr):=g1;rw [hoi] at h1;injection h1 with h1;subst h1;obtain ⟨i,hi,hi',_⟩:=hT.info;cases hy with
 | ag _ _ r1 r2 r3=>
 have hlen:(a.eval y).cells.toList.length=xs.length:=by simp [r1]
 have hall: ∀v∈(a.eval y).cells.toList,v.oneCell'=true:=by
  intro v hv;obtain ⟨j,hj⟩:=List.getElem?_of_mem hv;exact r3 j v (by simpa using hj)
 obtain ⟨w',blk',a1,a2,a3,a4,a5,a6,a7,a8,a9⟩:=wj (P:=P) oi.b q (a.eval y).cells.toList 0 w blk E fr g1 g2 (by have:=g3.le;omega) hall
 have hszr:(sizeOf T0).run P w= .ok ti.size w:=zw (by rw [jL,hi];simp [hi']) w
 have hrun:(execOp a.eval o).run P w= .ok .skip w':=by
  simp only [execOp,ho,Instr.storeAt,hx,Instr.sureAddr,storeVar,Sem.run_bind,Sem.run_pure,Result.andThen_ok,hszr];rw [if_neg (by omega)]
  simp [a1]
 intro K' Q' hK' _;unfold Oper.wp;rw [hrun];have hkl:k<st.length:=(Jai.1 hk).1;have hwide:jt ob' oi E blk'.size:=by
  rw [a3];cases ob<;>cases ob'<;>simp only [qQv,jt] at hsz g4 ⊢
  . exact yF (hfp rfl) g4
  . subst hsz;exact g4
 have hcells: ∀(j:Nat) (u:T),(qZ ob')[j]? =some u-> ∃x:Value,blk'[j]? =some x/\x.oneCell'=true/\R g u x:=by
  intro j u hj;obtain ⟨u',hu',himp⟩:=hc j u hj;rw [xd (by omega)] at hu'
  have hb:=a4 j;simp only [Jcg,hlen] at hb;by_cases e:q<=j/\j<q+xs.length
  . rw [if_pos e] at hu' hb;have hlt:j-q< (a.eval y).cells.size:=by omega
    refine ⟨(a.eval y).cells[j-q],by rw [hb];simp [hlt],r3 _ _ (Jaw hlt),himp _ (r2 _ _ _ hu' (Jaw hlt))⟩
  . rw [if_neg e] at hu' hb;obtain ⟨z,z1,z2,z3⟩:=g3.at_ _ u' hu';exact ⟨z,by rw [hb];exact z1,z2,himp z z3⟩
 obtain ⟨k1,k2,k3⟩:=zv (st':=st.set k (some ob')) (o':=ob') (oi:=oi) (w':=w') hg (ko hkl) (by omega) (by simp) hob.1 (.inr hoi) (fun u oi' hu=>xH hg hk hu) hfit
  (fun _=> .inr ⟨ob,hk,zS hoi hn⟩) a7 a8 a9 (by omega) (fun b _ hb=>a5 b fun e=>hb ob hk (by rw [zS hoi hn,e])) (fun _=>⟨blk',E,fr,by rw [hmp.2];exact a2,by rw [a3];exact g2,⟨by rw [a3,hl];exact g3.le,hcells⟩,hwide⟩) (fun o2 ho2=>by
   rw [hk] at ho2;simp only [Jah] at ho2;subst ho2;cases ob<;>cases ob'<;>simp only [qQv] at hsz
   . exact ⟨_,rfl,hsz,hoi⟩
   . subst hsz;exact ⟨_,_,rfl⟩)
 exact hK' _ _ _ _ _ hK k1 ⟨k3,ja (.inl ⟨_,hk⟩)⟩ k2 (.undef _)
theorem qXH (hD:zY P D) (hg:Good g st w) (ht:RelT g n t a) {T0:TypeId} {x y:Operand} (ho:o.op= .store T0 x y) {ti:TI} (hti:zx D T0=some ti) (h:kb ti st (ev t x) (ev t y) fun s=>K .undef s):xU P o a g st w K X:=by
 unfold kb at h;split at h;case h_1=>
  rename_i e' l' hal;have hy0:=ht.ev y;have hyv:ev t y= .al e' l':=by
   generalize ev t y=v at hal;cases v<;>simp only [qrZ,reduceCtorEq,Jah] at hal
   cases hal;rfl
  rw [hyv] at hy0;have hR:=ht.ev x;unfold Wx at h;generalize hv:ev t x=xv at hR h;generalize he:a.eval x=ex at hR;split at h;case h_2=>exact h.elim
  rename_i e k ver;split at h;case isFalse=>exact h.elim
  rename_i hee;subst hee;split at h;case h_2=>exact h.elim
  rename_i l hr;obtain ⟨⟨hsz,hll⟩,h⟩:=h;simp only [jX] at h;cases hR with
  | pe _ _ _ _ _ oi p1 p2=>
   obtain ⟨oi',h1,f1,f2,f3,_⟩:=hg.arr (qh hr);rw [p1] at h1;injection h1 with h1;subst h1;have hy:R g (.ag (encs e' l')) (.agg (a.eval y).cells):=by
    generalize a.eval y=yv at hy0;cases hy0 with
    | al _ _ xs k1 k2 k3=>exact .ag _ xs k1 k2 k3
   refine qjL hg (hD _ _ hti) ho (ob:= .arr ver e' l) (ob':= .arr ver e' l') (qh hr) p1 (by simp [p2]) (q:=0) (by rw [he,Nat.zero_mul]) hy (by rw [qg,hsz]) (by simp only [qZ,qg,hll];omega) ⟨rfl,rfl⟩ (fun m v hm=>⟨v, ?_,fun _ h=>h⟩) (by simp only [qZ,qg,hll]) ⟨by rw [hll];exact f1.symm▸rfl,f2,f3⟩ rfl ⟨rfl,rfl⟩ (fun hh=>by cases hh) h
   simp only [qZ] at hm ⊢;rw [xd (by rw [qg,qg,hll];omega),if_pos ⟨Jbt _,by have:=(Jai.1 hm).1;omega⟩]
   exact hm
 split at h;case h_2=>exact h.elim
 rename_i xs hxs;split at h;case h_2=>exact h.elim
 rename_i hlen;simp only [Jbk] at hlen;have hy:=ZD (ht.ev y) hxs;have hR:=ht.ev x;generalize hv:ev t x=xv at hR h;generalize he:a.eval x=ex at hR;split at h
 . rename_i k off;split at h;case h_2=>exact h.elim
   rename_i cs hr;split at h;case h_2=>exact h.elim
   rename_i hoff;simp only [Jaq,Bool.not_eq_true',Jbk] at hoff;obtain ⟨hmh,hoff⟩:=hoff;cases hR with
   | pt _ _ oi p1=>
    exact qjL hg (hD _ _ hti) ho (ob:= .cells cs) (ob':= .cells (vK cs off xs)) (qc.1 hr) p1 (by simp [qn]) he hy hlen hoff ⟨rfl,rfl⟩ (fun j u hj=>⟨u,hj,fun _ h=>h⟩) (xX hoff) trivial (xX hoff) ⟨hmh,qJO hoff (Zu hxs) hmh⟩ (fun _ hh=>qyz hoff (JW hxs) hh) h
 . rename_i e k ver i j;split at h;case h_2=>exact h.elim
   rename_i l hr;obtain ⟨z,hz,h⟩:=h;split at h;case h_2=>exact h.elim
   rename_i hj;simp only [Jbk] at hj;split at h;case h_2=>exact h.elim
   rename_i u hu;cases hR with
   | pe _ _ _ _ _ oi p1 p2=>
    obtain ⟨oi',h1,f1,f2,f3,_⟩:=hg.arr (qh hr);rw [p1] at h1;injection h1 with h1;subst h1;have hil:i<l.length:=(Jai.1 hz).1;have hi1:i*sz e+sz e<=l.length*sz e:=by rw [<- Nat.succ_mul];exact Nat.mul_le_mul_right _ hil
    obtain ⟨d1,d2⟩:=dec_ok e _ u hu;have hsp:(vK (enc e z) j xs).length=sz e:=by rw [xX (by rw [zF];exact hj),zF]
    refine qjL hg (hD _ _ hti) ho (ob:= .arr ver e l) (ob':= .arr ver e (l.set i u)) (qh hr) p1 (by simp [p2]) he hy hlen (by simp only [qZ,qg];omega) ⟨rfl,rfl⟩ (fun m v hm=> ?_) (by simp [qZ,qg]) ⟨by simp [f1],f2,f3⟩ rfl ⟨rfl,rfl⟩ (fun hh=>by cases hh) h
    simp only [qZ] at hm ⊢;have hml:m< (l.set i u).length*sz e:=by rw [<- qg];exact (Jai.1 hm).1
    rw [List.length_set] at hml;have hp:=ye e;have hmd:m / sz e<l.length:=Nat.div_lt_of_lt_mul (by rw [Nat.mul_comm];exact hml)
    have hme:m=m / sz e*sz e+m%sz e:=by rw [Nat.mul_comm];exact (Nat.div_add_mod m (sz e)).symm
    have hmr:=Nat.mod_lt m hp;generalize m / sz e=p at *;generalize m%sz e=r at *;subst hme;rw [xd (by rw [qg];omega)]
    by_cases hpi:p=i
    . subst hpi;rw [vl (x:=u) (by rw [List.getElem?_set_self hil]) hmr] at hm
      obtain ⟨c,c1,c2⟩:=d2 r v hm;rw [xd (by rw [zF];exact hj)] at c1
      by_cases hin:j<=r/\r<j+xs.length
      . rw [if_pos hin] at c1;rw [if_pos (by omega),show p*sz e+r- (p*sz e+j)=r-j by omega]
        exact ⟨c,c1,fun z=>c2 g z⟩
      . rw [if_neg hin] at c1;rw [if_neg (by omega),vl hz hmr]
        exact ⟨c,c1,fun z=>c2 g z⟩
    . have hpl:(l.set i u)[p]? =some l[p]:=by rw [List.getElem?_set_ne (Ne.symm hpi)];simp [hmd]
      rw [vl hpl hmr] at hm;have:p*sz e+sz e<=i*sz e∨i*sz e+sz e<=p*sz e:=by
       rcases Nat.lt_or_gt_of_ne hpi with h1 | h1
       . left;rw [<- Nat.succ_mul];exact Nat.mul_le_mul_right _ h1
       . right;rw [<- Nat.succ_mul];exact Nat.mul_le_mul_right _ h1
      rw [if_neg (by omega),vl (x:=l[p]) (by simp [hmd]) hmr]
      exact ⟨v,hm,fun _ h=>h⟩
 . exact h.elim
theorem qZG (hg:Good g st w) {z:List T} {E:TypeId} {x:Value}
  (hrun:(execOp a.eval o).run P w= .ok (.value (.pointer (some ⟨w.heap.size,0,none⟩))) (w.alloc (.cells x.cells E))) (hx:R g (.ag z) (.agg x.cells)) (hW:cellW z E z.length=true) (hM:meHead z=false) (hK:K (.pt st.length 0) (st++[some (.cells z)])):xU P o a g st w K X:=by
 intro K' Q' hK' _;unfold Oper.wp;rw [hrun];cases hx with
 | ag _ _ h1 h2 h3=>
  obtain ⟨k1,k2,k3⟩:=zv (st':=st++[some (.cells z)]) (k:=st.length) (v:=0) (o':= .cells z) (oi:=⟨w.heap.size,0,0⟩) (w':=w.alloc (.cells x.cells E)) hg j8 (Jam _) (by simp) rfl (.inl (zu hg)) (fun u oi hu=>by rw [zu hg] at hu;cases hu) trivial
   (fun _=> .inl (Jam _)) rfl rfl rfl (by simp) (fun b hb _=>Below.heap_alloc w _ b hb) (fun _=>⟨x.cells,E,(0,0),by simp only [vo,hM];exact heap_alloc_new w _,fun q _ h=>absurd h.2 (Ja7 _),⟨by simp only [qZ];omega,fun j u hu=>by
    simp only [qZ] at hu;have hj:j<x.cells.size:=by rw [<- h1];exact (Jai.1 hu).1
    exact ⟨x.cells[j],by simp [hj],h3 j _ (by simp [hj]),h2 j u _ hu (by simp [hj])⟩⟩,by simp only [jt];rw [<- show z.length=x.cells.size from h1];exact hW⟩) (fun o ho=>by rw [Ja0 (Jam _)] at ho;cases ho)
  exact hK' _ _ _ _ _ hK k1 ⟨k3,ja (.inr rfl)⟩ k2 (.pt _ 0 ⟨w.heap.size,0,0⟩ (by simp [G.set]))
theorem qbr (hg:Good g st w) (ht:RelT g n t a) {T0:TypeId} {x:Operand} {z:List T} (ho:o.op= .box T0 x) (h:cellsOf (ev t x)=some z) (hK:K (.pt st.length 0) (st++[some (.cells z)])):xU P o a g st w K X:=
 qZG (x:=a.eval x) (E:=T0) hg (by simp only [execOp,ho,Instr.box,newVar,newRow,newObj,Sem.run_bind,Sem.run_pure,Result.andThen_ok];rfl) (ZD (ht.ev x) h) (qvA (JW h)) (Zu h) hK
theorem qJk (hD:zY P D) (hg:Good g st w) {T0:TypeId} {ti:TI} {z:List T} (ho:o.op= .alloc T0) (hti:zx D T0=some ti) (h:ti.zero=some z) (hK:K (.pt st.length 0) (st++[some (.cells z)])):xU P o a g st w K X:=by
 obtain ⟨i,x,h1,h2,h3⟩:=Qf (g:=g) (hD _ _ hti) h;obtain ⟨_,_,_,_,h4⟩:=(hD _ _ hti).info;obtain ⟨⟨_,_,hc4,hW⟩,_⟩:=h4 z h;have hM:meHead z=false:=by
  have:=Zu hc4;cases z with
  | nil=>rfl
  | cons c r=>cases c<;>first | rfl | exact this
 have hz:(zeroValue T0).run P w= .ok x w:=zw (by rw [wD,h1];simp [h2]) w
 exact qZG (x:=x) (E:=T0) hg (by simp only [execOp,ho,Instr.alloc,newVar,newRow,newObj,Sem.run_bind,Sem.run_pure,Result.andThen_ok,hz];rfl) h3 hW hM hK
theorem qVb (hg:Good g st w) {z:List T} {E:TypeId} {x:Value} {e:El} {l:List (ty e)}
  (hrun:(execOp a.eval o).run P w= .ok (.value (.pointer (some ⟨w.heap.size,0,none⟩))) (w.alloc (.cells x.cells E))) (hx:R g (.ag z) (.agg x.cells)) (hz:l.length*sz e=z.length) (h0:0<l.length) (hm:l.length<=maxLen) (hE:elTy e E=true)
  (hl: ∀(j:Nat) (u:T),(encs e l)[j]? =some u-> ∃c,z[j]? =some c/\ ∀(g:G P) (y:Value),R g c y->R g u y) (hK:K (.pe e st.length 0 0 0) (st++[some (.arr 0 e l)])):xU P o a g st w K X:=by
 intro K' Q' hK' _;unfold Oper.wp;rw [hrun];cases hx with
 | ag _ _ h1 h2 h3=>
  obtain ⟨k1,k2,k3⟩:=zv (st':=st++[some (.arr 0 e l)]) (k:=st.length) (v:=0) (o':= .arr 0 e l) (oi:=⟨w.heap.size,l.length,l.length⟩) (w':=w.alloc (.cells x.cells E)) hg j8 (Jam _) (by simp) rfl (.inl (zu hg)) (fun u oi hu=>by rw [zu hg] at hu;cases hu) ⟨rfl,Jam _,hm⟩
   (fun _=> .inl (Jam _)) rfl rfl rfl (by simp) (fun b hb _=>Below.heap_alloc w _ b hb) (fun _=>⟨x.cells,E,(0,0),heap_alloc_new w _,fun q _ h=>absurd h.2 (Ja7 _),⟨by simp only [qZ,qg];omega,fun j u hu=>by
    simp only [qZ] at hu;obtain ⟨c,c1,c2⟩:=hl j u hu;have hj:j<x.cells.size:=by rw [<- h1];exact (Jai.1 c1).1
    exact ⟨x.cells[j],by simp [hj],h3 j _ (by simp [hj]),c2 g _ (h2 j c _ c1 (by simp [hj]))⟩⟩,by simp only [jt];exact ⟨by omega,hE⟩⟩) (fun o ho=>by rw [Ja0 (Jam _)] at ho;cases ho)
  exact hK' _ _ _ _ _ hK k1 ⟨k3,ja (.inr rfl)⟩ k2 (by
   have:=R.pe (g:=g.set st.length 0 ⟨w.heap.size,l.length,l.length⟩) e st.length 0 0 0 ⟨w.heap.size,l.length,l.length⟩ (by simp [G.set]) (by simp only;omega)
   rw [Nat.zero_mul] at this;exact this)
end
end
section
open Go.RowKit
variable {P:Program} [Bd P]
section
variable {P:Program} [Bd P] {D:TD} {g:G P} {st:St} {w:World} {n:Nat} {t:Tm} {a:Act} {o:Oper} {K X:Kn}
theorem xe {v:T} {K:Int->Prop} (h:asInt v K): ∃k n,v= .int k n/\K n:=by
 unfold asInt at h;split at h
 . exact ⟨_,_,rfl,h⟩
 . exact h.elim
theorem wa {k:IntKind} {m:Int} {x:Value} (h:R g (.int k m) x):x= .int k m:=by cases h;rfl
theorem Q9 (hD:zY P D) {T0:TypeId} {e:El} (h:VV D T0=some e): ∃t' i,P.underlying T0=some (.slice t')/\P.info? t'=some i/\i.size=sz e:=by
 unfold VV at h;split at h;case h_2=>cases h
 rename_i ti hti;split at h;case h_2=>cases h
 rename_i t' hs;split at h;case h_2=>cases h
 rename_i te hte;obtain ⟨i,hi,hi',_⟩:=(hD _ _ hte).info;exact ⟨t',i,zf (hD _ _ hti) hs,hi,by rw [hi',((hD _ _ hte).el e h).1]⟩
theorem qqN (hD:zY P D) (hg:Good g st w) (ht:RelT g n t a) {T0:TypeId} {x y:Operand} (ho:o.op= .indexAddr T0 x y) (h:zT D T0 st (ev t x) (ev t y) fun v=>K v st):xU P o a g st w K X:=by
 unfold zT at h;split at h;case h_2=>exact h.elim
 rename_i k m hy;have hy':=wa (by have:=ht.ev y;rw [hy] at this;exact this)
 have hR:=ht.ev x;generalize hv:ev t x=xv at hR h;generalize he:a.eval x=ex at hR;split at h
 . rename_i full e l;split at h;case isFalse=>exact h.elim
   rename_i hk;obtain ⟨t',i,hu,hi,hsz⟩:=Q9 hD hk;obtain ⟨h0,u,hu',hK⟩:=h;have hlt:=(Jai.1 hu').1;cases hR with
   | sl _ _ _ A c h1 h2 h3 h4=>
    obtain ⟨b,off,cs,rfl,hro,henc⟩:=h4 (by rintro rfl;simp at hlt)
    have hlt':m< (l.length:Int):=by omega
    refine qk (x:= .pointer (some ⟨b,off+m.toNat*sz e+0,none⟩)) hg ?_ (.pr e u 0 b _ cs hro ?_) hK
    . simp [execOp,ho,Instr.indexAt,he,hy',asIntOf,qv,hu,hi,hsz,h0,hlt',Addr.add_lit]
    . rw [<- qjJ hu', <- henc];have:m.toNat*sz e+sz e<=l.length*sz e:=by rw [<- Nat.succ_mul];exact Nat.mul_le_mul_right _ hlt
      rw [List.drop_take,List.take_take,List.drop_drop,Nat.min_eq_left (by omega)]
 . rename_i e k0 ver;split at h;case isFalse=>exact h.elim
   rename_i hk;obtain ⟨t',i,hu,hi,hsz⟩:=Q9 hD hk;split at h;case h_2=>exact h.elim
   rename_i l hl;obtain ⟨h0,hlt,hK⟩:=h;cases hR with
   | oa _ _ _ oi A p1 p2 p3 p4=>
    obtain ⟨oi',q1,q2,_⟩:=hg.arr (qh hl);rw [p1] at q1;injection q1 with q1;subst q1;have hc:oi.cap≠0:=by omega
    have:=p2 hc;subst this;have hlt':m< (oi.len:Int):=by omega
    refine qk (x:= .pointer (some ⟨oi.b,m.toNat*sz e+0,none⟩)) hg ?_ (.pe e k0 ver _ 0 oi p1 hc) hK;simp [execOp,ho,Instr.indexAt,he,hy',asIntOf,qv,hu,hi,hsz,h0,hlt',Addr.add_lit]
 . rename_i e k0 ver off m0;split at h;case isFalse=>exact h.elim
   rename_i hk;obtain ⟨t',i,hu,hi,hsz⟩:=Q9 hD hk;split at h;case h_2=>exact h.elim
   rename_i l hl;obtain ⟨h0,hlt,hK⟩:=h;cases hR with
   | os _ _ _ _ _ oi A c p1 p2 p3 p4 p5 p6=>
    have:=p3 (by omega)
    subst this;have hlt':m< (m0:Int):=by omega
    refine qk (x:= .pointer (some ⟨oi.b,(off+m.toNat)*sz e+0,none⟩)) hg ?_ (.pe e k0 ver _ 0 oi p1 (by omega)) hK
    simp [execOp,ho,Instr.indexAt,he,hy',asIntOf,qv,hu,hi,hsz,h0,hlt',Addr.add_lit,Nat.add_mul]
 . rename_i k0 off;split at h;case h_2=>exact h.elim
   rename_i ti hti;split at h;case h_2=>exact h.elim
   rename_i m0 e hs;split at h;case h_2=>exact h.elim
   rename_i te hte;obtain ⟨h0,hlt,hK⟩:=h;have hu:=wO (hD _ _ hti) hs;obtain ⟨i,hi,hi',_⟩:=(hD _ _ hte).info;cases hR with
   | pt _ _ oi p1=>
    have hlt':m< (m0:Int):=by omega
    refine qk (x:= .pointer (some ⟨oi.b,off+m.toNat*te.size,none⟩)) hg ?_ (.pt k0 _ oi p1) hK;simp [execOp,ho,Instr.indexAt,he,hy',asIntOf,qv,hu,hi,hi',h0,hlt',Addr.add_lit,Instr.sureAddr]
 . rename_i e k0 ver;split at h;case h_2=>exact h.elim
   rename_i ti hti;split at h;case h_2=>exact h.elim
   rename_i m0 t' hs;split at h;case h_2=>exact h.elim
   rename_i te hte;split at h;case h_2=>exact h.elim
   rename_i e' hel;split at h;case isFalse=>exact h.elim
   rename_i hee;subst hee;obtain ⟨h0,hlt,hK⟩:=h;have hu:=wO (hD _ _ hti) hs;obtain ⟨i,hi,hi',_⟩:=(hD _ _ hte).info;have hsz:=((hD _ _ hte).el _ hel).1;cases hR with
   | pe _ _ _ _ _ oi p1 p2=>
    have hlt':m< (m0:Int):=by omega
    refine qk (x:= .pointer (some ⟨oi.b,m.toNat*sz e'+0,none⟩)) hg ?_ (.pe e' k0 ver _ 0 oi p1 p2) hK;simp [execOp,ho,Instr.indexAt,he,hy',asIntOf,qv,hu,hi,hi',hsz,h0,hlt',Addr.add_lit,Instr.sureAddr]
 . exact h.elim
theorem qXd (hD:zY P D) (hg:Good g st w) (ht:RelT g n t a) {T0:TypeId} {x y:Operand} (ho:o.op= .index T0 x y) (h:yd D T0 (ev t x) (ev t y) fun v=>K v st):xU P o a g st w K X:=by
 unfold yd at h;split at h;case h_2=>exact h.elim
 rename_i k m hy;have hy':=wa (by have:=ht.ev y;rw [hy] at this;exact this)
 have hR:=ht.ev x;generalize hv:ev t x=xv at hR h;generalize he:a.eval x=ex at hR;split at h;case h_2=>exact h.elim
 rename_i ti hti;split at h
 . rename_i s hs;have hu:=Q7 (hD _ _ hti) hs;obtain ⟨h0,b,hb,hK⟩:=h;cases hR;exact qk (x:= .int .u8 b.toNat) hg (by simp [execOp,ho,Instr.index,he,hy',asIntOf,qv,hu,h0,hb]) (.int _ _) hK
 . rename_i m0 e cs hs;split at h;case h_2=>exact h.elim
   rename_i te hte;obtain ⟨h0,hlt,h⟩:0<=m/\m.toNat<m0/\jS te.agg te.size cs (m.toNat*te.size) fun v=>K v st:=by
    split at h
    . rename_i l hl;obtain ⟨h0,hlt,s,hs,hK⟩:=h;exact ⟨h0,hlt,qXh (K:=fun v=>K v st) hl hs hK⟩
    . split at h
      . rename_i l hl;obtain ⟨h0,hlt,s,hs,hK⟩:=h;exact ⟨h0,hlt,qXR (K:=fun v=>K v st) hl hs hK⟩
      . exact h
   have hu:=wO (hD _ _ hti) hs;obtain ⟨i,hi,hi',_⟩:=(hD _ _ hte).info;obtain ⟨v,hK,hsub⟩:=vu h;cases hR with
   | ag _ xs k1 k2 k3=>
    obtain ⟨z,z1,z2⟩:=Kd (hD _ _ hte) (R.ag cs xs k1 k2 k3) hsub;have hlt':m< (m0:Int):=by omega
    exact qk (x:=z) hg (by simp [execOp,ho,Instr.index,he,hy',asIntOf,qv,hu,h0,hlt',hi,hi',z1]) z2 hK
 . exact h.elim
theorem qwI (hg:Good g st w) (ht:RelT g n t a) {x:Operand} {i:Nat} {vs:List T} {v:T} (ho:o.op= .extract x i) (h1:ev t x= .tu vs) (h:vs[i]? =some v) (hK:K v st):xU P o a g st w K X:=by
 have hR:=ht.ev x;rw [h1] at hR;generalize he:a.eval x=ex at hR;cases hR with
 | tu _ xs k1 k2=>
  have hlt:i<xs.size:=by rw [<- k1];exact (Jai.1 h).1
  refine qk (x:=xs[i]) hg ?_ (k2 i v _ h (by simp [hlt])) hK
  simp [execOp,ho,he,Instr.extract,hlt,qv]
theorem qjU (hg:Good g st w) (ht:RelT g n t a) {f:FuncId} {xs ys:Array Operand} (hy:(ytab f).isNone=true) (ho:o.op= .makeFunc (.func f) xs ys) (hK:K (.fn f (xs.toList.map (ev t)) (ys.toList.map (ev t))) st):xU P o a g st w K X:=by
 refine qk (x:= .func (.func f) (xs.map a.eval) (ys.map a.eval)) hg (by simp only [execOp,ho,Instr.makeFunc];rfl) (.fn f _ _ _ _ hy (by simp) (by simp) (fun i c x hc hx=> ?_) (fun i c x hc hx=> ?_)) hK
 . simp only [Jax,Jbz,Ja2] at hc;obtain ⟨q,q1,rfl⟩:=hc;simp only [Array.getElem?_map,q1,Ja8,Jah] at hx;subst hx;exact ht.ev q
 . simp only [Jax,Jbz,Ja2] at hc;obtain ⟨q,q1,rfl⟩:=hc;simp only [Array.getElem?_map,q1,Ja8,Jah] at hx;subst hx;exact ht.ev q
theorem qeT {x y:Int}:(x==y)=decide (x=y):=by rw [Bool.eq_iff_iff];simp
theorem kp {a b:ByteArray}:(a.toList==b.toList)=decide (a=b):=by
 rw [Bool.eq_iff_iff];simp only [beq_iff_eq,Jbk,ByteArray.toList_eq];exact ⟨fun h=>ByteArray.ext (Array.toList_inj.1 h),fun h=>by rw [h]⟩
theorem qls {op:BinOp} {p q:Int} {c:Bool} (h:qcI op p q=some c):quiet P (Op.intCmp op p q)=some (.bool c):=by
 cases op<;>simp only [qcI,reduceCtorEq,Jah] at h<;>subst h<;>simp only [Op.intCmp,qM,qeT,bne]<;>rfl
theorem JA {op:BinOp} {k:IntKind} {p q:Int} (h:op= .and∨op= .or∨op= .xor∨op= .andNot):quiet P (Op.intBits op k p q)=some (.int k (qb op k p q)):=by
 rcases h with rfl | rfl | rfl | rfl<;>rfl
theorem xa {op:BinOp} {T0 U:TypeId} {x y:Operand} {p q v:Value} (ho:o.op= .binOp op T0 x y U) (hx:a.eval x=p) (hy:a.eval y=q) (hgd:eqGuard op T0 x y p q=pure ()) (h:quiet P (binOp op T0 p q)=some v):quiet P (execOp a.eval o)=some (.value v):=by
 simp only [execOp,ho,hx,hy,hgd,qv,qM,Jaz,h]
theorem X6 {op:BinOp} {T0:TypeId} {x y:Operand} {k k':IntKind} {p q:Int}:eqGuard op T0 x y (.int k p) (.int k' q)=pure ():=by cases op<;>rfl
theorem qZ6 {op:BinOp} {T0:TypeId} {x y:Operand} {p q:ByteArray}:eqGuard op T0 x y (.string p) (.string q)=pure ():=by cases op<;>rfl
theorem qqp {op:BinOp} {T0:TypeId} {x y:Operand} {p q:Bool}:eqGuard op T0 x y (.bool p) (.bool q)=pure ():=by cases op<;>rfl
theorem VD {op:BinOp} {T0:TypeId} {x y:Operand} {A B:Option Addr} {p q r s:Nat}:eqGuard op T0 x y (.slice A p q) (.slice B r s)=pure ():=by cases op<;>rfl
theorem qqx {T0 e:TypeId} (h:P.underlying T0=some (.slice e)) (A:Option Addr) (m c:Nat):quiet P (Op.equal T0 (.slice A m c) (.slice none 0 0))=some A.isNone:=by
 have key: ∀d,quiet P (Op.equalIn (d+1) T0 (.slice A m c) (.slice none 0 0))=some A.isNone:=fun d=>by
  cases A<;>simp [Op.equalIn,qv,h]
 exact key _
theorem VF (hg:Good g st w) {v:T} {x:Value} (h:R g v x):(∀full e l,v= .sl full e l-> ∃A c,x= .slice A l.length c/\(l.length≠0->A.isNone=false))/\(v= .nil-> ∃A c,x= .slice A 0 c)/\
  (∀e k ver l,v= .oa e k ver->ju st e k ver=some l-> ∃A c,x= .slice A l.length c/\(l.length≠0->A.isNone=false)):=by
 refine ⟨fun full e l hv=> ?_,fun hv=> ?_,fun e k ver l hv hl=> ?_⟩<;>subst hv
 . cases h with
   | sl _ _ _ A c h1 h2 h3 h4=>exact ⟨A,c,rfl,fun hn=>by obtain ⟨b,off,cs,rfl,_⟩:=h4 (by rintro rfl;exact hn rfl);rfl⟩
 . cases h with
   | nil A=>exact ⟨A,0,rfl⟩
 . cases h with
   | oa _ _ _ oi A p1 p2 p3 p4=>
    obtain ⟨oi',q1,q2,_⟩:=hg.arr (qh hl);rw [p1] at q1;injection q1 with q1;subst q1;rw [<- q2];exact ⟨A,_,rfl,fun hn=>by rw [p2 (by omega)];rfl⟩
end
end
section
open Go.RowKit
variable {P:Program} [Bd P]
section
variable {P:Program} [Bd P] {D:TD} {g:G P} {st:St} {w:World} {n:Nat} {t:Tm} {a:Act} {o:Oper} {K X:Kn}
theorem qxa {op:BinOp} {T0 U:TypeId} {x y:Operand} {e:TypeId} {A:Option Addr} {m c:Nat} {B:Option Addr} {c':Nat} (hg:Good g st w) (ho:o.op= .binOp op T0 x y U) (hu:P.underlying T0=some (.slice e)) (hx:a.eval x= .slice A m c) (hy:a.eval y= .slice B 0 c') (hA:m≠0->A.isNone=false) (hB:B=none)
  (hc':c'=0) (h:V0 op m fun v=>K v st):xU P o a g st w K X:=by
 subst hB;subst hc';have hR: ∀b,(m≠0->A.isNone=false)->(b=A.isNone)->K (if m=0 then .ub else .bool false) st-> ∃v,R g v (.bool b)/\K v st:=fun b h1 h2 h3=>by
  by_cases hm:m=0
  . rw [if_pos hm] at h3;exact ⟨_,.ub b,h3⟩
  . rw [if_neg hm] at h3;rw [h2,h1 hm];exact ⟨_,.bool _,h3⟩
 have hR2: ∀b,(m≠0->A.isNone=false)->(b= !A.isNone)->K (if m=0 then .ub else .bool true) st-> ∃v,R g v (.bool b)/\K v st:=fun b h1 h2 h3=>by
  by_cases hm:m=0
  . rw [if_pos hm] at h3;exact ⟨_,.ub b,h3⟩
  . rw [if_neg hm] at h3;rw [h2,h1 hm];exact ⟨_,.bool _,h3⟩
 unfold V0 at h;split at h
 . obtain ⟨v,v1,v2⟩:=hR A.isNone hA rfl (by by_cases hm:m=0<;>simpa [hm] using h)
   exact qk (x:= .bool A.isNone) hg (xa ho hx hy VD (by simp only [binOp,qv,qqx hu,Jaz,qM])) v1 v2
 . obtain ⟨v,v1,v2⟩:=hR2 (!A.isNone) hA rfl (by by_cases hm:m=0<;>simpa [hm] using h)
   exact qk (x:= .bool (!A.isNone)) hg (xa ho hx hy VD (by simp only [binOp,qv,qqx hu,Jaz,qM])) v1 v2
 . exact h.elim
theorem qcJ (hD:zY P D) (hg:Good g st w) (ht:RelT g n t a) {op:BinOp} {T0 U:TypeId} {x y:Operand} (ho:o.op= .binOp op T0 x y U) {ti:TI} (hti:zx D T0=some ti) (h:X4 op ti (ev t x) (ev t y) fun v=>K v st):xU P o a g st w K X:=by
 have hX:=ht.ev x;have hY:=ht.ev y;unfold X4 at h;generalize hvx:ev t x=vx at hX h;generalize hvy:ev t y=vy at hY h;generalize hex:a.eval x=ex at hX;generalize hey:a.eval y=ey at hY;split at h
 . rename_i k p k' q;cases hX;cases hY;split at h
   . obtain ⟨h0,hK⟩:=h;refine qk hg (xa ho hex hey X6 ?_) (.int _ _) hK;simp only [binOp,Op.shift];rw [if_neg (by omega)];rfl
   . obtain ⟨h0,hK⟩:=h;refine qk hg (xa ho hex hey X6 ?_) (.int _ _) hK;simp only [binOp,Op.shift];rw [if_neg (by omega)];rfl
   . rename_i hs1 hs2;split at h;case h_2=>exact h.elim
     rename_i hk;have hk:=Jac hk;subst hk;have hrun: ∀{v},quiet P (binOp op T0 (.int k p) (.int k q))=some v->quiet P (execOp a.eval o)=some (.value v):=fun h=>xa ho hex hey X6 h
     cases op;case shl=>exact absurd rfl hs1
     case shr=>exact absurd rfl hs2
     case add=>exact qk hg (hrun (by simp [binOp,Op.intArith])) (.int _ _) h
     case sub=>exact qk hg (hrun (by simp [binOp,Op.intArith])) (.int _ _) h
     case mul=>exact qk hg (hrun (by simp [binOp,Op.intArith])) (.int _ _) h
     case quo=>obtain ⟨h0,hK⟩:=h;exact qk hg (hrun (by simp [binOp,Op.intDiv,h0])) (.int _ _) hK
     case rem=>obtain ⟨h0,hK⟩:=h;exact qk hg (hrun (by simp [binOp,Op.intDiv,h0])) (.int _ _) hK
     case and=>refine qk hg (hrun ?_) (.int _ _) h;simp only [binOp,ne_eq,not_true_eq_false,if_false];exact JA (by decide)
     case or=>refine qk hg (hrun ?_) (.int _ _) h;simp only [binOp,ne_eq,not_true_eq_false,if_false];exact JA (by decide)
     case xor=>refine qk hg (hrun ?_) (.int _ _) h;simp only [binOp,ne_eq,not_true_eq_false,if_false];exact JA (by decide)
     case andNot=>refine qk hg (hrun ?_) (.int _ _) h;simp only [binOp,ne_eq,not_true_eq_false,if_false];exact JA (by decide)
     all_goals
      simp only [qcI] at h;refine qk hg (hrun ?_) (.bool _) h;simp only [binOp,ne_eq,not_true_eq_false,if_false];exact qls rfl
 . rename_i p q;cases hX;cases hY;have key:P.underlying T0=some .bool-> ∀d,quiet P (Op.equalIn (d+1) T0 (.bool p) (.bool q))=some (decide (p=q)):=fun hu d=>by
    simp only [Op.equalIn,qv,jk,hu,Jaz,qM];congr 1
   split at h
   . rename_i hs;obtain ⟨d,h1,_,h3⟩:=(hD _ _ hti).under;rw [hs] at h3;refine qk hg (xa ho hex hey qqp ?_) (.bool _) h;have:=key (by rw [h1];exact congrArg some h3) 9999
     simp only [binOp,qv,Op.equal];show (quiet P (Op.equalIn (9999+1) T0 (.bool p) (.bool q))).bind _=_
     rw [this];rfl
   . rename_i hs;obtain ⟨d,h1,_,h3⟩:=(hD _ _ hti).under;rw [hs] at h3;refine qk hg (xa ho hex hey qqp ?_) (.bool _) h;have:=key (by rw [h1];exact congrArg some h3) 9999
     simp only [binOp,qv,Op.equal];show (quiet P (Op.equalIn (9999+1) T0 (.bool p) (.bool q))).bind _=_
     rw [this];rfl
   . exact h.elim
 . rename_i p q;cases hX;cases hY;have hrun: ∀{v},quiet P (Op.stringOp op p q)=some v->quiet P (execOp a.eval o)=some (.value v):=fun h=>xa ho hex hey qZ6 (by cases op<;>first | exact h | (simp [Op.stringOp,stuck,quiet] at h;done))
   split at h
   . obtain ⟨hr,hK⟩:=h;refine qk hg (hrun ?_) (.str _) hK;simp only [Op.stringOp];rw [if_neg (by simp [IntKind.max,IntKind.signed,IntKind.bits];omega)];rfl
   . exact qk hg (hrun (by simp only [Op.stringOp,kp];rfl)) (.bool _) h
   . exact qk hg (hrun (by simp only [Op.stringOp,kp];rfl)) (.bool _) h
   . exact qk hg (hrun (by simp only [Op.stringOp];rfl)) (.bool _) h
   . exact qk hg (hrun (by simp only [Op.stringOp,kp];rfl)) (.bool _) h
   . exact qk hg (hrun (by simp only [Op.stringOp,kp];rfl)) (.bool _) h
   . exact qk hg (hrun (by simp only [Op.stringOp];rfl)) (.bool _) h
   . exact h.elim
 . rename_i xs ys;have hX0:=hX;have hY0:=hY;cases hX;cases hY;rename_i us k1 k2 k3 vs k4 k5 k6;have hp:quiet P (program:Sem Program)=some P:=rfl;split at h
   . rename_i ks b hks hb;split at h;case h_2=>exact h.elim
     rename_i hl;obtain ⟨e1,e2⟩:=(hD _ _ hti).eqs ks hks xs ys us vs g b (Jac hl) (by rwa [show qW9 ti=ks from by unfold qW9;rw [hks]] at hb) hX0 hY0
     refine qk hg ?_ (.bool b) h;simp only [execOp,ho,hex,hey,eqGuard,binOp,qv,Jap,Ja5,if_false,hp,Jaz,e2,Ja4,if_true,qM,e1]
   . rename_i ks b hks hb;split at h;case h_2=>exact h.elim
     rename_i hl;obtain ⟨e1,e2⟩:=(hD _ _ hti).eqs ks hks xs ys us vs g b (Jac hl) (by rwa [show qW9 ti=ks from by unfold qW9;rw [hks]] at hb) hX0 hY0
     refine qk hg ?_ (.bool (!b)) h;simp only [execOp,ho,hex,hey,eqGuard,binOp,qv,Jap,Ja5,if_false,hp,Jaz,e2,Ja4,if_true,qM,e1]
   . exact h.elim
 . exact h.elim
theorem qyS (hD:zY P D) (hg:Good g st w) (ht:RelT g n t a) {op:BinOp} {T0 U:TypeId} {x y:Operand} (ho:o.op= .binOp op T0 x y U) {ti:TI} (hti:zx D T0=some ti) (hy:y= .const (.slice none 0 0))
  (h:wq op ti st (ev t x) fun v=>K v st):xU P o a g st w K X:=by
 have hX:=ht.ev x;unfold wq at h;generalize hvx:ev t x=vx at hX h;generalize hex:a.eval x=ex at hX;have hey:a.eval y= .slice none 0 0:=by subst hy;rfl
 obtain ⟨s1,s2,s3⟩:=VF hg hX;split at h;case h_2=>exact h.elim
 rename_i e hs;have hu:=zf (hD _ _ hti) hs;split at h
 . obtain ⟨A,c,rfl⟩:=s2 rfl;exact qxa hg ho hu hex hey (fun h=>absurd rfl h) rfl rfl h
 . rename_i full e l;obtain ⟨A,c,rfl,hA⟩:=s1 full e l rfl;exact qxa hg ho hu hex hey hA rfl rfl h
 . rename_i e k ver;split at h
   . rename_i l hl;obtain ⟨A,c,rfl,hA⟩:=s3 e k ver l rfl hl;exact qxa hg ho hu hex hey hA rfl rfl h
   . exact h.elim
 . exact h.elim
theorem qoo (hg:Good g st w) (ht:RelT g n t a) {op:UnOp} {T0:TypeId} {x:Operand} (ho:o.op= .unOp op T0 x) (h:dun op (ev t x) fun v=>K v st):xU P o a g st w K X:=by
 have hX:=ht.ev x;unfold dun at h;generalize hvx:ev t x=vx at hX h;generalize hex:a.eval x=ex at hX;split at h
 . cases hX;exact qk hg (by simp [execOp,ho,hex,Op.unary,qv]) (.bool _) h
 . cases hX;exact qk hg (by simp [execOp,ho,hex,Op.unary,Op.intArith,qv]) (.int _ _) h
 . cases hX;rename_i k m;refine qk hg (v:= .int k (qb .xor k (match k.signed with | true=> -1 | false=>k.max) m)) (x:= .int k (qb .xor k (match k.signed with | true=> -1 | false=>k.max) m)) ?_ (.int _ _) h
   have:(if k.signed=true then (-1:Int)else k.max)=match k.signed with | true=> -1 | false=>k.max:=by cases k.signed<;>rfl
   simp only [execOp,ho,hex,Op.unary,this,qv,JA (P:=P) (op:= .xor) (k:=k) (p:=match k.signed with | true=> -1 | false=>k.max) (q:=m) (by simp),Jaz,qM]
 . exact h.elim
theorem WQ {e:El} {f:List (ty e)->List Int} (hf:qxp e=some f) (l:List (ty e)):encs e l=(f l).map (T.int .u8)/\(f l).length=l.length:=by
 have h:=qhh hf l;refine ⟨?_,by have:=congrArg List.length h;simpa using this.symm⟩
 unfold encs;rw [h];induction f l with
 | nil=>rfl
 | cons n r ih=>simp [ih]
theorem qaS (hg:Good g st w) {full:Bool} {e:El} {l:List (ty e)} {x:Value} (hR:R g (.sl full e l) x) {f:List (ty e)->List Int} (hf:qxp e=some f):
  ∃A c,x= .slice A l.length c/\(A=none->f l=[])/\ ∀a0,A=some a0->(loadCells a0 l.length).run P w= .ok ((f l).map (Value.int .u8)).toArray w:=by
 obtain ⟨he,hlen⟩:=WQ hf l;cases hR with
 | sl _ _ _ A c h1 h2 h3 h4=>
  refine ⟨A,c,rfl,fun hA=> ?_,fun a0 hA=> ?_⟩
  . by_cases hl:l=[]
    . subst hl;exact Jan (by simpa using hlen)
    . obtain ⟨b,off,cs,k1,_⟩:=h4 hl;rw [hA] at k1;cases k1
  . have hcells: ∀(j:Nat) (v:Value),((f l).map (Value.int .u8))[j]? =some v->w.cell? (a0.add j)=some v:=fun j v hj=>by
     simp only [Jax,Ja2] at hj;obtain ⟨q,hq,rfl⟩:=hj;have hl:l≠[]:=by
      rintro rfl;have:f []=[]:=Jan (by simpa using hlen)
      rw [this] at hq;simp at hq
     obtain ⟨b,off,cs,k1,k2,k3⟩:=h4 hl;rw [hA] at k1;injection k1 with k1;subst k1;obtain ⟨blk,E,fr,p1,p2⟩:=hg.ro b cs k2;have hrow:=jl.ofR p2 p1 off (l.length*sz e) (by rw [k3];exact zo)
     rw [k3,he] at hrow;obtain ⟨y,y1,_,y3⟩:=hrow j (.int .u8 q) (by rw [Jax,hq];rfl)
     cases y3;rw [Addr.add_lit];exact y1
    have:=run_loadCells_list (P:=P) w a0 _ hcells;simpa [hlen] using this
theorem qKk (hg:Good g st w) {e:El} {k ver:Nat} {l:List (ty e)} {x:Value} (hR:R g (.oa e k ver) x) (hl:ju st e k ver=some l) {f:List (ty e)->List Int} (hf:qxp e=some f):
  ∃A c,x= .slice A l.length c/\(A=none->f l=[])/\ ∀a0,A=some a0->(loadCells a0 l.length).run P w= .ok ((f l).map (Value.int .u8)).toArray w:=by
 obtain ⟨he,hlen⟩:=WQ hf l;cases hR with
 | oa _ _ _ oi A p1 p2 p3 p4=>
  obtain ⟨oi',q1,q2,q3,_,q5⟩:=hg.arr (qh hl);rw [p1] at q1;injection q1 with q1;subst q1;rw [q2];by_cases hc:oi.cap=0
  . have hl0:l=[]:=Jan (by omega)
    subst hl0;have hf0:f []=[]:=Jan (by simpa using hlen)
    refine ⟨A,oi.cap,rfl,fun _=>hf0,fun a0 hA=> ?_⟩
    have:=run_loadCells_list (P:=P) w a0 [] (by simp)
    rw [hf0];simpa using this
  . obtain ⟨_,blk,E,fr,b1,_,b3,_⟩:=q5 hc;have hA:=p2 hc;subst hA;refine ⟨_,oi.cap,rfl,fun h=>(by cases h),fun a0 hA=> ?_⟩
    injection hA with hA;subst hA;have hcells: ∀(j:Nat) (v:Value),((f l).map (Value.int .u8))[j]? =some v->w.cell? ((⟨oi.b,0,none⟩:Addr).add j)=some v:=fun j v hj=>by
     simp only [Jax,Ja2] at hj;obtain ⟨q,hq,rfl⟩:=hj;have hrow:=jl.of b3 b1 0;rw [Jby,he] at hrow;obtain ⟨y,y1,_,y3⟩:=hrow j (.int .u8 q) (by rw [Jax,hq];rfl)
     cases y3;rw [Addr.add_lit];exact y1
    have:=run_loadCells_list (P:=P) w ⟨oi.b,0,none⟩ _ hcells;simpa [hlen] using this
theorem qWQ (hg:Good g st w) {e:El} {k ver off m:Nat} {l:List (ty e)} {x:Value} (hR:R g (.os e k ver off m) x) (hl:ju st e k ver=some l) {f:List (ty e)->List Int} (hf:qxp e=some f):
  ∃A c,x= .slice A m c/\(A=none->f ((l.drop off).take m)=[])/\ ∀a0,A=some a0->(loadCells a0 m).run P w= .ok ((f ((l.drop off).take m)).map (Value.int .u8)).toArray w:=by
 obtain ⟨he,hlen⟩:=WQ hf ((l.drop off).take m);cases hR with
 | os _ _ _ _ _ oi A c p1 p2 p3 p4 p5 p6=>
  obtain ⟨oi',q1,q2,q3,_,q5⟩:=hg.arr (qh hl);rw [p1] at q1;injection q1 with q1;subst q1;have hml:((l.drop off).take m).length=m:=by simp;omega
  refine ⟨A,c,rfl,fun hA=> ?_,fun a0 hA=> ?_⟩
  . have:m=0:=by
     by_cases hc:c=0
     . omega
     . have:=p3 hc;rw [hA] at this;cases this
    exact Jan (by omega)
  . by_cases hm0:m=0
    . have h0:f ((l.drop off).take m)=[]:=Jan (by omega)
      have:=run_loadCells_list (P:=P) w a0 [] (by simp)
      rw [h0,hm0];simpa using this
    . have hc:c≠0:=by omega
      have hA':=p3 hc;rw [hA] at hA';injection hA' with hA';subst hA';obtain ⟨_,blk,E,fr,b1,_,b3,_⟩:=q5 (by omega)
      have hcells: ∀(j:Nat) (v:Value),((f ((l.drop off).take m)).map (Value.int .u8))[j]? =some v->w.cell? ((⟨oi.b,off*sz e,none⟩:Addr).add j)=some v:=fun j v hj=>by
       simp only [Jax,Ja2] at hj;obtain ⟨q,hq,rfl⟩:=hj;have hrow:=((jl.of b3 b1 (off*sz e)).take (m*sz e));rw [wY,kq,he] at hrow;obtain ⟨y,y1,_,y3⟩:=hrow j (.int .u8 q) (by rw [Jax,hq];rfl)
       cases y3;rw [Addr.add_lit];exact y1
      have:=run_loadCells_list (P:=P) w ⟨oi.b,off*sz e,none⟩ _ hcells;simpa [hlen,hml] using this
theorem qYh (hg:Good g st w) {k n:Nat} {cs:List T} {l:List Int} {x:Value} (hR:R g (.as k n) x) (hr:rd st k=some (.cells cs)) (hm:meHead cs=false) (hl:yx (cs.take n)=some l) (hn:l.length=n):
  ∃a0,x= .slice (some a0) l.length l.length/\(loadCells a0 l.length).run P w= .ok (l.map (Value.int .u8)).toArray w:=by
 cases hR with
 | as _ _ oi p1=>
  obtain ⟨oi',o1,_,o3⟩:=hg.obj _ _ (qc.1 hr);have o1:g.ob k 0=some oi':=o1;rw [p1] at o1;injection o1 with o1;subst o1;rcases o3 with o3 | ⟨_,blk,E,fr,q1,_,q3,_⟩
  . cases o3.1
  simp only [vo,hm] at q1;have q1:w.heap[oi.b]? =some (.cells blk E fr):=q1;rw [hn];refine ⟨_,rfl, ?_⟩;have hcells: ∀(j:Nat) (v:Value),(l.map (Value.int .u8))[j]? =some v->w.cell? ((⟨oi.b,0,none⟩:Addr).add j)=some v:=fun j v hj=>by
   simp only [Jax,Ja2] at hj;obtain ⟨q,hq,rfl⟩:=hj;have hrow:=jl.of q3 q1 0;rw [Jby] at hrow;obtain ⟨y,y1,_,y3⟩:=hrow j (.int .u8 q) (by
    have hj:(cs.take n)[j]? =some (.int .u8 q):=by rw [vV hl,Jax,hq];rfl
    simp only [qZ];rw [List.getElem?_take] at hj;split at hj
    . exact hj
    . cases hj)
   cases y3;rw [Addr.add_lit];exact y1
  have:=run_loadCells_list (P:=P) w ⟨oi.b,0,none⟩ _ hcells;rw [<- hn];simpa using this
theorem xD (c:ByteArray):(zp c).length=c.size:=by
 unfold zp;rw [Jbs,Array.length_toList];rfl
theorem qaP (hD:zY P D) (hg:Good g st w) (ht:RelT g n t a) {s d:TypeId} {x:Operand} (ho:o.op= .convert s d x) (h:yL D s d st (ev t x) K):xU P o a g st w K X:=by
 have hX:=ht.ev x;unfold yL at h;generalize hvx:ev t x=vx at hX h;generalize hex:a.eval x=ex at hX;split at h;case h_2=>exact h.elim
 rename_i ta tb hta htb;obtain ⟨da,a1,_,a3⟩:=(hD _ _ hta).under;obtain ⟨db,b1,_,b3⟩:=(hD _ _ htb).under;split at h
 . rename_i k' m k hb;cases hX;rw [hb] at b3;simp only [srtOk] at b3;subst b3;exact qk hg (by simp [execOp,ho,hex,convert,qv,a1,b1,Conv.intToInt]) (.int _ _) h
 . rename_i c ha hb;cases hX;rw [ha] at a3;rw [hb] at b3;simp only [srtOk] at a3 b3;subst a3;subst b3;exact qk hg (by simp [execOp,ho,hex,convert,qv,a1,b1]) (.str _) h
 . rename_i c t0 ha hb;split at h;case h_2=>exact h.elim
   rename_i te hte;split at h;case h_2=>exact h.elim
   rename_i e hs hel;split at h;case h_2=>exact h.elim
   rename_i f hf;obtain ⟨hroom,hK⟩:=h;cases hX;have hT:=hD _ _ hte;have hu8:P.underlying t0=some (.int .u8):=wJ hT hs;rw [ha] at a3;rw [hb] at b3;simp only [srtOk] at a3 b3;subst a3;obtain ⟨rfl,_⟩:=b3;obtain ⟨hse,hb0⟩:=hT.el e hel;have h63:c.size<=maxLen:=by
    have:c.size<=c.size*te.bytes:=Jb7 _ hb0;simp only [maxLen];omega
   obtain ⟨gc1,gc2⟩:=kN w c.size 0 t0 h63;have hsz1:sz e=1:=qZA hf;have henc:encs e (f (zp c))=(zp c).map (T.int .u8):=by
    have:=qxr hf (zp c);unfold encs;rw [this];generalize zp c=L;induction L with
    | nil=>rfl
    | cons q r ih=>rw [List.map_cons,List.flatten_cons,ih];rfl
   have hlenf:(f (zp c)).length=c.size:=by
    have h1:=congrArg List.length henc;rw [qg,hsz1,Nat.mul_one,Jbs] at h1;rw [h1];exact xD c
   intro K' Q' hK' _;unfold Oper.wp;have hrun:(execOp a.eval o).run P w= .ok (.value (.slice (some ⟨w.heap.size,0,none⟩) c.size (grownCap w c.size 0 t0))) (w.drew.alloc (.cells (bytesRow c (grownCap w c.size 0 t0)) t0 ((bytesRow c (grownCap w c.size 0 t0)).size,(bytesRow c (grownCap w c.size 0 t0)).size+1))):=by
    simp only [execOp,ho,hex,Sem.run_bind,run_bytes_of_string w s d t0 c a1 b1 hu8,Result.andThen_ok,Sem.run_pure]
   rw [hrun];have hbs:(bytesRow c (grownCap w c.size 0 t0)).size=grownCap w c.size 0 t0:=by
    have h1:c.data.size=c.size:=rfl;rw [bytesRow,Array.size_append,Array.size_map,Array.size_replicate,h1];omega
   have hrow: ∀j:Nat,j<c.size->(bytesRow c (grownCap w c.size 0 t0))[j]? =some (.int .u8 ((zp c)[j]?.getD 0)):=fun j hj=>by
    have hj':j<c.data.size:=hj;have h2:(zp c)[j]? =some (c.data[j].toNat:Int):=by
     unfold zp;rw [Jax,Jbz,Jaw hj'];rfl
    rw [bytesRow,Jbi (by rw [Array.size_map];exact hj'),Array.getElem?_map,Jaw hj',h2]
    rfl
   generalize bytesRow c (grownCap w c.size 0 t0)=BLK at hbs hrow ⊢;obtain ⟨k1,k2,k3⟩:=zv (st':=st++[some (.arr 0 e (f (zp c)))]) (k:=st.length) (v:=0) (o':= .arr 0 e (f (zp c))) (oi:=⟨w.heap.size,c.size,grownCap w c.size 0 t0⟩) (w':=w.drew.alloc (.cells BLK t0 (BLK.size,BLK.size+1))) hg j8 (Jam _) (by simp) rfl (.inl (zu hg)) (fun u oi hu=>by rw [zu hg] at hu;cases hu) ⟨hlenf.symm,gc1,gc2⟩
    (fun _=> .inl (Jam _)) rfl rfl rfl (by simp) (fun b hb _=>Below.heap_alloc w.drew _ b hb) (fun _=>⟨BLK,t0,(BLK.size,BLK.size+1),heap_alloc_new w.drew _,fun q hq h=>absurd h.1 (by omega),⟨by simp only [qZ,qg,hlenf,hsz1,hbs];omega,fun j u hj=>by
     simp only [qZ] at hj;rw [henc,Jax,Ja2] at hj;obtain ⟨q,hq,rfl⟩:=hj;have hjl:j<c.size:=by
      have:=(Jai.1 hq).1;rw [xD] at this;exact this
     refine ⟨.int .u8 q, ?_,rfl,.int _ _⟩;rw [hrow j hjl,hq];rfl⟩,by simp only [jt];exact ⟨by rw [hbs,hsz1];omega,hT.elt e hel⟩⟩) (fun o ho=>by rw [Ja0 (Jam _)] at ho;cases ho)
   exact hK' _ _ _ _ _ hK k1 ⟨k3,ja (.inr rfl)⟩ k2 (.oa e st.length 0 ⟨w.heap.size,c.size,grownCap w c.size 0 t0⟩ _ (by simp [G.set]) (fun _=>by simp) gc1 gc2)
 . rename_i e k ver off m t0 ha hb;split at h;case h_2=>exact h.elim
   rename_i te hte;split at h;case h_2=>exact h.elim
   rename_i f l hs hf hl;have hu8:P.underlying t0=some (.int .u8):=wJ (hD _ _ hte) hs;rw [ha] at a3;rw [hb] at b3;simp only [srtOk] at a3 b3;obtain ⟨rfl,_⟩:=a3;subst b3;obtain ⟨A,c,rfl,b1',hload⟩:=qWQ hg hX hl hf;refine xq (x:= .string (xk (f ((l.drop off).take m)))) hg ?_ (.str _) h;simp only [execOp,ho,hex,Sem.run_bind,Sem.run_pure];rw [run_convert_bytes_string w s d t0 A m c a1 hu8 b1];cases A with
   | none=>
    have:=b1' rfl;simp [Conv.bytesToString,this,xk,ByteArray.empty,ByteArray.emptyWithCapacity];rfl
   | some a0=>
    rw [run_bytesToString w a0 m c (f ((l.drop off).take m)) (hload a0 rfl),foldl_push_bytes];simp [xk,ByteArray.empty,ByteArray.emptyWithCapacity];rfl
 . rename_i full e l t0 ha hb;split at h;case h_2=>exact h.elim
   rename_i te hte;split at h;case h_2=>exact h.elim
   rename_i f hs hf;have hu8:P.underlying t0=some (.int .u8):=wJ (hD _ _ hte) hs;rw [ha] at a3;rw [hb] at b3;simp only [srtOk] at a3 b3;obtain ⟨rfl,_⟩:=a3;subst b3;obtain ⟨A,c,rfl,hload⟩:=qaS hg hX hf;refine xq (x:= .string (xk (f l))) hg ?_ (.str _) h;simp only [execOp,ho,hex,Sem.run_bind,Sem.run_pure];rw [run_convert_bytes_string w s d t0 A l.length c a1 hu8 b1];cases A with
   | none=>
    have:=hload.1 rfl;simp [Conv.bytesToString,this,xk,ByteArray.empty,ByteArray.emptyWithCapacity];rfl
   | some a0=>
    rw [run_bytesToString w a0 l.length c (f l) (hload.2 a0 rfl),foldl_push_bytes];simp [xk,ByteArray.empty,ByteArray.emptyWithCapacity];rfl
 . rename_i e k ver t0 ha hb;split at h;case h_2=>exact h.elim
   rename_i te hte;split at h;case h_2=>exact h.elim
   rename_i f l hs hf hl;have hu8:P.underlying t0=some (.int .u8):=wJ (hD _ _ hte) hs;rw [ha] at a3;rw [hb] at b3;simp only [srtOk] at a3 b3;obtain ⟨rfl,_⟩:=a3;subst b3;obtain ⟨A,c,rfl,hload⟩:=qKk hg hX hl hf;refine xq (x:= .string (xk (f l))) hg ?_ (.str _) h;simp only [execOp,ho,hex,Sem.run_bind,Sem.run_pure];rw [run_convert_bytes_string w s d t0 A l.length c a1 hu8 b1];cases A with
   | none=>
    have:=hload.1 rfl;simp [Conv.bytesToString,this,xk,ByteArray.empty,ByteArray.emptyWithCapacity];rfl
   | some a0=>
    rw [run_bytesToString w a0 l.length c (f l) (hload.2 a0 rfl),foldl_push_bytes];simp [xk,ByteArray.empty,ByteArray.emptyWithCapacity];rfl
 . rename_i k n t0 ha hb;split at h;case h_2=>exact h.elim
   rename_i cs te hr hte;split at h;case h_2=>exact h.elim
   rename_i l hm hs hl;split at h;case h_2=>exact h.elim
   rename_i hd;have hu8:P.underlying t0=some (.int .u8):=wJ (hD _ _ hte) hs;rw [ha] at a3;rw [hb] at b3;simp only [srtOk] at a3 b3;obtain ⟨rfl,_⟩:=a3;subst b3;obtain ⟨a0,rfl,hload⟩:=qYh hg hX hr hm hl (Jac hd);refine xq (x:= .string (xk l)) hg ?_ (.str _) h;simp only [execOp,ho,hex,Sem.run_bind,Sem.run_pure];rw [run_convert_bytes_string w s d t0 (some a0) l.length l.length a1 hu8 b1,run_bytesToString w a0 l.length l.length l hload,foldl_push_bytes];simp [xk,ByteArray.empty,ByteArray.emptyWithCapacity];rfl
 . exact h.elim
theorem qkC (hD:zY P D) (hg:Good g st w) (ht:RelT g n t a) {T0:TypeId} {x:Operand} (ho:o.op= .makeInterface T0 x) {ti:TI} (hti:zx D T0=some ti) (hc:qoB ti.srt=true) (h:K (.ic T0 (ev t x)) st):xU P o a g st w K X:=by
 obtain ⟨d,hu,_,hs⟩:=(hD _ _ hti).under;refine qk hg (x:= .iface T0 (a.eval x)) ?_ (.ic _ _ _ (ht.ev x)) h;have hd: ∀ms,d≠ .interface ms:=by
  rintro ms rfl;cases hsrt:ti.srt<;>rw [hsrt] at hs hc<;>simp [srtOk,qoB] at hs hc
 simp only [execOp,ho,Instr.makeInterface,qv,jk,hu,Jaz];cases d<;>first | rfl | exact absurd rfl (hd _)
theorem qXb (hg:Good g st w) (ht:RelT g n t a) {x:Operand} (ho:o.op= .panic x) {T0:TypeId} {v:T} (hv:ev t x= .ic T0 v) (h:X (.ic T0 v) st):xU P o a g st w K X:=by
 have hR:=ht.ev x;rw [hv] at hR;generalize he:a.eval x=ex at hR;have hR':=hR;cases hR;rename_i y hy;intro K' Q' _ hX;unfold Oper.wp;have hrun:(execOp a.eval o).run P w= .halt (.panic (.iface T0 y)) w:=by simp [execOp,ho,he,Instr.panic,goPanic]
 rw [hrun];exact hX _ _ _ g w h hg (GL.refl g st) (fun _=>Step.refl) hR'
theorem qJj (hD:zY P D) (hg:Good g st w) (ht:RelT g n t a) {op:BinOp} {T0 U:TypeId} {x y:Operand} (ho:o.op= .binOp op T0 x y U) {ti:TI} (hti:zx D T0=some ti) (hy:y= .const .nilIface)
  (h:Z1 op ti (ev t x) fun v=>K v st):xU P o a g st w K X:=by
 have hX:=ht.ev x;unfold Z1 at h;generalize hvx:ev t x=vx at hX h;generalize hex:a.eval x=ex at hX;have hey:a.eval y= .nilIface:=by subst hy;rfl
 split at h;case h_2=>exact h.elim
 rename_i hs;obtain ⟨d,hu,_,hs'⟩:=(hD _ _ hti).under;rw [hs] at hs';obtain ⟨ms,rfl⟩:=hs';have k1: ∀t v d,quiet P (Op.equalIn (d+1) T0 (.iface t v) .nilIface)=some false:=fun t v d=>by
  simp only [Op.equalIn,qv,jk,hu,Jaz,qM]
 have k2: ∀d,quiet P (Op.equalIn (d+1) T0 .nilIface .nilIface)=some true:=fun d=>by
  simp only [Op.equalIn,qv,jk,hu,Jaz,qM]
 have e1: ∀t v,quiet P (Op.equal T0 (.iface t v) .nilIface)=some false:=fun t v=>k1 t v 9999
 have e2:quiet P (Op.equal T0 .nilIface .nilIface)=some true:=k2 9999;have g1: ∀op t v,eqGuard op T0 x y (.iface t v) .nilIface=pure ():=fun op t v=>by cases op<;>rfl
 have g2: ∀op,eqGuard op T0 x y .nilIface .nilIface=pure ():=fun op=>by subst hy;cases op<;>cases x<;>rfl
 split at h
 . cases hX;exact qk hg (xa ho hex hey (g1 _ _ _) (by simp only [binOp,qv,e1,Jaz,qM])) (.bool _) h
 . cases hX;exact qk hg (xa ho hex hey (g1 _ _ _) (by simp only [binOp,qv,e1,Jaz,qM];rfl)) (.bool _) h
 . cases hX;exact qk hg (xa ho hex hey (g2 _) (by simp only [binOp,qv,e2,Jaz,qM])) (.bool _) h
 . cases hX;exact qk hg (xa ho hex hey (g2 _) (by simp only [binOp,qv,e2,Jaz,qM];rfl)) (.bool _) h
 . exact h.elim
theorem vh {k:IntKind} {m:Int} {y:Nat} (code:BoundsCode) (h0:0<=m) (h1:m<=(y:Int)):quiet P (Instr.sliceBound (.int k m) y code)=some m.toNat:=by
 simp [Instr.sliceBound,asIntOf,qv,h0,h1]
theorem zg {x:Option Operand} (ht:RelT g n t a) {d:Int} {K:Int->Prop} (h:xl (x.map (ev t)) d K): ∃m,K m/\((x=none/\m=d)∨ ∃x' k,x=some x'/\a.eval x'= .int k m):=by
 cases x with
 | none=>exact ⟨d,h,.inl ⟨rfl,rfl⟩⟩
 | some x=>
  obtain ⟨k,m,h1,h2⟩:=xe h;exact ⟨m,h2,.inr ⟨x,k,rfl,wa (by have:=ht.ev x;rw [h1] at this;exact this)⟩⟩
theorem YJ {lo hi:Option Operand} {len cap:Nat} {l h:Int} (b:Bool) (hc:len<=cap) (h0:0<=l) (h1:l<=h) (h2:h<=(cap:Int)) (hl:(lo=none/\l=0)∨ ∃x k,lo=some x/\a.eval x= .int k l) (hh:(hi=none/\h=len)∨ ∃x k,hi=some x/\a.eval x= .int k h):
  quiet P (Instr.sliceBounds b len cap (lo.map a.eval) (hi.map a.eval) none)=some (l.toNat,h.toNat,cap):=by
 have kh: ∀x k,hi=some x->a.eval x= .int k h-> ∀code,quiet P (Instr.sliceBound (a.eval x) cap code)=some h.toNat:=fun x k e e' code=>by rw [e'];exact vh code (by omega) (by omega)
 have kl: ∀x k,lo=some x->a.eval x= .int k l-> ∀code,quiet P (Instr.sliceBound (a.eval x) h.toNat code)=some l.toNat:=fun x k e e' code=>by rw [e'];exact vh code (by omega) (by omega)
 rcases hh with ⟨rfl,rfl⟩ | ⟨x,k,rfl,hx⟩<;>rcases hl with ⟨rfl,rfl⟩ | ⟨y,k',rfl,hy⟩
 . simp [Instr.sliceBounds,qv]
 . have:=kl y k' rfl hy;simp only [Jay] at this;simp [Instr.sliceBounds,qv,this]
 . simp [Instr.sliceBounds,qv,kh x k rfl hx]
 . simp [Instr.sliceBounds,qv,kh x k rfl hx,kl y k' rfl hy]
theorem yC {lo hi:Option Operand} {len cap:Nat} {l h:Int} (b:Bool) (hc:len<=cap) (h0:0<=l) (h1:l<=h) (h2:h<=(len:Int)) (hl:(lo=none/\l=0)∨ ∃x k,lo=some x/\a.eval x= .int k l) (hh:(hi=none/\h=len)∨ ∃x k,hi=some x/\a.eval x= .int k h):
  quiet P (Instr.sliceBounds b len cap (lo.map a.eval) (hi.map a.eval) none)=some (l.toNat,h.toNat,cap):=YJ b hc h0 h1 (by omega) hl hh
theorem W0 {lo:Option Operand} {hi mx:Operand} {len cap:Nat} {l h m:Int} {k1 k2:IntKind} (hc:len<=cap) (h0:0<=l) (h1:l<=h) (h2:h<=m) (h3:m<=(len:Int)) (hl:(lo=none/\l=0)∨ ∃x k,lo=some x/\a.eval x= .int k l) (hh:a.eval hi= .int k1 h) (hm:a.eval mx= .int k2 m):
  quiet P (Instr.sliceBounds true len cap (lo.map a.eval) (some (a.eval hi)) (some (a.eval mx)))=some (l.toNat,h.toNat,m.toNat):=by
 have km: ∀code,quiet P (Instr.sliceBound (a.eval mx) cap code)=some m.toNat:=fun code=>by rw [hm];exact vh code (by omega) (by omega)
 have kh: ∀code,quiet P (Instr.sliceBound (a.eval hi) m.toNat code)=some h.toNat:=fun code=>by rw [hh];exact vh code (by omega) (by omega)
 rcases hl with ⟨rfl,rfl⟩ | ⟨y,k',rfl,hy⟩
 . simp [Instr.sliceBounds,qv,km,kh]
 . have kl: ∀code,quiet P (Instr.sliceBound (a.eval y) h.toNat code)=some l.toNat:=fun code=>by rw [hy];exact vh code (by omega) (by omega)
   simp [Instr.sliceBounds,qv,km,kh,kl]
theorem qaT {full full':Bool} {e:El} {xs:List (ty e)} {A:Option Addr} {k c l h m:Nat} (hR:R g (.sl full e xs) (.slice A k c)) (hlh:l<=h) (hhl:h<=xs.length) (hhm:h<=m) (hmc:m<=c) (hf:full'=true->h=m):
  R g (.sl full' e ((xs.take h).drop l)) (.slice (if m=l then A else A.map (·.add (l*sz e))) (h-l) (m-l)):=by
 cases hR with
 | sl _ _ _ _ _ h1 h2 h3 h4=>
  have hlen:((xs.take h).drop l).length=h-l:=by simp;omega
  rw [<- hlen];refine .sl full' e _ _ _ (by omega) (by omega) (fun e=>by have:=hf e;omega) fun hne=> ?_
  have hlt:l<h:=by
   rcases Nat.lt_or_ge l h with h5 | h5
   . exact h5
   . exfalso;apply hne;apply Jan;omega
  obtain ⟨b,off,cs,rfl,hro,henc⟩:=h4 (by rintro rfl;simp at hhl;omega)
  rw [if_neg (by omega)]
  refine ⟨b,off+l*sz e,cs,by simp [Addr.add_lit],hro, ?_⟩
  rw [hlen, <- wY, <- kq, <- henc,List.take_take,List.drop_take,List.drop_drop];have:h*sz e<=xs.length*sz e:=Nat.mul_le_mul_right _ hhl;rw [Nat.min_eq_left this,Nat.sub_mul]
theorem wZ {full:Bool} {e:El} {l:List (ty e)} {x:Value} (h:R g (.sl full e l) x): ∃A c,x= .slice A l.length c/\l.length<=c/\c<=maxLen/\(full=true->c=l.length):=by
 cases h with
 | sl _ _ _ A c h1 h2 h3 h4=>exact ⟨A,c,rfl,h1,h2,h3⟩
theorem qJr (hD:zY P D) (hg:Good g st w) (ht:RelT g n t a) {T0:TypeId} {x:Operand} {lo hi mx:Option Operand} (ho:o.op= .slice T0 x lo hi mx) {ti:TI} (hti:zx D T0=some ti)
  (h:dsl D ti T0 st (ev t x) (lo.map (ev t)) (hi.map (ev t)) (mx.map (ev t)) fun v=>K v st):xU P o a g st w K X:=by
 have hR:=ht.ev x;generalize hv:ev t x=xv at hR h;generalize he:a.eval x=ex at hR;unfold dsl at h;split at h
 . rename_i hs;have hu:=Q7 (hD _ _ hti) hs;cases mx with
   | some mx=>cases xv<;>exact h.elim
   | none=>
   cases xv<;>(try exact h.elim)
   rename_i b;cases hR;obtain ⟨hh,h,h1⟩:=zg ht h;obtain ⟨l,h,h2⟩:=zg ht h;obtain ⟨q0,q1,q2,hK⟩:=h;have:=yC (P:=P) false (Jam _) q0 q1 q2 h2 h1;exact qk hg (by simp [execOp,ho,Instr.sliceAt,Instr.slice,he,qv,hu,this]) (.str _) hK
 . rename_i te hs;have hu:=zf (hD _ _ hti) hs;split at h;case h_2=>exact h.elim
   rename_i e0 hk;obtain ⟨t',i,hu',hi1,hsz⟩:=Q9 hD hk;rw [hu] at hu';injection hu' with hu';injection hu' with hu';subst hu';unfold vI at h;cases mx with
   | some mx=>
    simp only [Ja8] at h;cases hi with
    | none=>exact h.elim
    | some hi=>
     simp only [Ja8] at h;split at h
     . rename_i full e xs;split at h;case isFalse=>exact h.elim
       rename_i he0;subst he0;obtain ⟨k1,m,hm,h⟩:=xe h;have hm':=wa (by have:=ht.ev mx;rw [hm] at this;exact this)
       obtain ⟨l,h,h2⟩:=zg ht h;obtain ⟨k2,r,hr,h⟩:=xe h;have hr':=wa (by have:=ht.ev hi;rw [hr] at this;exact this)
       obtain ⟨q0,q1,q2,q3,hK⟩:=h;obtain ⟨A,c,rfl,p1,p2,p3⟩:=wZ hR;have:=W0 (P:=P) (len:=xs.length) (cap:=c) p1 q0 q1 (by omega) q3 h2 hr' hm'
       refine qk (x:= .slice (if m.toNat=l.toNat then A else A.map (·.add (l.toNat*sz e0))) (r.toNat-l.toNat) (m.toNat-l.toNat)) hg ?_ (qaT hR (by omega) (by omega) (by omega) (by omega) (fun _=>by omega)) hK
       simp [execOp,ho,Instr.sliceAt,Instr.slice,he,qv,hu,this,hi1,hsz]
     . obtain ⟨k1,m,hm,h⟩:=xe h;have hm':=wa (by have:=ht.ev mx;rw [hm] at this;exact this)
       obtain ⟨l,h,h2⟩:=zg ht h;obtain ⟨k2,r,hr,h⟩:=xe h;have hr':=wa (by have:=ht.ev hi;rw [hr] at this;exact this)
       obtain ⟨q0,q1,q2,hK⟩:=h;subst q0;subst q1;subst q2;cases hR with
       | nil A=>
        have:=W0 (P:=P) (len:=0) (cap:=0) (l:=0) (h:=0) (m:=0) (Jam _) (by omega) (by omega) (by omega) (by simp) h2 hr' hm'
        refine qk (x:= .slice A 0 0) hg ?_ (.nil A) hK;simp only [Int.toNat_zero] at this;simp [execOp,ho,Instr.sliceAt,Instr.slice,he,qv,hu,this,hi1]
     . exact h.elim
   | none=>
    simp only [Option.map_none] at h;split at h
    . rename_i full e xs;split at h;case isFalse=>exact h.elim
      rename_i he0;subst he0;obtain ⟨A,c,rfl,p1,p2,p3⟩:=wZ hR;cases hi with
      | some hi=>
       simp only [Ja8] at h;obtain ⟨k2,r,hr,h⟩:=xe h;have hr':=wa (by have:=ht.ev hi;rw [hr] at this;exact this)
       obtain ⟨l,h,h2⟩:=zg ht h;obtain ⟨q0,q1,q2,hK⟩:=h;have:=yC (P:=P) (hi:=some hi) true p1 q0 q1 q2 h2 (.inr ⟨hi,k2,rfl,hr'⟩);simp only [Ja8] at this;have main: ∀full',(full'=true->r.toNat=c)->K (.sl full' e0 ((xs.take r.toNat).drop l.toNat)) st->xU P o a g st w K X:=fun full' hf hK=>by
        refine qk (x:= .slice (if c=l.toNat then A else A.map (·.add (l.toNat*sz e0))) (r.toNat-l.toNat) (c-l.toNat)) hg ?_ (qaT hR (by omega) (by omega) (by omega) (Jam _) hf) hK
        simp [execOp,ho,Instr.sliceAt,Instr.slice,he,qv,hu,this,hi1,hsz]
       cases full with
       | false=>exact main false (by simp) hK
       | true=>
        simp only at hK;by_cases hd:r=(xs.length:Int)
        . rw [Jaa hd,Jae] at hK;exact main true (fun _=>by have:=p3 rfl;omega) hK
        . rw [Jab hd,Jaf] at hK;exact main false (by simp) hK
      | none=>
       simp only [Option.map_none] at h;obtain ⟨l,h,h2⟩:=zg ht h;obtain ⟨q0,q1,hK⟩:=h;have:=yC (P:=P) (hi:=none) (h:=(xs.length:Int)) true p1 q0 q1 (by omega) h2 (.inl ⟨rfl,rfl⟩)
       simp only [Option.map_none,Jay] at this;have hsub:=qaT (full':=full) (l:=l.toNat) (h:=xs.length) (m:=c) hR (by omega) (Jam _) p1 (Jam _) (fun e=>(p3 e).symm)
       rw [Jbm (Jam _)] at hsub;refine qk (x:= .slice (if c=l.toNat then A else A.map (·.add (l.toNat*sz e0))) (xs.length-l.toNat) (c-l.toNat)) hg ?_ hsub hK
       simp [execOp,ho,Instr.sliceAt,Instr.slice,he,qv,hu,this,hi1,hsz]
    . obtain ⟨r,h,h1⟩:=zg ht h;obtain ⟨l,h,h2⟩:=zg ht h;obtain ⟨q0,q1,hK⟩:=h;subst q0;subst q1;cases hR with
      | nil A=>
       have:=yC (P:=P) (len:=0) (cap:=0) (l:=0) (h:=0) true (Jam _) (by omega) (by omega) (by simp) h2 h1
       simp only [Int.toNat_zero] at this;refine qk (x:= .slice A 0 0) hg ?_ (.nil A) hK;simp [execOp,ho,Instr.sliceAt,Instr.slice,he,qv,hu,this,hi1]
    . rename_i e k ver;split at h;case isFalse=>exact h.elim
      rename_i he0;subst he0;split at h;case h_2=>exact h.elim
      rename_i xs hl;obtain ⟨r,h,h1⟩:=zg ht h;obtain ⟨l,h,h2⟩:=zg ht h;obtain ⟨q0,q1,q2,hK⟩:=h;cases hR with
      | oa _ _ _ oi A p1 p2 p3 p4=>
       obtain ⟨oi',a1,a2,_⟩:=hg.arr (qh hl);rw [p1] at a1;injection a1 with a1;subst a1;rw [<- a2] at q2 h1;have:=yC (P:=P) true p3 q0 q1 q2 h2 h1;refine qk (x:= .slice (if oi.cap=l.toNat then A else A.map (·.add (l.toNat*sz e0))) (r.toNat-l.toNat) (oi.cap-l.toNat)) hg ?_ (.os e0 k ver _ _ oi _ _ p1 (by omega) (fun hn=> ?_) (by omega) (by omega) p3) hK
       . simp [execOp,ho,Instr.sliceAt,Instr.slice,he,qv,hu,this,hi1,hsz]
       . rw [if_neg (by omega),p2 (by omega)]
         simp [Addr.add_lit]
    . rename_i e k ver off m;split at h;case isFalse=>exact h.elim
      rename_i he0;subst he0;split at h;case h_2=>exact h.elim
      rename_i xs hl;obtain ⟨r,h,h1⟩:=zg ht h;obtain ⟨l,h,h2⟩:=zg ht h;obtain ⟨q0,q1,q2,hK⟩:=h;cases hR with
      | os _ _ _ _ _ oi A c p1 p2 p3 p4 p5 p6=>
       obtain ⟨oi',a1,a2,_⟩:=hg.arr (qh hl);rw [p1] at a1;injection a1 with a1;subst a1;have:=YJ (P:=P) (len:=m) (cap:=c) true (by omega) q0 q1 (by omega) h2 h1
       refine qk (x:= .slice (if c=l.toNat then A else A.map (·.add (l.toNat*sz e0))) (r.toNat-l.toNat) (c-l.toNat)) hg ?_ (.os e0 k ver _ _ oi _ _ p1 (by omega) (fun hn=> ?_) (by omega) (by omega) p6) hK
       . simp [execOp,ho,Instr.sliceAt,Instr.slice,he,qv,hu,this,hi1,hsz]
       . rw [if_neg (by omega),p3 (by omega)]
         simp [Addr.add_lit,Nat.add_mul]
    . exact h.elim
 . rename_i n te hs;have hu:=wO (hD _ _ hti) hs;cases xv<;>(try exact h.elim)
   rename_i k off;cases off with
   | succ _=>exact h.elim
   | zero=>
   cases lo with
   | some _=>exact h.elim
   | none=>
   cases hi with
   | some _=>exact h.elim
   | none=>
   cases mx with
   | some _=>exact h.elim
   | none=>
   simp only [Option.map_none] at h;cases e5:zx D te with
   | none=>rw [e5] at h;exact h.elim
   | some tt=>
   rw [e5] at h;obtain ⟨ii,hi1,_⟩:=(hD _ _ e5).info;cases hR with
   | pt _ _ oi p1=>
    have hb:quiet P (Instr.sliceBounds false n n none none none)=some (0,n,n):=by simp [Instr.sliceBounds,qv]
    refine qk (x:= .slice (some ⟨oi.b,0,none⟩) n n) hg ?_ (.as k n oi p1) h;simp [execOp,ho,Instr.sliceAt,Instr.sureAddr,he,qv,hu,hb,hi1,Addr.add_lit]
 . exact h.elim
end
end
end Go.Proofs.YtbglndogddddoaaGreatDoor
