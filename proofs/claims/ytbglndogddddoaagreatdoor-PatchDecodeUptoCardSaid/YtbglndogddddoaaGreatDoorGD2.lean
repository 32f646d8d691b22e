import Derived.MapKept
import Derived.Laws.IdiomRangeMap
import Derived.Maps.RangeRun
import Derived.Deep.LoopGhost
import Derived.TacticsIn
import Derived.OrdersIn
import Derived.RangeFuncRecord
import Derived.RangeFuncIn
import Derived.OrdersHeld
import Derived.Test.YtbglndogddddoaaGreatDoorGD1
set_option linter.unusedVariables false
set_option linter.unusedSimpArgs false
set_option linter.unusedSectionVars false
namespace Go.Proofs.YtbglndogddddoaaGreatDoor
section
open Go.RowKit
variable {P:Program} [Bd P]
section
variable {P:Program} [Bd P] {D:TD} {g:G P} {st:St} {w:World} {n:Nat} {t:Tm} {a:Act} {o:Oper} {K X:Kn}
theorem qjA {place:Nat->Option (Nat×Nat)} (ht:RelT g n t a): ∀(ps:List (Nat×Operand)) (cs cs':List T) (xs:Array Value),R g (.ag cs) (.agg xs)->qzC place cs (ps.map fun p=>(p.1,ev t p.2))=some cs'->
  ∃xs',Instr.fill place xs (ps.map fun p=>(p.1,a.eval p.2))=some xs'/\R g (.ag cs') (.agg xs')/\cs'.length=cs.length
 | [],cs,cs',xs,hR,h=>by simp [qzC] at h;subst h;exact ⟨xs,rfl,hR,rfl⟩
 | (i,x)::r,cs,cs',xs,hR,h=>by
  simp only [List.map_cons,qzC] at h;cases h1:place i with
  | none=>simp [h1] at h
  | some p=>
   obtain ⟨off,size⟩:=p;cases h2:cellsOf (ev t x)with
   | none=>simp [h1,h2] at h
   | some zs=>
    simp only [h1,h2] at h;split at h;case h_2=>cases h
    rename_i hc;have hc:=Jac hc;obtain ⟨k1,k2⟩:=qQD (ht.ev x) h2;cases hR with
    | ag _ _ r1 r2 r3=>
     obtain ⟨f1,f2⟩:=qJR off (a.eval x).cells xs (by omega)
     have hR':R g (.ag (vK cs off zs)) (.agg ((a.eval x).cells.zipIdx.foldl (fun cs (p:Value×Nat)=>cs.setIfInBounds (off+p.2) p.1) xs)):=by
      refine .ag _ _ (by rw [xX (by omega),f1,r1]) (fun j c y hj hy=> ?_) (fun j y hy=> ?_)
      . rw [xd (by omega)] at hj
        rw [f2 j,k1] at hy;by_cases e:off<=j/\j<off+zs.length
        . rw [if_pos e] at hj hy;obtain ⟨z,z1,_,z3⟩:=k2 _ c hj;rw [z1] at hy;injection hy with hy;subst hy;exact z3
        . rw [if_neg e] at hj hy;exact r2 _ _ _ hj hy
      . rw [f2 j,k1] at hy;by_cases e:off<=j/\j<off+zs.length
        . rw [if_pos e] at hy;obtain ⟨z,z1,z2,_⟩:=k2 (j-off) zs[j-off] (by simp)
          rw [z1] at hy;injection hy with hy;subst hy;exact z2
        . rw [if_neg e] at hy;exact r3 _ _ hy
     obtain ⟨xs',g1,g2,g3⟩:=qjA ht r _ cs' _ hR' h;refine ⟨xs', ?_,g2,by rw [g3,xX (by omega)]⟩
     simp only [List.map_cons,Instr.fill,h1];rw [if_neg (by simp;omega)]
     exact g1
theorem KP {p q:Nat->Option (Nat×Nat)}: ∀(ps:List (Nat×Value)) (xs:Array Value) (xs':Array Value),(∀i x,p i=some x->q i=some x)->Instr.fill p xs ps=some xs'->Instr.fill q xs ps=some xs'
 | [],xs,xs',_,h=>h
 | (i,v)::r,xs,xs',hpq,h=>by
  simp only [Instr.fill] at h ⊢;cases hp:p i with
  | none=>simp [hp] at h
  | some x=>
   obtain ⟨off,size⟩:=x;rw [hpq i _ hp];simp only [hp] at h ⊢;split at h
   . cases h
   . rename_i hc;rw [if_neg hc];exact KP r _ xs' hpq h
theorem qzt (hD:zY P D) (hg:Good g st w) (ht:RelT g n t a) {T0:TypeId} {parts:Array (Nat×Operand)} (ho:o.op= .build T0 parts)
  (h:yK D T0 (parts.toList.map fun p=>(p.1,ev t p.2)) fun v=>K v st):xU P o a g st w K X:=by
 unfold yK at h;split at h;case h_2=>exact h.elim
 rename_i ti hti;split at h;case h_2=>exact h.elim
 rename_i z pl hag hz hpl;split at h;case h_2=>exact h.elim
 rename_i cs hcs;obtain ⟨i,x,hi,hx,hR⟩:=Qf (g:=g) (hD _ _ hti) hz;obtain ⟨xs',hf,hR',_⟩:=qjA ht parts.toList z cs x.cells hR hcs;have hb:P.built T0 (parts.toList.map fun p=>(p.1,a.eval p.2))=some xs':=by
  obtain ⟨d,h1,h2,h3⟩:=(hD _ _ hti).under;unfold Program.built;unfold qQI at hpl;split at hpl
  . rename_i fs hfs;injection hpl with hpl;subst hpl;rw [hfs] at h3;obtain ⟨fields,rfl,rfl,hall⟩:=h3;simp only [h1,hi,hx];have hm: ∃l,fields.toList.mapM (fun (f:Field)=>(P.info? f.type).map fun i=>(f.offset,i.size))=some l/\ ∀(j:Nat) (f:Field),fields.toList[j]? =some f-> ∃i,P.info? f.type=some i/\l[j]? =some (f.offset,i.size):=by
     have hall': ∀f∈fields.toList,(P.info? f.type).isSome=true:=fun f hf'=>Jbu.1 hall f hf'
     generalize fields.toList=L at hall';induction L with
     | nil=>exact ⟨[],rfl,by simp⟩
     | cons f r ih=>
      obtain ⟨l,l1,l2⟩:=ih fun f' hf'=>hall' f' (by simp [hf'])
      obtain ⟨i,hi⟩:=Jb2.1 (hall' f (by simp))
      refine ⟨(f.offset,i.size)::l,by simp [List.mapM_cons,hi,l1],fun j f' hj=> ?_⟩
      cases j with
      | zero=>simp at hj;subst hj;exact ⟨i,hi,rfl⟩
      | succ j=>simp at hj;simpa using l2 j f' hj
    obtain ⟨l,l1,l2⟩:=hm;simp only [l1];refine KP _ _ _ (fun j p hp=> ?_) hf
    simp only [Jax] at hp;cases hfj:fields.toList[j]? with
    | none=>simp [hfj] at hp
    | some f=>
     simp only [hfj,Ja8] at hp;split at hp;case h_2=>cases hp
     rename_i te hte;injection hp with hp;subst hp;obtain ⟨i',hi',hl⟩:=l2 j f hfj;obtain ⟨i2,hi2,hs2,_⟩:=(hD _ _ hte).info;rw [hi'] at hi2;injection hi2 with hi2;subst hi2;rw [<- hs2];simpa using hl
  . rename_i m e hfs;split at hpl;case h_2=>cases hpl
    rename_i te hte;injection hpl with hpl;subst hpl;rw [hfs] at h3;simp only [srtOk] at h3;subst h3;obtain ⟨i2,hi2,hs2,_⟩:=(hD _ _ hte).info;simp only [h1,hi,hx,hi2,hs2];exact hf
  . cases hpl
 refine xq (x:= .agg xs') hg ?_ hR' h;have:=run_build (P:=P) w T0 (parts.map fun p=>(p.1,a.eval p.2)) xs' (by simpa using hb)
 simp only [execOp,ho,Sem.run_bind,this,Result.andThen_ok,Sem.run_pure]
theorem Vh (z:List T): ∀m,(qjI z m).length=m*z.length
 | 0=>by simp [qjI]
 | m+1=>by simp [qjI,Vh z m,Nat.succ_mul,Nat.add_comm]
theorem qvf (z:List T): ∀(len i:Nat),i<len*z.length->(qjI z len)[i]? =z[i%z.length]?
 | 0,i,h=>by simp at h
 | len+1,i,h=>by
  rw [qjI];by_cases hi:i<z.length
  . rw [Jav hi,Nat.mod_eq_of_lt hi]
  . rw [Jas (by omega),qvf z len _ (by rw [Nat.succ_mul] at h;omega)]
    rw [show i%z.length=(i-z.length)%z.length from Nat.mod_eq_sub_mod (by omega)]
theorem WP (e:El): ∀(m:Nat) (cs:List T) (l:List (ty e)),cs.length=m*sz e->qQw e m cs=some l->l.length=m/\ ∀(j:Nat) (u:T),(encs e l)[j]? =some u-> ∃c,cs[j]? =some c/\ ∀(g:G P) (z:Value),R g c z->R g u z
 | 0,cs,l,_,h=>by simp [qQw] at h;subst h;simp [encs]
 | m+1,cs,l,hl,h=>by
  simp only [qQw] at h;split at h;case h_2=>cases h
  rename_i x l' hx hl';injection h with h;subst h;obtain ⟨d1,d2⟩:=dec_ok e _ x hx;obtain ⟨e1,e2⟩:=WP e m _ l' (by rw [Jb9,hl,Nat.succ_mul];omega) hl'
  refine ⟨by simp [e1],fun j u hj=> ?_⟩
  rw [wW] at hj;by_cases hjs:j<sz e
  . rw [Jav (by rw [zF];exact hjs)] at hj
    obtain ⟨c,c1,c2⟩:=d2 j u hj;rw [Jbl hjs] at c1;exact ⟨c,c1,c2⟩
  . rw [Jas (by rw [zF];omega),zF] at hj
    obtain ⟨c,c1,c2⟩:=e2 _ u hj;rw [Jbo,show sz e+(j-sz e)=j by omega] at c1
    exact ⟨c,c1,c2⟩
theorem xU.mono1 {K1:Kn} (h:xU P o a g st w K1 X) (hm: ∀(v:T) (s:St) (x:Value) (g':G P),K1 v s->R g' v x-> ∃u,K u s/\R g' u x):xU P o a g st w K X:=fun K' Q' h1 h2=>
 h K' Q' (fun v s' x g' w' hk hg' hl hs hr=>by
  obtain ⟨u,u1,u2⟩:=hm v s' x g' hk hr;exact h1 u s' x g' w' u1 hg' hl hs u2) h2
theorem qe0 {e:El} {v:T} {x:Value} {K1:T->Prop} (h:qKT e v K1) (hR:R g v x): ∃u,K1 u/\R g u x:=by
 unfold qKT at h;split at h;case h_2=>exact h.elim
 rename_i cs;split at h;case h_2=>exact h.elim
 rename_i l hl;split at h;case h_2=>exact h.elim
 rename_i hd;have hd:=Jac hd;have hp:=ye e;have hdiv:cs.length=cs.length / sz e*sz e:=by
  rw [<- hd,Nat.mul_div_cancel _ hp]
 obtain ⟨d1,d2⟩:=WP (P:=P) e _ cs l hdiv hl;refine ⟨_,h, ?_⟩;cases hR with
 | ag _ xs h1 h2 h3=>
  refine .al e l xs (by rw [qg,hd];exact h1) (fun i c y hc hy=> ?_) h3
  obtain ⟨c0,c1,c2⟩:=d2 i c hc;exact c2 g y (h2 i c0 y c1 hy)
theorem qku (hD:zY P D) (hg:Good g st w) (ht:RelT g n t a) {T0:TypeId} {parts:Array (Nat×Operand)} (ho:o.op= .build T0 parts) {e:El}
  (h:yK D T0 (parts.toList.map fun p=>(p.1,ev t p.2)) fun v=>qKT e v fun v=>K v st):xU P o a g st w K X:=
 (qzt (K:=fun v s=>s=st/\qKT e v fun v=>K v st) hD hg ht ho (by
  unfold yK at h ⊢;split at h;case h_2=>exact h.elim
  split at h;case h_2=>exact h.elim
  split at h;case h_2=>exact h.elim
  exact ⟨rfl,h⟩)).mono1 fun v s x g' hk hr=>by
   obtain ⟨rfl,hk⟩:=hk;exact qe0 hk hr
theorem qkW (hD:zY P D) (hg:Good g st w) {T0:TypeId} {e:El} (ho:o.op= .alloc T0) (h:qxn D T0 e st K):xU P o a g st w K X:=by
 unfold qxn at h;split at h;case h_2=>exact h.elim
 rename_i ti hti;split at h;case h_2=>exact h.elim
 rename_i z hz hE;split at h;case h_2=>exact h.elim
 rename_i l hl;split at h;case h_2=>exact h.elim
 rename_i hd;obtain ⟨d1,d2,d3⟩:=Jac hd;have hp:=ye e;have hdiv:z.length=z.length / sz e*sz e:=by rw [<- d1,Nat.mul_div_cancel _ hp]
 obtain ⟨_,e2⟩:=WP (P:=P) e _ z l hdiv hl;obtain ⟨i,x,h1,h2,h3⟩:=Qf (g:=g) (hD _ _ hti) hz;have hzr:(zeroValue T0).run P w= .ok x w:=zw (by rw [wD,h1];simp [h2]) w
 exact qVb (x:=x) (E:=T0) hg (by simp only [execOp,ho,Instr.alloc,newVar,newRow,newObj,Sem.run_bind,Sem.run_pure,Result.andThen_ok,hzr];rfl) h3 d1 d2 d3 hE (fun j u hj=>by
  obtain ⟨c,c1,c2⟩:=e2 j u hj;exact ⟨c,c1,fun g y=>c2 g y⟩) h
theorem YU (hD:zY P D) (hg:Good g st w) (ht:RelT g n t a) {T0:TypeId} {len:Nat} {parts:Array (Nat×Operand)} (ho:o.op= .buildSlice T0 len parts) (h:ji D T0 len (parts.toList.map fun p=>(p.1,ev t p.2)) fun v=>K v st):xU P o a g st w K X:=by
 have hparts:(parts.map fun p=>(p.1,a.eval p.2)).toList=parts.toList.map fun p=>(p.1,a.eval p.2):=by simp
 unfold ji at h;split at h
 . split at h;case h_2=>exact h.elim
   rename_i hps hti;rename_i ti;split at h;case h_2=>exact h.elim
   rename_i e hs;have hu:=zf (hD _ _ hti) hs;obtain ⟨i,hi⟩:=qkc (hD _ _ hti) hs;have hp0:parts.toList=[]:=by simpa using hps
   have hrun:(execOp a.eval o).run P w= .ok (.value (.slice (some ⟨w.heap.size,0,none⟩) 0 0)) (w.alloc (.cells #[] e)):=by
    have hsz:(sizeOf e).run P w= .ok i.size w:=zw (by rw [jL,hi];rfl) w
    have hun:(underlying T0).run P w= .ok (.slice e) w:=zw (by rw [jk,hu]) w
    have eR:(Array.range 0).map (fun i=>(#[]:Array Value)[i%(#[]:Array Value).size]!)= #[]:=by simp
    simp only [execOp,ho,Instr.buildSlice,Sem.run_bind,hun,Result.andThen_ok,hsz];rw [if_neg (by omega)]
    simp only [Sem.run_bind,Sem.run_pure,Result.andThen_ok,hparts,hp0,Nat.zero_mul,if_true,List.map_nil,Instr.fill,eR];rfl
   intro K' Q' hK' _;unfold Oper.wp;rw [hrun];obtain ⟨k1,k2,k3⟩:=qZu (cs:=[]) (blk:= #[]) (E:=e) (w':=w.alloc (.cells #[] e)) hg ⟨by simp,by simp⟩ rfl rfl rfl rfl
   exact hK' _ _ _ _ _ h k1 ⟨k3,fun _ _ _=>rfl⟩ k2 (.nil _)
 . rename_i m;split at h;case h_2=>exact h.elim
   rename_i ti hti;split at h;case h_2=>exact h.elim
   rename_i te' hs;split at h;case h_2=>exact h.elim
   rename_i te hte;split at h;case h_2=>exact h.elim
   rename_i z e hz he;split at h;case h_2=>exact h.elim
   rename_i hle;have hle:=Jac hle;split at h;case h_2=>exact h.elim
   rename_i cs hcs;split at h;case h_2=>exact h.elim
   rename_i l hl;have hu:=zf (hD _ _ hti) hs;obtain ⟨ie,x,hi,hx,hR⟩:=Qf (g:=g) (hD _ _ hte) hz;obtain ⟨ie',hi2,hi',_,hz4⟩:=(hD _ _ hte).info;rw [hi] at hi2;injection hi2 with hi2;subst hi2;rw [show Nat.succ m=m+1 from rfl] at hcs hl hle ho
   obtain ⟨hse,_⟩:=(hD _ _ hte).el e he;have hp:=ye e;have hsize0:te.size=te.size:=rfl;generalize hsize:te.size=size at hsize0 hcs hle hse hi' ⊢;generalize hlen:m+1=len at *;cases hR with
   | ag _ _ r1 r2 r3=>
   have hzl:z.length=size:=by
    rw [<- hsize];exact (hz4 z hz).2
   have hzs:x.cells.size=size:=by omega
   let X:Array Value:=(Array.range (len*size)).map (x.cells[· %x.cells.size]!)
   have hX: ∀i,i<len*size->X[i]? =x.cells[i%size]? :=by
    intro i hi;have hm:i%size<x.cells.size:=by rw [hzs];exact Nat.mod_lt _ (by omega)
    simp only [X,Array.getElem?_map,Array.getElem?_range,if_pos hi,Ja8,hzs];simp [getElem!_def,hm]
   have hfl:(qjI z len).length=len*size:=by rw [Vh,hzl]
   have hXs:X.size=len*size:=by simp [X]
   have hR0:R g (.ag (qjI z len)) (.agg X):=by
    refine .ag _ _ (by rw [hfl,hXs]) (fun i c y hi hy=> ?_) (fun i y hy=> ?_)
    . have hlt:i<len*size:=by rw [<- hXs];exact (Jar.1 hy).1
      rw [hX i hlt] at hy;rw [qvf z len i (by rw [hzl];exact hlt),hzl] at hi
      exact r2 _ _ _ hi hy
    . have hlt:i<len*size:=by rw [<- hXs];exact (Jar.1 hy).1
      rw [hX i hlt] at hy;exact r3 _ _ hy
   obtain ⟨xs',hf,hR',hcl⟩:=qjA ht parts.toList _ cs X hR0 hcs;have hrun:(execOp a.eval o).run P w= .ok (.value (.slice (some ⟨w.heap.size,0,none⟩) len len)) (w.alloc (.cells xs' te')):=by
    have hsz:(sizeOf te').run P w= .ok size w:=zw (by rw [jL,hi];simp [hi']) w
    have hun:(underlying T0).run P w= .ok (.slice te') w:=zw (by rw [jk,hu]) w
    have hz0:(zeroValue te').run P w= .ok x w:=zw (by rw [wD,hi];simp [hx]) w
    have hne: ¬len*size=0:=by
     have:0<len*size:=Nat.mul_pos (by omega) (by omega)
     omega
    have eX:(Array.range (len*size)).map (fun i=>x.cells[i%x.cells.size]!)=X:=rfl
    simp only [execOp,ho,Instr.buildSlice,Sem.run_bind,hun,Result.andThen_ok,hsz];rw [if_neg (by omega)]
    simp only [Sem.run_bind,Sem.run_pure,Result.andThen_ok,hparts];rw [if_neg hne];simp only [Sem.run_bind,Sem.run_pure,Result.andThen_ok,hz0,eX,hf];rfl
   intro K' Q' hK' _;unfold Oper.wp;rw [hrun];obtain ⟨d1,d2⟩:=WP (P:=P) e len cs l (by rw [hcl,hfl,hse]) hl
   cases hR' with
   | ag _ _ q1 q2 q3=>
   have hcells:Cells g (encs e l) xs':=⟨by rw [qg,d1,hse];omega,fun j u hj=>by
    obtain ⟨c,c1,c2⟩:=d2 j u hj;have hlt:j<xs'.size:=by rw [<- q1];exact (Jai.1 c1).1
    exact ⟨xs'[j],Jaw hlt,q3 _ _ (Jaw hlt),c2 g _ (q2 _ _ _ c1 (Jaw hlt))⟩⟩
   obtain ⟨k1,k2,k3⟩:=qZu (cs:=encs e l) (blk:=xs') (E:=te') (w':=w.alloc (.cells xs' te')) hg hcells rfl rfl rfl rfl;refine hK' _ _ _ _ _ h k1 ⟨k3,fun _ _ _=>rfl⟩ k2 ?_
   rw [<- d1];refine .sl true e l _ _ (Jam _) (by
    have:len<=len*size:=Jb7 _ (by omega)
    simp only [maxLen];omega) (fun _=>rfl) fun _=>⟨w.heap.size,0,encs e l,rfl,by simp, ?_⟩
   rw [Jby,Jbm (by rw [qg];exact Jam _)]
end
end
section
open Go.RowKit
variable {P:Program} [Bd P]
theorem yW {zs:Array Value} {n:Nat}:(Builtin.zeroCells zs n).toList.length=n*zs.size:=by simp [Builtin.zeroCells]
theorem yZ {zs:Array Value} {n j:Nat} (h:j<n*zs.size):(Builtin.zeroCells zs n).toList[j]? =zs[j%zs.size]? :=by
 have hp:0<zs.size:=by
  rcases Nat.eq_zero_or_pos zs.size with h0 | h0
  . rw [h0] at h;simp at h
  . exact h0
 have hm:=Nat.mod_lt j hp;simp [Builtin.zeroCells,h,hm]
section
variable {P:Program} [Bd P] {D:TD} {g:G P} {st:St} {w:World} {n:Nat} {t:Tm} {a:Act} {o:Oper} {K X:Kn}
theorem qJK (hD:zY P D) (hg:Good g st w) (ht:RelT g n t a) {T0:TypeId} {x:Operand} (ho:o.op= .call {callee:= .builtin .clear,args:= #[x],argTypes:= #[T0]}) {te:TI} (hte:xi D T0=some te) (h:qjz te st (ev t x) fun s=>K .undef s):xU P o a g st w K X:=False.elim h
end
end
section
open Go.RowKit Go.Lib
variable {P:Program} [Bd P]
section
variable {P:Program} [Bd P] {D:TD} {g:G P} {st:St} {w:World} {n:Nat} {t:Tm} {a:Act} {o:Oper} {K X:Kn}
structure Src (g:G P) (w:World) (e:El) (l:List (ty e)) (A:Option Addr) (news:List Value):Prop where
 len:news.length=l.length*sz e
 none_:A=none->l.length=0
 cell: ∀b,A=some b-> ∀(j:Nat) (u:Value),news[j]? =some u->w.cell? (b.add j)=some u
 one: ∀u∈news,u.oneCell'=true
 val: ∀(j:Nat) (u:T) (y:Value),(encs e l)[j]? =some u->news[j]? =some y->R g u y
theorem Src.nil {e:El} {A:Option Addr}:Src g w e [] A []:=⟨by simp,fun _=>rfl,by simp,by simp,by simp⟩
theorem Src.of {e:El} {l:List (ty e)} {b off:Nat} (h:jl g w (encs e l) b off): ∃news,Src g w e l (some ⟨b,off,none⟩) news:=by
 obtain ⟨news,n1,n2⟩:=Qm (l.length*sz e) (p:=fun j y=> ∃u,(encs e l)[j]? =some u/\w.cell? ⟨b,off+j,none⟩=some y/\y.oneCell'=true/\R g u y) (fun j hj=>by
  have hu:(encs e l)[j]? =some ((encs e l)[j]'(by rw [qg];exact hj)):=by simp
  obtain ⟨y,y1,y2,y3⟩:=h j _ hu;exact ⟨y,_,hu,y1,y2,y3⟩)
 refine ⟨news,n1,by simp,fun b' hb j u hj=> ?_,fun u hu=> ?_,fun j u y hu hy=> ?_⟩
 . injection hb with hb;subst hb;obtain ⟨_,_,k2,_⟩:=n2 j u hj;rw [Addr.add_lit];exact k2
 . obtain ⟨j,hj⟩:=List.getElem?_of_mem hu;obtain ⟨_,_,_,k3,_⟩:=n2 j u hj;exact k3
 . obtain ⟨u',k1,_,_,k4⟩:=n2 j y hy;rw [hu] at k1;injection k1 with k1;subst k1;exact k4
theorem qZZ (hg:Good g st w) {e:El} {k ver:Nat} {l:List (ty e)} (hl:ju st e k ver=some l) {oi:OI} (hoi:g.ob k ver=some oi) (off m:Nat) (hm:off+m<=l.length) {A:Option Addr} (hA:m≠0->A=some ⟨oi.b,off*sz e,none⟩): ∃news,Src g w e ((l.drop off).take m) A news:=by
 obtain ⟨oi',h1,h2,h3,_,h4⟩:=hg.arr (qh hl);rw [hoi] at h1;injection h1 with h1;subst h1;by_cases hm0:m=0
 . subst hm0;exact ⟨[],by rw [List.take_zero];exact Src.nil⟩
 . rw [hA hm0];obtain ⟨_,blk,E,fr,b1,_,b2,_⟩:=h4 (by omega)
   refine Src.of ?_;rw [<- kq, <- wY];exact (jl.of b2 b1 _).take _
theorem qjC (hg:Good g st w) {e:El} {v:T} {x:Value} {K:List (ty e)->Prop} (hR:R g v x) (h:xE st e v K): ∃l A c news,K l/\x= .slice A l.length c/\Src g w e l A news:=by
 unfold xE at h;split at h
 . cases hR with
   | nil A=>exact ⟨[],A,0,[],h,rfl,Src.nil⟩
 . rename_i full e' l;split at h;case isFalse=>exact h.elim
   rename_i he;subst he;cases hR with
   | sl _ _ _ A c h1 h2 h3 h4=>
    by_cases hne:l=[]
    . subst hne;exact ⟨[],A,c,[],h,rfl,Src.nil⟩
    . obtain ⟨b,off,cs,rfl,hro,henc⟩:=h4 hne;obtain ⟨blk,E,fr,b1,b2⟩:=hg.ro b cs hro;obtain ⟨news,hs⟩:=Src.of (e:=e') (l:=l) (b:=b) (off:=off) (g:=g) (w:=w) (by rw [<- henc];exact jl.ofR b2 b1 _ _ (by rw [henc];exact zo))
      exact ⟨l,_,c,news,h,rfl,hs⟩
 . rename_i e' k ver;split at h;case isFalse=>exact h.elim
   rename_i he;subst he;split at h;case h_2=>exact h.elim
   rename_i l hl;cases hR with
   | oa _ _ _ oi A p1 p2 p3 p4=>
    obtain ⟨oi',q1,q2,q3,_⟩:=hg.arr (qh hl);rw [p1] at q1;injection q1 with q1;subst q1;obtain ⟨news,hs⟩:=qZZ hg hl p1 0 l.length (by omega) (A:=A) (fun hn=>by rw [p2 (by omega)];simp)
    rw [Jby,Jbm (Jam _)] at hs;exact ⟨l,A,_,news,h,by rw [q2],hs⟩
 . rename_i e' k ver off m;split at h;case isFalse=>exact h.elim
   rename_i he;subst he;split at h;case h_2=>exact h.elim
   rename_i l hl;cases hR with
   | os _ _ _ _ _ oi A c p1 p2 p3 p4 p5 p6=>
    obtain ⟨oi',q1,q2,q3,_⟩:=hg.arr (qh hl);rw [p1] at q1;injection q1 with q1;subst q1;obtain ⟨news,hs⟩:=qZZ hg hl p1 off m (by omega) (fun hn=>p3 (by omega))
    refine ⟨_,A,c,news,h, ?_,hs⟩;have:((l.drop off).take m).length=m:=by simp;omega
    rw [this]
 . exact h.elim
theorem Cells.new {cs ds:List T} {olds news:List Value} {rest:Array Value} (h1:cs.length=olds.length) (h2:ds.length=news.length) (r1: ∀(j:Nat) (u:T) (y:Value),cs[j]? =some u->olds[j]? =some y->R g u y) (r2: ∀(j:Nat) (u:T) (y:Value),ds[j]? =some u->news[j]? =some y->R g u y)
  (o1: ∀u∈olds,u.oneCell'=true) (o2: ∀u∈news,u.oneCell'=true):Cells g (cs++ds) (olds.toArray++news.toArray++rest):=by
 refine ⟨by simp;omega,fun j u hu=> ?_⟩
 have hj:j<olds.length+news.length:=by have:=(Jai.1 hu).1;simp at this;omega
 by_cases e:j<olds.length
 . rw [Jav (by omega)] at hu
   refine ⟨olds[j], ?_,o1 _ (Jba e),r1 j u _ hu (Jao e)⟩;rw [Jbi (by simp;omega),Jbi (by simpa using e)]
   simp [e]
 . rw [Jas (by omega)] at hu
   have e':j-olds.length<news.length:=by omega
   refine ⟨news[j-olds.length], ?_,o2 _ (Jba e'),r2 _ u _ (by rw [<- h1];exact hu) (Jao e')⟩
   rw [Jbi (by simp;omega),Array.getElem?_append_right (by simp;omega)]
   simp [e']
theorem Zx (hg:Good g st w) {te:TypeId} {ti:TI} (hT:TIok P te ti) {x y:Operand} {ts:Array TypeId} (ho:o.op= .call {callee:= .builtin .append,args:= #[x,y],argTypes:=ts}) {e:El} (he:ti.el=some e) {z:List T} (hz:ti.zero=some z) {l m:List (ty e)} {A:Option Addr} {c:Nat} {olds news:List Value}
  (h1:Src g w e l A olds) (n1:news.length=m.length*sz e) (n2: ∀u∈news,u.oneCell'=true) (n3: ∀(j:Nat) (u:T) (y:Value),(encs e m)[j]? =some u->news[j]? =some y->R g u y) (hc:c<l.length+m.length) (hroom:(l.length+m.length)*ti.bytes<=140737488355328)
  (hrun: ∀(ie:TypeInfo) (xz:Value),P.info? te=some ie->ie.zero=some xz->(Builtin.append_ ts o.type #[a.eval x,a.eval y]).run P w= .ok (.slice (some ⟨w.heap.size,0,none⟩) (l.length+m.length) (grownCap w (l.length+m.length) c te)) (w.drew.alloc (.cells (olds.toArray++news.toArray++Builtin.zeroCells xz.cells (grownCap w (l.length+m.length) c te- (l.length+m.length))) te)))
  {k v:Nat} {st':St} (hst: ∀i,st'[i]? =if i=k then some (some (.arr v e (l++m)))else st[i]?) (hk:k<=st.length) (hkk:(∃o,st[k]? =some (some o))∨k=st.length) (hl:st.length<=st'.length) (hnew:g.ob k v=none) (hver: ∀u oi,g.ob k u=some oi->u<=v) (hkept: ∀o,st[k]? =some (some o)-> ∃v' l',o= .arr v' e l') (hK:K (.oa e k v) st'):xU P o a g st w K X:=by
 obtain ⟨ie,xz,hi,hxz,hRz⟩:=Qf (g:=g) hT hz;obtain ⟨ie',hi2,hi',hby,hz4⟩:=hT.info;rw [hi] at hi2;injection hi2 with hi2;subst hi2;obtain ⟨hse,hb0⟩:=hT.el e he;have hp:=ye e;have hzs:xz.cells.size=sz e:=by
  have:=(hz4 z hz).2;cases hRz with | ag _ _ r1 _ _=>omega
 have h63:l.length+m.length<=maxLen:=by
  have:l.length+m.length<=(l.length+m.length)*ti.bytes:=Jb7 _ hb0;simp only [maxLen];omega
 have hrun:=hrun ie xz hi hxz;obtain ⟨gc1,gc2⟩:=kN w (l.length+m.length) c te h63;intro K' Q' hK' _;unfold Oper.wp;rw [xW ho hrun];have hbs:(olds.toArray++news.toArray++Builtin.zeroCells xz.cells (grownCap w (l.length+m.length) c te- (l.length+m.length))).size=grownCap w (l.length+m.length) c te*sz e:=by
  simp only [Array.size_append,List.size_toArray,h1.len,n1,V6,hzs];rw [<- Nat.add_mul, <- Nat.add_mul];congr 1;omega
 have hrow:=Cells.new (rest:=Builtin.zeroCells xz.cells (grownCap w (l.length+m.length) c te- (l.length+m.length))) (by rw [qg,h1.len]) (by rw [qg,n1]) h1.val n3 h1.one n2
 rw [<- Vp] at hrow;generalize olds.toArray++news.toArray++Builtin.zeroCells xz.cells (grownCap w (l.length+m.length) c te- (l.length+m.length))=BLK at hbs hrow ⊢;obtain ⟨k1,k2,k3⟩:=zv (st':=st') (k:=k) (v:=v) (o':= .arr v e (l++m)) (oi:=⟨w.heap.size,l.length+m.length,grownCap w (l.length+m.length) c te⟩) (w':=w.drew.alloc (.cells BLK te)) hg hst hk hl rfl (.inl hnew) hver ⟨by simp,gc1,gc2⟩
  (fun _=> .inl (Jam _)) rfl rfl rfl (by simp) (fun b hb _=>Below.heap_alloc w.drew _ b hb) (fun _=>⟨BLK,te,(0,0),heap_alloc_new w.drew _,fun q _ h=>absurd h.2 (Ja7 _),hrow,by simp only [jt];exact ⟨by omega,hT.elt e he⟩⟩) (fun o ho=>by
   obtain ⟨v',l',rfl⟩:=hkept o ho;exact ⟨_,_,rfl⟩)
 exact hK' _ _ _ _ _ hK k1 ⟨k3,ja hkk⟩ k2 (.oa e k v ⟨w.heap.size,l.length+m.length,grownCap w (l.length+m.length) c te⟩ _ (by simp [G.set]) (fun _=>by simp) gc1 gc2)
theorem qwj {e:El} {y:ty e} {m j:Nat} {u:T} (h:(encs e (List.replicate m y))[j]? =some u):j<m*sz e/\(enc e y)[j%sz e]? =some u:=by
 have hp:=ye e;have hjl:j<m*sz e:=by have:=(Jai.1 h).1;rwa [qg,Jb3] at this
 have hpd:j / sz e<m:=Nat.div_lt_of_lt_mul (by rw [Nat.mul_comm];exact hjl)
 have hje:j=j / sz e*sz e+j%sz e:=by rw [Nat.mul_comm];exact (Nat.div_add_mod j (sz e)).symm
 rw [hje,vl (x:=y) (by simp [hpd]) (Nat.mod_lt j hp)] at h
 exact ⟨hjl,h⟩
theorem qw3 (hD:zY P D) (hg:Good g st w) (ht:RelT g n t a) {T0 T1:TypeId} {x y:Operand} (ho:o.op= .call {callee:= .builtin .append,args:= #[x,y],argTypes:= #[T0,T1]}) {te ti1:TI} {k:IntKind} (hte:xi D T0=some te) (hti1:zx D T1=some ti1) (hs1:ti1.srt= .int k) {e':El} {l:List (ty e')} {k1:IntKind} {m:Int}
  (hx:ev t x= .sl true e' l) (hy:ev t y= .int k1 m) (h:wi te st e' l m K):xU P o a g st w K X:=by
 unfold xi at hte;split at hte;case h_2=>cases hte
 rename_i ti hti;split at hte;case h_2=>cases hte
 rename_i t' hs;have hu:=zf (hD _ _ hti) hs;have hU:=wJ (hD _ _ hti1) hs1;have hT:=hD _ _ hte;unfold wi at h;split at h;case h_2=>exact h.elim
 rename_i e z he hz;split at h;case h_2=>exact h.elim
 rename_i y0 hy0;split at h;case isFalse=>exact h.elim
 rename_i he';subst he';obtain ⟨hm,hroom,hK⟩:=h;obtain ⟨m,rfl⟩: ∃n:Nat,m=(n:Int):=⟨m.toNat,by omega⟩
 have hm:0<m:=by omega
 rw [Jay] at hroom hK;have hR:=ht.ev x;rw [hx] at hR;have hyv:a.eval y= .int k1 (m:Int):=wa (by have:=ht.ev y;rw [hy] at this;exact this)
 obtain ⟨ie',hi2,hi',hby,hz4⟩:=hT.info;obtain ⟨hse,hb0⟩:=hT.el e' he;have hp:=ye e';obtain ⟨ie,xz,hi,hxz,hRz⟩:=Qf (g:=g) hT hz;rw [hi] at hi2;injection hi2 with hi2;subst hi2;obtain ⟨d1,d2⟩:=dec_ok e' z y0 hy0;cases hRz with
 | ag _ _ r1 r2 r3=>
 have hxs:xz.cells.size=sz e':=by rw [<- r1,d1]
 have h63:l.length+m<=maxLen:=by
  have:l.length+m<=(l.length+m)*te.bytes:=Jb7 _ hb0;simp only [maxLen];omega
 obtain ⟨l2,A,c,olds,hl2,hxv,hsrcx⟩:=qjC (e:=e') (K:=fun l2=>l2=l) hg (x:=a.eval x) (v:= .sl true e' l) hR (by simp [xE,jX])
 subst hl2;obtain ⟨A',c',hs',_,_,hfull⟩:=wZ hR;rw [hxv] at hs';simp only [Value.slice.injEq,true_and] at hs';obtain ⟨rfl,rfl⟩:=hs';have hlen:(Builtin.zeroCells xz.cells m).toList.length=m*sz e':=by rw [yW,hxs]
 refine Zx (m:=List.replicate m y0) (news:=(Builtin.zeroCells xz.cells m).toList) (A:=A) (c:=c) hg hT ho he hz hsrcx (by rw [hlen,Jb3]) (fun v hv=> ?_) (fun j u v hj hv=> ?_) (by rw [hfull rfl,Jb3];omega) (by rw [Jb3];exact hroom) (fun ie2 xz2 hi2 hxz2=> ?_) j8 (Jam _) (.inr rfl) (by simp) (zu hg) (fun u oi hu=>by rw [zu hg] at hu;cases hu) (fun o ho=>by rw [Ja0 (Jam _)] at ho;cases ho) hK
 . obtain ⟨j,hj⟩:=List.getElem?_of_mem hv;have hjl:=(Jai.1 hj).1;rw [yW] at hjl;rw [yZ hjl] at hj;exact r3 _ v hj
 . obtain ⟨hjl,hj⟩:=qwj hj;rw [yZ (by rw [hxs];exact hjl),hxs] at hv
   obtain ⟨c0,c1,c2⟩:=d2 _ u hj;exact c2 g _ (r2 _ c0 _ c1 hv)
 . rw [hi] at hi2;injection hi2 with hi2;subst hi2;rw [hxz] at hxz2;injection hxz2 with hxz2;subst hxz2;rw [hxv,hyv,Jb3,Array.toArray_toList];exact VQ hu hU hi hxz A l2.length c m k1 olds (by rw [hsrcx.len,hi',hse]) (fun hn=>⟨hsrcx.none_ hn,by rw [hfull rfl];exact hsrcx.none_ hn⟩) hsrcx.cell hm (by rw [hi', <- hse];exact hp) (by rw [hfull rfl];omega) h63 (by rw [hby];exact hroom)
theorem qWn {T0 te:TypeId} {ie:TypeInfo} {xz:Value} (hu:P.underlying T0=some (.slice te)) (hi:P.info? te=some ie) (hz:ie.zero=some xz) (hsz:ie.size=xz.cells.size) (hb:0<ie.bytes) (m:Nat) (hroom:m*ie.bytes<=140737488355328):
  (Instr.makeSlice T0 (.int .i64 m) (.int .i64 m)).run P w= .ok (.slice (some ⟨w.heap.size,0,none⟩) m m) (w.alloc (.cells (Builtin.zeroCells xz.cells m) te)):=by
 have hm:m<=140737488355328:=Jau (Jb7 _ hb) hroom;have hw:IntKind.i64.wrap (m:Int)=m:=by simp [IntKind.wrap,IntKind.min,IntKind.max,IntKind.bits,IntKind.signed];omega
 have hq: ¬((ie.bytes:Int)*(m:Int) >2^48):=by
  have:((ie.bytes:Int)*(m:Int))=((m*ie.bytes:Nat):Int):=by rw [Int.natCast_mul,Int.mul_comm]
  rw [this];omega
 have hun:(underlying T0).run P w= .ok (.slice te) w:=zw (by rw [jk,hu]) w
 have hti:(typeInfo te).run P w= .ok ie w:=by simp [typeInfo,hi]
 have hsz':(sizeOf te).run P w= .ok ie.size w:=zw (by rw [jL,hi];rfl) w
 have hz':(zeroValue te).run P w= .ok xz w:=zw (by rw [wD,hi];simp [hz]) w
 have hai:(Go.asInt (.int .i64 (m:Int))).run P w= .ok (m:Int) w:=rfl;have hneg: ¬((m:Int) <0):=by omega
 have hgt: ¬((m:Int) > (m:Int)):=by omega
 simp only [Instr.makeSlice,Sem.run_bind,hun,Result.andThen_ok,hai,Sem.run_pure,hti,hw,hneg,hq,hgt,decide_false,Jcm,Ja5,if_false,run_askRoom,hsz',Jay];by_cases h0:m*ie.size=0
 . rw [if_pos h0];have e:m=0∨xz.cells.size=0:=by rw [<- hsz];exact Nat.mul_eq_zero.1 h0
   have e0: ∀f:Nat->Value,(Array.range 0).map f= #[]:=fun f=>by
    apply Jbn;simp
   simp only [h0,Sem.run_bind,newRow,newObj,Builtin.zeroCells, <- hsz,e0,Sem.run_pure,Result.andThen_ok];rfl
 . rw [if_neg h0];simp [Sem.run_bind,hz',newRow,newObj,Builtin.zeroCells,hsz];rfl
theorem qKX (hD:zY P D) (hg:Good g st w) (ht:RelT g n t a) {T0:TypeId} {x y:Operand} (ho:o.op= .makeSlice T0 x y) (h:Ky D T0 (ev t x) (ev t y) st K):xU P o a g st w K X:=by
 unfold Ky at h;split at h;case h_2=>exact h.elim
 rename_i te hte;unfold xi at hte;split at hte;case h_2=>cases hte
 rename_i ti hti;split at hte;case h_2=>cases hte
 rename_i t' hs;have hu:=zf (hD _ _ hti) hs;have hT:=hD _ _ hte;split at h;case h_2=>exact h.elim
 rename_i e z he hz;split at h;case h_2=>exact h.elim
 rename_i y0 hy0;split at h;case h_2=>exact h.elim
 rename_i m c hx hy;obtain ⟨⟨hm,rfl⟩,hroom,hK⟩:=h;have hK:=hK _ rfl;obtain ⟨m,rfl⟩: ∃n:Nat,c=(n:Int):=⟨c.toNat,by omega⟩
 rw [Jay] at hroom hK;have hxv:a.eval x= .int .i64 (m:Int):=wa (by have:=ht.ev x;rw [hx] at this;exact this)
 have hyv:a.eval y= .int .i64 (m:Int):=wa (by have:=ht.ev y;rw [hy] at this;exact this)
 obtain ⟨ie',hi2,hi',hby,hz4⟩:=hT.info;obtain ⟨hse,hb0⟩:=hT.el e he;have hp:=ye e;obtain ⟨ie,xz,hi,hxz,hRz⟩:=Qf (g:=g) hT hz;rw [hi] at hi2;injection hi2 with hi2;subst hi2;obtain ⟨d1,d2⟩:=dec_ok e z y0 hy0;cases hRz with
 | ag _ _ r1 r2 r3=>
 have hxs:xz.cells.size=sz e:=by rw [<- r1,d1]
 have hmax:m<=maxLen:=by
  have:m<=m*te.bytes:=Jb7 _ hb0;simp only [maxLen];omega
 have hrun:(execOp a.eval o).run P w= .ok (.value (.slice (some ⟨w.heap.size,0,none⟩) m m)) (w.alloc (.cells (Builtin.zeroCells xz.cells m) t')):=by
  simp only [execOp,ho,hxv,hyv,Sem.run_bind,qWn hu hi hxz (by rw [hi',hxs,hse]) (by rw [hby];exact hb0) m (by rw [hby];exact hroom),Result.andThen_ok]
  rfl
 have hlen:(Builtin.zeroCells xz.cells m).toList.length=m*sz e:=by rw [yW,hxs]
 have hsize:(Builtin.zeroCells xz.cells m).size=m*sz e:=by rw [<- Array.length_toList];exact hlen
 have hcells:Cells g (encs e (List.replicate m y0)) (Builtin.zeroCells xz.cells m):=by
  refine ⟨by rw [qg,Jb3,hsize];exact Jam _,fun j u hj=> ?_⟩
  obtain ⟨hjl,hj⟩:=qwj hj;have hv:(Builtin.zeroCells xz.cells m)[j]? =xz.cells[j%sz e]? :=by
   rw [<- Jbz,yZ (by rw [hxs];exact hjl),hxs]
  obtain ⟨c0,c1,c2⟩:=d2 _ u hj;have hlt:j%sz e<xz.cells.size:=by rw [hxs];exact Nat.mod_lt _ hp
  exact ⟨xz.cells[j%sz e],by rw [hv];simp [hlt],r3 _ _ (Jaw hlt),c2 g _ (r2 _ c0 _ c1 (Jaw hlt))⟩
 intro K' Q' hK' _;unfold Oper.wp;rw [hrun];obtain ⟨k1,k2,k3⟩:=zv (st':=st++[some (.arr 0 e (List.replicate m y0))]) (k:=st.length) (v:=0) (o':= .arr 0 e (List.replicate m y0)) (oi:=⟨w.heap.size,m,m⟩) (w':=w.alloc (.cells (Builtin.zeroCells xz.cells m) t')) hg j8 (Jam _) (by simp) rfl (.inl (zu hg)) (fun u oi hu=>by rw [zu hg] at hu;cases hu) ⟨by simp,Jam _,hmax⟩
  (fun _=> .inl (Jam _)) rfl rfl rfl (by simp) (fun b hb _=>Below.heap_alloc w _ b hb) (fun _=>⟨_,t',(0,0),heap_alloc_new w _,fun q _ h=>absurd h.2 (Ja7 _),hcells,by simp only [jt];exact ⟨by rw [hsize];exact Jam _,hT.elt e he⟩⟩) (fun o ho=>by rw [Ja0 (Jam _)] at ho;cases ho)
 exact hK' _ _ _ _ _ hK k1 ⟨k3,ja (.inr rfl)⟩ k2 (.oa e st.length 0 ⟨w.heap.size,m,m⟩ _ (by simp [G.set]) (fun _=>rfl) (Jam _) hmax)
theorem Vl (hg:Good g st w) (ht:RelT g n t a) {te:TypeId} {ti:TI} (hT:TIok P te ti) {x y:Operand} {ts:Array TypeId} (ho:o.op= .call {callee:= .builtin .append,args:= #[x,y],argTypes:=ts}) {e:El} (he:ti.el=some e) {z:List T} (hz:ti.zero=some z) {m:List (ty e)} {news:List Value}
  (n1:news.length=m.length*sz e) (n2: ∀u∈news,u.oneCell'=true) (n3: ∀(j:Nat) (u:T) (y:Value),(encs e m)[j]? =some u->news[j]? =some y->R g u y)
  (hnone:m=[]-> ∀A s c,s<=c->(Builtin.append_ ts o.type #[.slice A s c,a.eval y]).run P w= .ok (.slice A s c) w)
  (hnew: ∀(ie:TypeInfo) (xz:Value),P.info? te=some ie->ie.zero=some xz-> ∀(l:List (ty e)) A c olds,Src g w e l A olds->(A=none->c=0)->c<l.length+m.length->(l.length+m.length)*ti.bytes<=140737488355328->(Builtin.append_ ts o.type #[.slice A l.length c,a.eval y]).run P w= .ok (.slice (some ⟨w.heap.size,0,none⟩) (l.length+m.length) (grownCap w (l.length+m.length) c te)) (w.drew.alloc (.cells (olds.toArray++news.toArray++Builtin.zeroCells xz.cells (grownCap w (l.length+m.length) c te- (l.length+m.length))) te)))
  (hin: ∀(w':World) (ie:TypeInfo),P.info? te=some ie-> ∀b q s c,s+m.length<=c->(storeCells ⟨b,q+s*ie.size,none⟩ news 0).run P w= .ok () w'->(Builtin.append_ ts o.type #[.slice (some ⟨b,q,none⟩) s c,a.eval y]).run P w= .ok (.slice (some ⟨b,q,none⟩) (s+m.length) c) w')
  (h:je ti e st (ev t x) m K):xU P o a g st w K X:=by
 unfold je at h;obtain ⟨hse,hb0⟩:=hT.el e he;obtain ⟨ie,hi,hi',_⟩:=hT.info;have hR:=ht.ev x;generalize hv:ev t x=xv at hR h;generalize hex:a.eval x=ex at hR;split at h
 . obtain ⟨hroom,hK⟩:=h;cases hR with
   | nil A=>
    by_cases hm:m=[]
    . subst hm;intro K' Q' hK' _;unfold Oper.wp;rw [xW (w':=w) (v:= .slice A 0 0) ho (by rw [hex];exact hnone rfl A _ _ (Jam _))]
      obtain ⟨k1,k2,k3⟩:=zv (st':=st++[some (.arr 0 e [])]) (k:=st.length) (v:=0) (o':= .arr 0 e []) (oi:=⟨0,0,0⟩) (w':=w) hg j8 (Jam _) (by simp) rfl (.inl (zu hg)) (fun u oi hu=>by rw [zu hg] at hu;cases hu) ⟨rfl,Jam _,Jbt _⟩
       (fun h=>absurd ⟨rfl,rfl⟩ h) rfl rfl rfl (Jam _) (fun _ _ _=>rfl) (fun h=>absurd ⟨rfl,rfl⟩ h) (fun o ho=>by rw [Ja0 (Jam _)] at ho;cases ho)
      exact hK' _ _ _ _ _ hK k1 ⟨k3,ja (.inr rfl)⟩ k2 (.oa e st.length 0 ⟨0,0,0⟩ A (by simp [G.set]) (fun h=>absurd rfl h) (Jam _) (Jbt _))
    . have hml:0<m.length:=Jbv.2 hm;exact Zx (l:=[]) (olds:=[]) (A:=A) (c:=0) hg hT ho he hz Src.nil n1 n2 n3 (by simpa using hml) (by simpa using hroom) (fun ie xz hi hxz=>by rw [hex];exact hnew ie xz hi hxz [] A 0 [] Src.nil (fun _=>rfl) (by simpa using hml) (by simpa using hroom)) j8 (Jam _) (.inr rfl) (by simp) (zu hg) (fun u oi hu=>by rw [zu hg] at hu;cases hu) (fun o ho=>by rw [Ja0 (Jam _)] at ho;cases ho) hK
 . rename_i e' l;split at h;case isFalse=>exact h.elim
   rename_i he';subst he';obtain ⟨hml,hroom,hK⟩:=h;obtain ⟨l2,A,c,olds,hl2,hxv,hsrcx⟩:=qjC (e:=e') (K:=fun l2=>l2=l) hg (x:=ex) (v:= .sl true e' l) hR (by simp [xE,jX])
   subst hl2;obtain ⟨A',c',hs',_,_,hfull⟩:=wZ hR;rw [hxv] at hs';simp only [Value.slice.injEq,true_and] at hs';obtain ⟨rfl,rfl⟩:=hs';exact Zx (A:=A) (c:=c) hg hT ho he hz hsrcx n1 n2 n3 (by rw [hfull rfl];omega) hroom (fun ie xz hi hxz=>by rw [hex,hxv];exact hnew ie xz hi hxz _ A _ olds hsrcx (fun hn=>by rw [hfull rfl];exact hsrcx.none_ hn) (by rw [hfull rfl];omega) hroom) j8 (Jam _) (.inr rfl) (by simp) (zu hg) (fun u oi hu=>by rw [zu hg] at hu;cases hu) (fun o ho=>by rw [Ja0 (Jam _)] at ho;cases ho) hK
 . rename_i e' k ver;split at h;case isFalse=>exact h.elim
   rename_i he';subst he';split at h;case h_2=>exact h.elim
   rename_i l hl;obtain ⟨hroom,hK⟩:=h;have hlive:=qh hl;have hkl:k<st.length:=(Jai.1 hlive).1;obtain ⟨l2,A,c,olds,hl2,hxv,hsrcx⟩:=qjC (e:=e') (K:=fun l2=>l2=l) hg (x:=ex) (v:= .oa e' k ver) hR (by simp [xE,hl])
   subst hl2;have hnewv:g.ob k (ver+1)=none:=by
    cases hh:g.ob k (ver+1)with
    | none=>rfl
    | some oi=>have:=xH hg hlive hh;simp only [obVer] at this;omega
   have hver: ∀u oi,g.ob k u=some oi->u<=ver+1:=fun u oi hh=>by have:=xH hg hlive hh;simp only [obVer] at this;omega
   cases hR with
   | oa _ _ _ oi A' p1 p2 p3 p4=>
   simp only [Value.slice.injEq] at hxv;obtain ⟨rfl,hlen,rfl⟩:=hxv;obtain ⟨oi',q1,q2,q3,q4,q5⟩:=hg.arr hlive;rw [p1] at q1;injection q1 with q1;subst q1;by_cases hm:m=[]
   . subst hm;intro K' Q' hK' _;unfold Oper.wp;rw [xW (w':=w) (v:= .slice A' oi.len oi.cap) ho (by rw [hex];exact hnone rfl A' _ _ p3)]
     obtain ⟨k1,k2,k3⟩:=zv (st':=st.set k (some (.arr (ver+1) e' (l2++[])))) (k:=k) (v:=ver+1) (o':= .arr (ver+1) e' (l2++[])) (oi:=oi) (w':=w) hg (ko hkl) (by omega) (by simp) rfl (.inl hnewv) hver ⟨by simpa using q2,q3,q4⟩
      (fun hn=> .inr ⟨_,hlive,by
       refine zS p1 ?_;simpa [qn] using hn⟩) rfl rfl rfl (Jam _) (fun _ _ _=>rfl) (fun hn=>by
       obtain ⟨_,blk,E,fr,b1,b2,b3,b4⟩:=q5 (by simpa [qn] using hn)
       exact ⟨blk,E,fr,b1,b2,by simpa [qZ] using b3,b4⟩) (fun o ho=>by
       rw [hlive] at ho;simp only [Jah] at ho;subst ho;exact ⟨_,_,rfl⟩)
     exact hK' _ _ _ _ _ hK k1 ⟨k3,ja (.inl ⟨_,hlive⟩)⟩ k2 (.oa e' k _ oi A' (by simp [G.set]) p2 p3 p4)
   . have hml:0<m.length:=Jbv.2 hm;have hcap0:A'=none->oi.cap=0:=fun hn=>by
      by_cases hc0:oi.cap=0
      . exact hc0
      . have:=p2 hc0;rw [hn] at this;cases this
     by_cases hc:oi.cap<l2.length+m.length
     . exact Zx (A:=A') hg hT ho he hz hsrcx n1 n2 n3 hc hroom (fun ie xz hi hxz=>by rw [hex,q2];exact hnew ie xz hi hxz _ A' _ olds hsrcx hcap0 hc hroom) (ko hkl) (by omega) (.inl ⟨_,hlive⟩) (by simp) hnewv hver (fun o ho=>by
        rw [hlive] at ho;simp only [Jah] at ho;exact ⟨_,_,ho.symm⟩) hK
     . have hc0:oi.cap≠0:=by omega
       have hA:=p2 hc0;subst hA;obtain ⟨hro,blk,E,fr,b1,b2,b3,b4⟩:=q5 hc0;have hcap:(l2.length+m.length)*sz e'<=oi.cap*sz e':=Nat.mul_le_mul_right _ (by omega)
       rw [Nat.add_mul] at hcap;obtain ⟨w',blk',c1,c2,c3,c4,c5,c6,c7,c8,c9⟩:=wj (P:=P) oi.b (0+l2.length*ie.size) news 0 w blk E fr b1 b2 (by rw [n1,hi', <- hse];omega) n2
       intro K' Q' hK' _;unfold Oper.wp;rw [xW ho (by rw [hex,q2];exact hin w' ie hi oi.b 0 l2.length oi.cap (by omega) c1)]
       obtain ⟨k1,k2,k3⟩:=zv (st':=st.set k (some (.arr (ver+1) e' (l2++m)))) (k:=k) (v:=ver+1) (o':= .arr (ver+1) e' (l2++m)) (oi:=⟨oi.b,l2.length+m.length,oi.cap⟩) (w':=w') hg (ko hkl) (by omega) (by simp) rfl (.inl hnewv) hver ⟨by simp,by simp only;omega,q4⟩
        (fun _=> .inr ⟨_,hlive,(zS p1 (by simp [hc0]):_=some oi.b)⟩) c7 c8 c9 (by omega) (fun b _ hb=>c5 b fun e=>hb _ hlive (by rw [zS p1 (by simp [hc0]),e])) (fun _=>⟨blk',E,fr,c2,by rw [c3];exact b2,⟨by simp only [qZ];rw [qg,Jak,Nat.add_mul,c3];omega,fun j u hj=>by
         simp only [qZ] at hj;have hb:=c4 j;simp only [Jbj,Jcg,n1,hi', <- hse] at hb;rw [Vp] at hj;by_cases ej:j< (encs e' l2).length
         . rw [Jav ej] at hj;rw [qg] at ej;rw [if_neg (by omega)] at hb
           obtain ⟨z,z1,z2,z3⟩:=b3.at_ _ u hj;exact ⟨z,by rw [hb];exact z1,z2,z3⟩
         . have hjl:=(Jai.1 hj).1;rw [Jas (by omega)] at hj
           rw [qg] at ej hj;simp only [Jak,qg] at hjl;rw [if_pos (by omega)] at hb
           have hlt2:j-l2.length*sz e'<news.length:=by rw [n1];omega
           exact ⟨news[j-l2.length*sz e'],by rw [hb];exact Jao hlt2,n2 _ (Jba hlt2),n3 _ u _ hj (Jao hlt2)⟩⟩,by rw [c3];exact b4⟩) (fun o ho=>by
         rw [hlive] at ho;simp only [Jah] at ho;subst ho;exact ⟨_,_,rfl⟩)
       exact hK' _ _ _ _ _ hK k1 ⟨k3,ja (.inl ⟨_,hlive⟩)⟩ k2 (.oa e' k _ ⟨oi.b,l2.length+m.length,oi.cap⟩ _ (by simp [G.set]) (fun _=>rfl) (by simp only;omega) q4)
 . exact h.elim
theorem qyN (hD:zY P D) (hg:Good g st w) (ht:RelT g n t a) {T0:TypeId} {x y:Operand} (ho:o.op= .call {callee:= .builtin .append,args:= #[x,y],argTypes:= #[T0,T0]}) {te:TI} (hte:xi D T0=some te) (hz:te.zero.isSome=true) (h:kf te st (ev t x) (ev t y) K):xU P o a g st w K X:=by
 unfold xi at hte;split at hte;case h_2=>cases hte
 rename_i ti hti;split at hte;case h_2=>cases hte
 rename_i t' hs;have hu:=zf (hD _ _ hti) hs;have hT:=hD _ _ hte;obtain ⟨z,hz⟩:=Jb2.1 hz;unfold kf at h;split at h;case h_2=>exact h.elim
 rename_i e he;obtain ⟨hse,hb0⟩:=hT.el e he;obtain ⟨i0,hi0,hi0',hby,_⟩:=hT.info;obtain ⟨m,B,cB,news,h,hyv,hsrc⟩:=qjC hg (ht.ev y) h;have h:(m=[]/\Vx (ev t x)=true/\K (ev t x) st)∨je te e st (ev t x) m K:=by
  split at h
  . rename_i hf;rw [Jaq] at hf;by_cases hm:m.length=0
    . rw [Jaa hm,Jae] at h;exact .inl ⟨Jan hm,hf.1,h⟩
    . rw [Jab hm,Jaf] at h;exact .inr h
  . exact .inr h
 rcases h with ⟨hm,hf,hK⟩ | h
 . have hR:=ht.ev x;generalize hxv:ev t x=xv at hR hf hK;unfold Vx at hf;split at hf;case h_2=>cases hf
   rename_i e' l;obtain ⟨A',c,hx,hlc,_⟩:=wZ hR;refine xq hg (xW (w':=w) ho ?_) hR hK;rw [hx,hyv,hm];exact vF hu hi0 A' B _ _ _ hlc
 refine Vl hg ht hT ho he hz hsrc.len hsrc.one hsrc.val (fun hm A s c hc=> ?_) (fun ie xz hi hxz l A c olds h1 hA hc hroom=> ?_) (fun w' ie hi b q s c hc hst=> ?_) h
 . rw [hyv,hm];exact vF hu hi0 A B _ _ _ hc
 . rw [hi0] at hi;injection hi with hi;subst hi;rw [hyv];have h63:l.length+m.length<=maxLen:=by
    have:l.length+m.length<=(l.length+m.length)*te.bytes:=Jb7 _ hb0;simp only [maxLen];omega
   exact Y9 (P:=P) (w:=w) (ty:=o.type) hu hi0 hxz A B l.length c m.length cB olds news (by rw [h1.len,hi0',hse]) (fun e=>⟨h1.none_ e,hA e⟩) h1.cell (by rw [hsrc.len,hi0',hse]) hsrc.none_ hsrc.cell hc h63 (by rw [hby];exact hroom)
 . rw [hi0] at hi;injection hi with hi;subst hi;rw [hyv];cases B with
   | none=>
    have hm:=hsrc.none_ rfl;have hn:news=[]:=Jan (by rw [hsrc.len,hm,Nat.zero_mul])
    subst hn;simp only [storeCells,Sem.run_pure,Result.ok.injEq,true_and] at hst;subst hst;rw [hm];exact vF hu hi0 _ none _ _ _ (by omega)
   | some B=>exact qqL (w':=w') hu hi0 b q s c m.length cB B news (by rw [hsrc.len,hi0',hse]) (hsrc.cell B rfl) hc hst
theorem qwe (hD:zY P D) (hg:Good g st w) (ht:RelT g n t a) {T0 T1:TypeId} {x y:Operand} (ho:o.op= .call {callee:= .builtin .append,args:= #[x,y],argTypes:= #[T0,T1]}) {te ti1:TI} (hte:xi D T0=some te) (hti1:zx D T1=some ti1) (hs1:ti1.srt= .string) (hz:te.zero.isSome=true) {b:ByteArray} (hyv:ev t y= .str b) (h:wt te st (ev t x) b K):xU P o a g st w K X:=by
 unfold xi at hte;split at hte;case h_2=>cases hte
 rename_i ti hti;split at hte;case h_2=>cases hte
 rename_i t' hs;have hu:=zf (hD _ _ hti) hs;have hu1:=Q7 (hD _ _ hti1) hs1;have hT:=hD _ _ hte;obtain ⟨z,hz⟩:=Jb2.1 hz;unfold wt at h;split at h;case h_2=>exact h.elim
 rename_i e he;split at h;case h_2=>exact h.elim
 rename_i f hf;obtain ⟨hse,hb0⟩:=hT.el e he;obtain ⟨i0,hi0,hi0',hby,_⟩:=hT.info;have hey:a.eval y= .string b:=by
  have:=ht.ev y;rw [hyv] at this;generalize a.eval y=q at this;cases this;rfl
 have hmap:=qxr hf (zp b);have hml:(f (zp b)).length=b.size:=by
  have:=congrArg List.length hmap;simp only [Jbs] at this;rw [this];simp [zp]
 have henc:encs e (f (zp b))=(zp b).map (T.int .u8):=by
  unfold encs;rw [hmap];induction zp b with
  | nil=>rfl
  | cons n r ih=>simpa using ih
 have hsz:(f (zp b)).length*sz e=b.size:=by rw [<- qg,henc];simp [zp]
 have hsc:(strCells b).length=b.size:=strCells_length b;have hval: ∀(j:Nat) (u:T) (y:Value),(encs e (f (zp b)))[j]? =some u->(strCells b)[j]? =some y->R g u y:=fun j u y hu hy=>by
  rw [henc] at hu;simp only [zp,strCells,Jax,Ja2] at hu hy;obtain ⟨_,⟨q,hq,rfl⟩,rfl⟩:=hu;obtain ⟨q',hq',rfl⟩:=hy;rw [hq] at hq';injection hq' with hq';subst hq';exact .int _ _
 have hs1':i0.size=1∨b.size=0:=by
  rw [hi0', <- hse];rw [hml] at hsz;by_cases h0:b.size=0
  . exact .inr h0
  . exact .inl (Nat.eq_of_mul_eq_mul_left (by omega:0<b.size) (by rw [hsz,Nat.mul_one]))
 have hfc: ∀(w:World),(Builtin.firstCells i0.size b.size (.string b)).run P w= .ok (strCells b).toArray w:=fun w=>run_firstCells_string w i0.size b
 refine Vl (news:=strCells b) hg ht hT ho he hz (by rw [hsc,hsz]) (strCells_oneCell b) hval (fun hm A s c hc=> ?_) (fun ie xz hi hxz l A c olds h1 hA hc hroom=> ?_) (fun w' ie hi p q s c hc hst=> ?_) h
 . have h0:b.size=0:=by rw [<- hml,hm];rfl
   have hfc':=hfc w;rw [h0] at hfc';have hnil:strCells b=[]:=Jan (by rw [hsc,h0])
   rw [hnil] at hfc';rw [hey];cases A<;>simp [Builtin.append_,run_underlying hu,run_underlying hu1,sizeOf,typeInfo,hi0,Builtin.lenOf,h0,hc,hfc',storeCells]
 . rw [hi0] at hi;injection hi with hi;subst hi;rw [hey,hml] at *;have h63': ¬(9223372036854775807< ((l.length:Int)+(b.size:Int))):=by
    have:l.length+b.size<=(l.length+b.size)*te.bytes:=Jb7 _ hb0;omega
   have h48': ¬(281474976710656<Builtin.nextslicecap (l.length+b.size) c*i0.bytes):=by
    rw [<- hby] at hroom;have:=growslice_fits hc hroom;omega
   have hn: ¬(l.length+b.size<=c):=by omega
   cases A with
   | some a0=>
    have hfo:=run_firstCells_some (P:=P) w.drew i0.size l.length a0 l.length c olds (by rw [h1.len,hi0',hse]) (by simpa using h1.cell a0 rfl)
    simp [Builtin.append_,run_underlying hu,run_underlying hu1,sizeOf,typeInfo,zeroValue,hi0,hxz,Builtin.lenOf,hn,h63',h48',Question.forced,hfc,hfo,newRow,grownCap];congr 2
    apply Array.ext';simp [Jat]
   | none=>
    have hl0:=h1.none_ rfl;have hc0:=hA rfl;subst hc0;have holds:olds=[]:=Jan (by rw [h1.len,hl0,Nat.zero_mul])
    subst holds;rw [hl0] at *;simp only [Jbj] at *;have h63'': ¬(9223372036854775807< (b.size:Int)):=by omega
    have hbe: ¬b=ByteArray.empty:=by
     rintro rfl;simp at hn
    simp [Builtin.append_,run_underlying hu,run_underlying hu1,sizeOf,typeInfo,zeroValue,hi0,hxz,Builtin.lenOf,hn,h63',h63'',h48',hbe,Question.forced,hfc,newRow,grownCap,run_firstCells_none]
 . rw [hi0] at hi;injection hi with hi;subst hi;rw [hey,hml] at *;simp [Builtin.append_,run_underlying hu,run_underlying hu1,sizeOf,typeInfo,hi0,Builtin.lenOf,hc,hfc,Addr.add_lit,hst]
theorem qW0 {xs:Array Operand} {l:List T} {x:T} (h:xs.toList.map (ev t)=[x]): ∃y,xs= #[y]/\ev t y=x:=by
 obtain ⟨xs⟩:=xs;match xs,h with
 | [y],h=>exact ⟨y,rfl,by simpa using h⟩
theorem qZk {xs:Array Operand} {x x':T} (h:xs.toList.map (ev t)=[x,x']): ∃y y',xs= #[y,y']/\ev t y=x/\ev t y'=x':=by
 obtain ⟨xs⟩:=xs;match xs,h with
 | [y,y'],h=>simp at h;exact ⟨y,y',rfl,h.1,h.2⟩
theorem qbm (hg:Good g st w) {v:T} {x:Value} {K:Nat->Prop} (hR:R g v x) (h:qya st v K): ∃m A c,K m/\x= .slice A m c:=by
 unfold qya at h;split at h
 . cases hR with
   | nil A=>exact ⟨0,A,0,h,rfl⟩
 . cases hR with
   | sl _ _ l A c=>exact ⟨_,A,c,h,rfl⟩
 . split at h;case h_2=>exact h.elim
   rename_i l hl;obtain ⟨_,_,s3⟩:=VF hg hR;obtain ⟨A,c,rfl,_⟩:=s3 _ _ _ l rfl hl;exact ⟨_,A,c,h,rfl⟩
 . cases hR with
   | os _ _ _ _ m oi A c=>exact ⟨_,A,c,h,rfl⟩
 . exact h.elim
theorem qiu {s:ByteArray} {x:Value} (h:R g (.str s) x):x= .string s:=by cases h;rfl
theorem qwL (b:ByteArray): ∀(i:Nat) (l:List Int) (j:Nat),(V1 b i l)[j]? =(l[j]?).map fun m=>T.int .u8 (qL b (i+j) m)
 | _,[],_=>by simp [V1]
 | i,m::r,0=>by simp [V1]
 | i,m::r,j+1=>by
  simp only [V1,Jbd];rw [qwL b (i+1) r j,show i+1+j=i+(j+1)by omega]
theorem KJ (b:ByteArray): ∀(i:Nat) (l:List Int),(V1 b i l).length=l.length
 | _,[]=>rfl
 | i,m::r=>by simp [V1,KJ b (i+1) r]
theorem qXL (b:ByteArray) (i:Nat) (l:List Int):zk (V1 b i l)=false/\meHead (V1 b i l)=false:=by
 cases l<;>exact ⟨rfl,rfl⟩
theorem qaQ (hD:zY P D) (hg:Good g st w) (ht:RelT g n t a) {T0 T1:TypeId} {x y:Operand} (ho:o.op= .call {callee:= .builtin .copy,args:= #[x,y],argTypes:= #[T0,T1]}) {te:TI} (hte:xi D T0=some te) {k m:Nat} {b:ByteArray} (hxv:ev t x= .as k m) (hyv:ev t y= .str b) (h:Kf te k m b st K):xU P o a g st w K X:=by
 unfold xi at hte;split at hte;case h_2=>cases hte
 rename_i ti hti;split at hte;case h_2=>cases hte
 rename_i t' hs;have hu:=zf (hD _ _ hti) hs;obtain ⟨i0,hi0,hi0',_⟩:=(hD _ _ hte).info;unfold Kf at h;split at h;case h_2=>exact h.elim
 rename_i cs hsz hr;split at h;case h_2=>exact h.elim
 rename_i l hm hl;split at h;case h_2=>exact h.elim
 rename_i hln;have hln:=Jac hln;have hey:a.eval y= .string b:=qiu (by have:=ht.ev y;rw [hyv] at this;exact this)
 have hex:=ht.ev x;rw [hxv] at hex;generalize hxe:a.eval x=xv at hex;cases hex with
 | as _ _ oi p1=>
  obtain ⟨oi',o1,_,o3⟩:=hg.obj _ _ (qc.1 hr);have o1:g.ob k 0=some oi':=o1;rw [p1] at o1;injection o1 with o1;subst o1;rcases o3 with o3 | ⟨_,blk,E,fr,q1,q2,q3,q4⟩
  . cases o3.1
  simp only [vo,hm] at q1;have q1:w.heap[oi.b]? =some (.cells blk E fr):=q1;have hcl:cs.length=m:=by rw [vV hl,Jbs,hln]
  have hble:m<=blk.size:=by have:=q3.le;simp only [qZ] at this;omega
  let vs:List Value:=(strCells (b.extract 0 (min b.size m)))
  have hvl:vs.length=min b.size m:=by
   show (strCells (b.extract 0 (min b.size m))).length=_
   simp [strCells]
  have hv: ∀j,j<min b.size m->vs[j]? =some (.int .u8 (qL b j 0)):=fun j hj=>by
   have hj1:j<b.size:=by omega
   have hj2:j<b.data.size:=hj1;show (strCells (b.extract 0 (min b.size m)))[j]? =_
   have e1:(b.extract 0 (min b.size m)).data=b.data.extract 0 (min b.size m):=by simp
   have e2:b[j]? =some b[j]:=by simp [hj1]
   unfold strCells qL;rw [e1,e2];simp [Array.getElem?_extract,hj,hj2];rfl
  obtain ⟨w',blk',a1,a2,a3,a4,a5,a6,a7,a8,a9⟩:=wj (P:=P) oi.b 0 vs 0 w blk E fr q1 q2 (by omega) (fun v hv'=>by
   obtain ⟨j,hj⟩:=List.getElem?_of_mem hv';have hlt:j<min b.size m:=by rw [<- hvl];exact (Jai.1 hj).1
   rw [hv j hlt] at hj;injection hj with hj;subst hj;rfl)
  have hrun:(execOp a.eval o).run P w= .ok (.value (.int .i64 ((min b.size m:Nat):Int))) w':=by
   have hvs:(strCells (b.extract 0 (min b.size m)))=vs:=rfl;have hsc: ∀s:ByteArray,(s.data.map fun b=>Value.int .u8 b.toNat)=(strCells s).toArray:=fun s=>Array.toList_inj.1 (by simp [strCells])
   have hfc:(Builtin.firstCells i0.size (min b.size m) (.string b)).run P w= .ok vs.toArray w:=by
    rw [<- hvs, <- hsc];rfl
   have hmin:Nat.min b.size m=min b.size m:=rfl;simp [execOp,ho,resolve,invoke,builtin,Builtin.copy_,hxe,hey,run_underlying hu,sizeOf,typeInfo,hi0,Builtin.lenOf,hmin,hfc,a1,goInt,Result.andThen]
  intro K' Q' hK' _;unfold Oper.wp;rw [hrun];have hst:=qc.1 hr;have hkl:k<st.length:=(Jai.1 hst).1;have hn: ¬(qn (.cells cs)=true/\oi.cap=0):=by simp [qn]
  obtain ⟨f1,f2⟩:=qXL b 0 l;obtain ⟨k1,k2,k3⟩:=zv (st':=st.set k (some (.cells (V1 b 0 l)))) (k:=k) (v:=0) (o':= .cells (V1 b 0 l)) (oi:=oi) (w':=w') hg (ko hkl) (by omega) (by simp) rfl (.inr p1) (fun u oi' hu=>by have:=xH hg hst hu;simpa [obVer] using this) trivial
   (fun _=> .inr ⟨_,hst,zS p1 hn⟩) a7 a8 a9 (by omega) (fun b' hb' hno=>by
    refine a5 b' fun e=> ?_
    exact hno _ hst (by rw [zS p1 hn,e])) (fun _=>⟨blk',E,fr,by simp only [vo,f2,vO];exact a2,fun q hq=>q2 q (by omega),⟨by simp only [qZ,KJ];omega,fun j u hu=>by
     simp only [qZ] at hu;rw [qwL,Ja2] at hu;obtain ⟨c0,hc0,rfl⟩:=hu;have hjl:j<l.length:=(Jai.1 hc0).1;rw [Jbj];by_cases hj:j<min b.size m
     . refine ⟨.int .u8 (qL b j 0), ?_,rfl, ?_⟩
       . rw [a4,if_pos (by omega)]
         exact hv j hj
       . have:qL b j c0=qL b j 0:=by
          have hj1:j<b.size:=by omega
          have e2:b[j]? =some b[j]:=by simp [hj1]
          unfold qL;rw [e2]
         rw [this];exact .int _ _
     . obtain ⟨z,z1,z2,z3⟩:=q3.at_ j (.int .u8 c0) (by simp only [qZ];rw [vV hl,Jax,hc0];rfl)
       refine ⟨z,by rw [a4,if_neg (by omega)];exact z1,z2, ?_⟩
       have:qL b j c0=c0:=by
        have e2:b[j]? =none:=by
         rw [getElem?_eq_none_iff];omega
        unfold qL;rw [e2]
       rw [this];exact z3⟩,qvA f1⟩) (fun o2 ho2=>by
    rw [hst] at ho2;simp only [Jah] at ho2;subst ho2;exact ⟨_,rfl,by rw [KJ,vV hl,Jbs],p1⟩)
  exact hK' _ _ _ _ _ h k1 ⟨k3,ja (.inl ⟨_,hst⟩)⟩ k2 (.int _ _)
theorem qwd (hD:zY P D) (hg:Good g st w) (ht:RelT g n t a) {b:Builtin} {args:Array Operand} {ts:Array TypeId} (ho:o.op= .call {callee:= .builtin b,args:=args,argTypes:=ts}) (h:jy D b ts.toList (args.toList.map (ev t)) st K):xU P o a g st w K X:=by
 unfold jy at h;split at h
 . rename_i T0 x hts hargs;obtain ⟨y,rfl,rfl⟩:=qW0 (l:=[]) hargs;have hts':ts= #[T0]:=vp hts;subst hts';split at h;case h_2=>exact h.elim
   rename_i ti hti;have key:(∀s,a.eval y= .string s->ti.srt= .string->K (.int .i64 (s.size:Nat)) st->xU P o a g st w K X)/\(∀A m c e,a.eval y= .slice A m c->ti.srt= .slice e->K (.int .i64 (m:Nat)) st->xU P o a g st w K X):=by
    refine ⟨fun s e hs hK=> ?_,fun A m c e' e hs hK=> ?_⟩
    . have hu:=Q7 (hD _ _ hti) hs;exact qk hg (by simp [execOp,ho,resolve,invoke,builtin,Builtin.len_,e,qv,hu,goInt]) (.int _ _) hK
    . have hu:=zf (hD _ _ hti) hs;exact qk hg (by simp [execOp,ho,resolve,invoke,builtin,Builtin.len_,e,qv,hu,goInt]) (.int _ _) hK
   split at h
   . rename_i hs;split at h;case h_2=>exact h.elim
     rename_i s hv;exact key.1 s (qiu (by have:=ht.ev y;rw [hv] at this;exact this)) hs h
   . rename_i e' hs;obtain ⟨m,A,c,hK,e⟩:=qbm hg (ht.ev y) h;exact key.2 A m c e' e hs hK
   . exact h.elim
 . rename_i T0 T1 x y hts hargs;obtain ⟨x',y',rfl,rfl,rfl⟩:=qZk hargs;have hts':ts= #[T0,T1]:=vp hts;subst hts';split at h
   . rename_i hd;have hd:=Jac hd;subst hd;split at h;case h_2=>exact h.elim
     rename_i te hte;split at h;case h_2=>exact h.elim
     rename_i z hz;exact qyN hD hg ht ho hte (by rw [hz];rfl) h
   . split at h;case h_2=>exact h.elim
     rename_i te ti1 hte hti1;split at h
     . rename_i k k1 m hs1 hyv;split at h;case h_2=>exact h.elim
       rename_i e' l hxv;exact qw3 hD hg ht ho hte hti1 hs1 hxv hyv h
     . rename_i b hs1 hyv;split at h;case h_2=>exact h.elim
       rename_i z hz;exact qwe hD hg ht ho hte hti1 hs1 (by rw [hz];rfl) hyv h
     . exact h.elim
 . rename_i T0 T1 k m b hts hargs;obtain ⟨x',y',rfl,hx',hy'⟩:=qZk hargs;have hts':ts= #[T0,T1]:=vp hts;subst hts';split at h;case h_2=>exact h.elim
   rename_i te hte;exact qaQ hD hg ht ho hte hx' hy' h
 . rename_i T0 e' l hts hargs;obtain ⟨y,rfl,hy⟩:=qW0 (l:=[]) hargs;have hts':ts= #[T0]:=vp hts;subst hts';split at h;case h_2=>exact h.elim
   rename_i ti hti;split at h;case h_2=>exact h.elim
   rename_i e hs;have hu:=zf (hD _ _ hti) hs;have hR:=ht.ev y;rw [hy] at hR;obtain ⟨A,c,hv,_,_,hf⟩:=wZ hR;have hc:=hf rfl;subst hc;exact qk hg (by simp [execOp,ho,resolve,invoke,builtin,Builtin.cap_,hv,qv,hu,goInt]) (.int _ _) h
 . rename_i T0 x hts hargs;obtain ⟨y,rfl,rfl⟩:=qW0 (l:=[]) hargs;have hts':ts= #[T0]:=vp hts;subst hts';split at h;case h_2=>exact h.elim
   rename_i te hte;exact qJK hD hg ht ho hte h
 . rename_i k p k' q hargs;obtain ⟨x',y',rfl,h1,h2⟩:=qZk hargs;have e1:=wa (by have:=ht.ev x';rw [h1] at this;exact this)
   have e2:=wa (by have:=ht.ev y';rw [h2] at this;exact this)
   exact qk hg (by simp [execOp,ho,resolve,invoke,builtin,Builtin.min_,Builtin.min2,e1,e2,qv]) (.int _ _) h
 . rename_i k p k' q hargs;obtain ⟨x',y',rfl,h1,h2⟩:=qZk hargs;have e1:=wa (by have:=ht.ev x';rw [h1] at this;exact this)
   have e2:=wa (by have:=ht.ev y';rw [h2] at this;exact this)
   exact qk hg (by simp [execOp,ho,resolve,invoke,builtin,Builtin.max_,Builtin.max2,e1,e2,qv]) (.int _ _) h
 . exact h.elim
end
end
section
open Go.RowKit
variable {P:Program} [Bd P]
def Qe (e:El) (es:List MapEntry) (l:List (ty e)):Prop:=es.map (fun m=>(m.key,m.val))=l.map fun x=>(tv ((enc e x).headD .undef),tv ((enc e x).getD 1 .undef))
theorem qZi {e:El} {k v:T} (hs:kO e=some (k,v)): ∀(es:List MapEntry) (l:List (ty e)),es.flatMap (fun m=>[m.key,m.val])=l.flatMap (fun x=>(enc e x).map tv)->Qe e es l
 | [],[],_=>rfl
 | [],x::l,h=>by obtain ⟨kc,vc,h1,_⟩:=ws hs x;simp [h1] at h
 | m::es,[],h=>by simp at h
 | m::es,x::l,h=>by
  obtain ⟨kc,vc,h1,_⟩:=ws hs x;simp only [List.flatMap_cons,h1,List.map_cons,List.map_nil,List.cons_append,List.nil_append,Jbx] at h;obtain ⟨h2,h3,h4⟩:=h;have:=qZi hs es l h4;unfold Qe at this ⊢;simp [h1,this,h2,h3]
theorem qzV {e:El} {k v:T} (hs:kO e=some (k,v)): ∀(es:List MapEntry) (l:List (ty e)),Qe e es l->es.flatMap (fun m=>[m.key,m.val])=l.flatMap (fun x=>(enc e x).map tv)
 | [],[],_=>rfl
 | [],x::l,h=>by simp [Qe] at h
 | m::es,[],h=>by simp [Qe] at h
 | m::es,x::l,h=>by
  obtain ⟨kc,vc,h1,_⟩:=ws hs x;unfold Qe at h;simp only [List.map_cons,h1,Jbx,Jbg] at h;obtain ⟨⟨h2,h3⟩,h4⟩:=h;have:=qzV hs es l h4;simp [h1,this,h2,h3]
def W1 (ks:T) (d:TypeDesc):Prop:=match ks with
 | .int k _=>d= .int k
 | .str _=>d= .string
 | _=>False
theorem qkM (a b:ByteArray):(a==b)=decide (a=b):=by
 rw [Bool.eq_iff_iff,Jbk];exact MapKept.bytes_beq a b
theorem Zm {ks kT kc:T} {d:TypeDesc} (hd:W1 ks d) (h1:zM ks kT=true) (h2:zM ks kc=true):Instr.sameNow d (tv kT) (tv kc)=some (kR kT kc):=by
 cases ks<;>cases kT<;>simp [zM] at h1<;>cases kc<;>simp [zM] at h2<;>simp only [W1] at hd<;>first | (exact hd.elim) | skip
 . subst hd;subst h1;subst h2;simp only [tv,Instr.sameNow,if_true,kR];congr 1
 . subst hd;simp only [tv,Instr.sameNow,kR,qkM]
theorem Jp {ks kT:T} {d:TypeDesc} (hd:W1 ks d) (h1:zM ks kT=true):MapKept.IsKey d (tv kT):=by
 cases ks<;>cases kT<;>simp [zM] at h1<;>simp only [W1] at hd<;>first | (exact hd.elim) | skip
 . subst hd;subst h1;rfl
 . subst hd;trivial
theorem qa0 {ks kT kc:T} {d:TypeDesc} (hd:W1 ks d) (h1:zM ks kT=true) (h2:zM ks kc=true) (h:kR kT kc=true):tv kc=tv kT:=by
 cases ks<;>cases kT<;>simp [zM] at h1<;>cases kc<;>simp [zM] at h2<;>simp only [W1] at hd<;>first | (exact hd.elim) | skip
 . subst h1;subst h2;simp [kR] at h;simp [tv,h]
 . simp [kR] at h;simp [tv,h]
theorem qxh {e:El} {ks vs kT:T} {d:TypeDesc} (hs:kO e=some (ks,vs)) (hd:W1 ks d) (hk:zM ks kT=true): ∀(l:List (ty e)) (es:List MapEntry) (i:Nat),Qe e es l->
  (Instr.findNow d (tv kT) es i=some none/\w9 e kT l=none/\ ∀y,Qv e kT y l=l++[y])∨
  ∃n x m,Instr.findNow d (tv kT) es i=some (some (i+n,tv ((enc e x).getD 1 .undef)))/\es[n]? =some m/\m.key=tv kT/\w9 e kT l=some x/\ ∀y,Qv e kT y l=l.set n y
 | [],[],_,_=> .inl ⟨rfl,rfl,fun _=>rfl⟩
 | [],m::es,_,h=>by simp [Qe] at h
 | x::l,[],_,h=>by simp [Qe] at h
 | x::l,m::es,i,h=>by
  obtain ⟨kc,vc,h1,h2,h3⟩:=ws hs x;have h':=h;unfold Qe at h';simp only [List.map_cons,Jbx,Jbg] at h';obtain ⟨⟨q1,q2⟩,q3⟩:=h';rw [h1] at q1 q2;simp only [List.headD_cons] at q1;have hsame:=Zm hd hk h2;cases hq:kR kT kc with
  | true=>
   refine .inr ⟨0,x,m, ?_,rfl,by rw [q1];exact qa0 hd hk h2 hq, ?_,fun y=> ?_⟩
   . simp only [Instr.findNow,q1,hsame,hq,q2,h1,Jcg]
   . simp only [w9,h1,List.headD_cons,hq]
   . simp only [Qv,h1,List.headD_cons,hq,List.set_cons_zero]
  | false=>
   rcases qxh hs hd hk l es (i+1) q3 with ⟨a1,a2,a3⟩ | ⟨n,x',m',a1,a2,a3,a4,a5⟩
   . refine .inl ⟨?_, ?_,fun y=> ?_⟩
     . simp only [Instr.findNow,q1,hsame,hq,a1]
     . simp only [w9,h1,List.headD_cons,hq,a2]
     . simp only [Qv,h1,List.headD_cons,hq,a3,List.cons_append]
   . refine .inr ⟨n+1,x',m', ?_,by simpa using a2,a3, ?_,fun y=> ?_⟩
     . simp only [Instr.findNow,q1,hsame,hq,a1];congr 3;omega
     . simp only [w9,h1,List.headD_cons,hq,a4]
     . simp only [Qv,h1,List.headD_cons,hq,a5,List.set_cons_succ]
section
variable {P:Program} [Bd P] {D:TD} {g:G P} {st:St} {w:World} {n:Nat} {t:Tm} {a:Act} {o:Oper} {K X:Kn}
theorem qXx {s c:T} {x:Value} (h:R g c x) (hs:zM s c=true):x=tv c:=by
 cases s<;>cases c<;>simp [zM] at hs<;>cases h<;>rfl
theorem qpV {s c:T} (hs:zM s c=true):R g c (tv c):=by
 cases s<;>cases c<;>simp [zM] at hs
 . exact .int _ _
 . exact .bool _
 . exact .str _
theorem qqc {es:Array MapEntry} {clk:Nat} (h:j6 es clk=true) (k v:Value):j6 (es.push {key:=k,val:=v,born:=clk}) (clk+1)=true:=by
 have h:=Jac h;refine Jaa ⟨?_, ?_⟩
 . rw [Array.toList_push,Jcj,h.1,Array.size_push,List.range_succ,h.2];simp
 . rw [Array.size_push,h.2]
theorem qjO {es:Array MapEntry} {clk:Nat} (h:j6 es clk=true) (j:Nat) (k v:Value):j6 (es.modify j fun e=>{e with key:=k,val:=v}) clk=true:=by
 have h:=Jac h;refine Jaa ⟨?_, ?_⟩
 . rw [Array.size_modify, <- h.1];apply Jca;intro i;simp only [Jax,Jbz,Jcb];split
   . cases es[i]? <;>rfl
   . rfl
 . rw [Array.size_modify];exact h.2
theorem qZf {ob:Obj} {blk:Array Value} {E:TypeId} {fr:Nat×Nat} {y:Value} {v:T} (p:vO true (some ob)=some (.cells blk E fr)) (hy:blk[0]? =some y) (hR:R g v y) (hv: ∀n s b, ¬R g v (itrV b n s):=by intro n s b h;cases h): ∃es clk,ob= .map es clk/\j6 es clk=true/\blk=jb es:=by
 cases ob with
 | map es clk=>
  simp only [vO] at p;cases hs:j6 es clk with
  | false=>rw [hs] at p;cases p
  | true=>
   rw [hs] at p;simp only [Jae,Jah,Obj.cells.injEq] at p;exact ⟨es,clk,rfl,hs,p.1.symm⟩
 | mapIter m n seen l=>
  cases m with
  | none=>cases p
  | some b=>
   simp only [vO] at p;cases hs:decide (n=l)with
   | false=>rw [hs] at p;cases p
   | true=>
    rw [hs] at p;simp only [Jae,Jah,Obj.cells.injEq] at p;rw [<- p.1] at hy;simp at hy;subst hy;exact absurd hR (hv _ _ _)
 | _=>cases p
theorem qxc (hg:Good g st w) {m:T} {x:Value} {e:El} {q:Nat} {l:List (ty e)} {ks vs:T} (hs:kO e=some (ks,vs)) (hR:R g m x) (h:VN st e m=some (q,l)):
  ∃(oi:OI) (es:Array MapEntry) (clk:Nat),st[q]? =some (some (.cells [.ments e l]))/\g.ob q 0=some oi/\x= .map (some oi.b)/\w.heap[oi.b]? =some (.map es clk)/\Qe e es.toList l/\j6 es clk=true:=by
 unfold VN at h;split at h;case h_2=>cases h
 rename_i k;split at h;case h_2=>cases h
 rename_i e' l' hr;split at h;case isFalse=>cases h
 rename_i he;subst he;simp only [Jah,Jbg] at h;obtain ⟨rfl,h2⟩:=h;have h2:l'=l:=h2;subst h2;cases hR with
 | mp _ oi h1=>
  obtain ⟨oi',o1,_,o3⟩:=hg.obj _ _ (qc.1 hr);have o1:g.ob k 0=some oi':=o1;rw [h1] at o1;injection o1 with o1;subst o1;rcases o3 with o3 | ⟨_,blk,E,fr,p1,_,p3,_⟩
  . cases o3.1
  cases hv:w.heap[oi.b]? with
  | none=>rw [hv] at p1;cases p1
  | some ob=>
   rw [hv] at p1;obtain ⟨y,y1,_,y3⟩:=p3.at_ 0 _ rfl;obtain ⟨es,clk,rfl,hst,hbl⟩:=qZf p1 y1 y3;have y1:blk[0]? =some y:=y1;rw [hbl] at y1;simp [jb] at y1;subst y1;have hf:flatV e' l'=(es.toList.flatMap fun e=>[e.key,e.val]).toArray:=by
    generalize (es.toList.flatMap fun e=>[e.key,e.val]).toArray=A at y3 ⊢
    cases y3;rfl
   refine ⟨oi,es,clk,qc.1 hr,h1,rfl,hv,qZi hs _ _ ?_,hst⟩;unfold flatV at hf;have:=congrArg Array.toList hf;simpa using this.symm
theorem Xf (g:G P) (hD:zY P D) {T0:TypeId} {e:El} {ks z:T} (h:JT D T0=some (e,ks,z)): ∃(vs:T) (kt vt:TypeId) (d:TypeDesc) (x:Value),kO e=some (ks,vs)/\P.underlying T0=some (.map kt vt)/\P.underlying kt=some d/\W1 ks d/\(∀w:World,(zeroValue vt).run P w= .ok x w)/\zM vs z=true/\x=tv z:=by
 unfold JT at h;split at h;case h_2=>cases h
 rename_i e' ti he hti;split at h;case h_2=>cases h
 rename_i ks' vs kt vt hsh hs;split at h;case h_2=>cases h
 rename_i tk tu htk htu;split at h;case h_2=>cases h
 rename_i z' hks hz;split at h;case h_2=>cases h
 rename_i hag hsz;simp only [Jah,Jbg] at h;obtain ⟨rfl,rfl,rfl⟩:=h;obtain ⟨d0,u1,_,u3⟩:=(hD _ _ hti).under;rw [hs] at u3;simp only [srtOk] at u3;subst u3;obtain ⟨d,k1,_,k3⟩:=(hD _ _ htk).under;obtain ⟨i,x,z1,z2,z3⟩:=Qf (P:=P) (g:=g) (hD _ _ htu) hz;have hone:=(hD _ _ htu).onec hag (by rw [hz];rfl) i x z1 z2
 refine ⟨vs,kt,vt,d,x,hsh,u1,k1, ?_,fun w=>zw (by rw [wD,z1];simp [z2]) w,hsz, ?_⟩
 . generalize hsr:tk.srt=sr at hks k3;unfold qYa at hks;split at hks
   . have hks:=Jac hks;subst hks;exact k3
   . exact k3
   . cases hks
 . rw [qz3 hone] at z3;cases z3 with
   | ag _ _ r1 r2 _=>
    exact qXx (r2 0 _ x rfl rfl) hsz
theorem qwP (hg:Good g st w) {T0:TypeId} {e:El} (ho:o.op= .makeMap T0 none) (hK:K (.mp st.length) (st++[some (.cells [.ments e []])])):xU P o a g st w K X:=by
 have hrun:(execOp a.eval o).run P w= .ok (.value (.map (some w.heap.size))) (w.alloc (.map #[] 0)):=by
  simp only [execOp,ho,Instr.makeMap,newObj,Option.map_none,Sem.run_bind,Sem.run_pure,Result.andThen_ok];rfl
 intro K' Q' hK' _;unfold Oper.wp;rw [hrun];obtain ⟨k1,k2,k3⟩:=zv (st':=st++[some (.cells [.ments e []])]) (k:=st.length) (v:=0) (o':= .cells [.ments e []]) (oi:=⟨w.heap.size,0,0⟩) (w':=w.alloc (.map #[] 0)) hg j8 (Jam _) (by simp) rfl (.inl (zu hg)) (fun u oi hu=>by rw [zu hg] at hu;cases hu) trivial
  (fun _=> .inl (Jam _)) rfl rfl rfl (by simp) (fun b hb _=>Below.heap_alloc w _ b hb) (fun _=>⟨jb #[],0,(0,0),by rw [heap_alloc_new w _];rfl,fun q _ h=>absurd h.2 (Ja7 _),⟨by simp [qZ,jb],fun j u hu=>by
   match j,hu with
   | 0,hu=>simp [qZ] at hu;subst hu;exact ⟨_,rfl,rfl,.me e []⟩
   | j+1,hu=>simp [qZ] at hu⟩,rfl⟩) (fun o ho=>by rw [Ja0 (Jam _)] at ho;cases ho)
 exact hK' _ _ _ _ _ hK k1 ⟨k3,ja (.inr rfl)⟩ k2 (.mp _ ⟨w.heap.size,0,0⟩ (by simp [G.set]))
theorem qk3 (hD:zY P D) (hg:Good g st w) (ht:RelT g n t a) {T0:TypeId} {m k:Operand} {ok:Bool} (ho:o.op= .lookup T0 m k ok) (h:wR D T0 (ev t m) (ev t k) ok st fun v=>K v st):xU P o a g st w K X:=by
 unfold wR at h;split at h;case h_2=>exact h.elim
 rename_i e ks z hi;split at h;case h_2=>exact h.elim
 rename_i q l hm hk;obtain ⟨vs,kt,vt,d,x,hsh,u1,u2,u3,u4,u5,u6⟩:=Xf g hD hi;obtain ⟨oi,es,clk,_,_,hx,hb,hE,_⟩:=qxc hg hsh (ht.ev m) hm;have hkv:=qXx (ht.ev k) hk;have hkey:=Jp u3 hk;have hmv: ∀r:Option (ty e),R g (qaU e z r) (match r with | some x=>tv ((enc e x).getD 1 .undef) | none=>tv z):=fun r=>by
  cases r with
  | none=>cases vs<;>cases z<;>simp [zM] at u5<;>simp only [qaU,tv]<;>first | exact .int _ _ | exact .bool _ | exact .str _
  | some x=>
   obtain ⟨kc,vc,h1,_,h3⟩:=ws hsh x;have e1:(enc e x).getD 1 .undef=vc:=by rw [h1];rfl
   simp only [e1];cases vs<;>cases z<;>simp [zM] at u5<;>cases vc<;>simp [zM] at h3<;>simp only [qaU,e1,tv,qhu,quL,qru]
   . subst u5;subst h3;exact .int _ _
   . exact .bool _
   . exact .str _
 have hck:(Instr.checkKey es.isEmpty 10000 kt (a.eval k)).run P w= .ok () w:=by rw [hkv];exact MapKept.run_checkKey u2 hkey _ _
 have hrun:(execOp a.eval o).run P w= .ok (.value (match ok with
   | true=> .tuple #[(match w9 e (ev t k) l with | some x=>tv ((enc e x).getD 1 .undef) | none=>tv z),.bool (w9 e (ev t k) l).isSome]
   | false=>(match w9 e (ev t k) l with | some x=>tv ((enc e x).getD 1 .undef) | none=>tv z))) w:=by
  rcases qxh hsh u3 hk l es.toList 0 hE with ⟨a1,a2,_⟩ | ⟨j,y,m',a1,_,_,a4,_⟩
  . have hf:(Instr.findKey kt (a.eval k) es.toList).run P w= .ok none w:=by rw [hkv];exact MapKept.run_findKey u2 a1
    cases ok<;>simp [execOp,ho,Instr.lookup,run_underlying u1,hx,MapKept.run_getObj_map hb,hck,hf,u4,a2,u6,Result.andThen]
  . have hf:(Instr.findKey kt (a.eval k) es.toList).run P w= .ok (some (0+j,tv ((enc e y).getD 1 .undef))) w:=by rw [hkv];exact MapKept.run_findKey u2 a1
    cases ok<;>simp [execOp,ho,Instr.lookup,run_underlying u1,hx,MapKept.run_getObj_map hb,hck,hf,a4,Result.andThen]
 split at h
 . refine xq hg hrun (.tu _ _ rfl fun i c y hc hy=> ?_) h
   match i,hc,hy with
   | 0,hc,hy=>simp at hc hy;subst hc;subst hy;exact hmv _
   | 1,hc,hy=>simp at hc hy;subst hc;subst hy;exact .bool _
   | i+2,hc,hy=>simp at hc
 . exact xq hg hrun (hmv _) h
theorem qZt {s c u:T} (h:Wk c u) (hs:zM s u=true):c=u:=by
 cases h with
 | refl=>rfl
 | sl=>cases s<;>simp [zM] at hs
 | nil=>cases s<;>simp [zM] at hs
 | fd=>cases s<;>simp [zM] at hs
theorem ZV (hD:zY P D) (hg:Good g st w) (ht:RelT g n t a) {T0:TypeId} {m k v:Operand} (ho:o.op= .mapUpdate T0 m k v∨o.op= .insert T0 m k v) (h:jG D T0 (ev t m) (ev t k) (ev t v) st fun s=>K .undef s):xU P o a g st w K X:=by
 unfold jG at h;split at h;case h_2=>exact h.elim
 rename_i e ks z hi;split at h;case h_2=>exact h.elim
 rename_i q l y hm hk hy;obtain ⟨vs,kt,vt,d,x,hsh,u1,u2,u3,u4,u5,u6⟩:=Xf g hD hi;obtain ⟨oi,es,clk,hst,hoi,hx,hb,hE,hsO⟩:=qxc hg hsh (ht.ev m) hm;have hkv:=qXx (ht.ev k) hk;have hkey:=Jp u3 hk;obtain ⟨kc,vc,y1,y2,y3⟩:=ws hsh y;obtain ⟨_,hdec⟩:=KY e _ y hy;have hkc:ev t k=kc:=by
  obtain ⟨c,c1,c2⟩:=hdec 0 kc (by rw [y1];rfl)
  simp at c1;subst c1;exact qZt c2 y2
 have hvc:ev t v=vc:=by
  obtain ⟨c,c1,c2⟩:=hdec 1 vc (by rw [y1];rfl)
  simp at c1;subst c1;exact qZt c2 y3
 have hvv:a.eval v=tv vc:=by rw [<- hvc];exact qXx (ht.ev v) (by rw [hvc];exact y3)
 have hck:(Instr.checkKey false 10000 kt (a.eval k)).run P w= .ok () w:=by rw [hkv];exact MapKept.run_checkKey u2 hkey _ _
 have hkl:q<st.length:=(Jai.1 hst).1;have key: ∃es' clk',(execOp a.eval o).run P w= .ok .skip {w with heap:=w.heap.setIfInBounds oi.b (.map es' clk')}/\Qe e es'.toList (Qv e (ev t k) y l)/\j6 es' clk'=true:=by
  rcases qxh hsh u3 hk l es.toList 0 hE with ⟨a1,a2,a3⟩ | ⟨j,x',m',a1,b2,b3,a4,a5⟩
  . have hf:(Instr.findKey kt (a.eval k) es.toList).run P w= .ok none w:=by rw [hkv];exact MapKept.run_findKey u2 a1
    refine ⟨es.push {key:=a.eval k,val:=a.eval v,born:=clk},clk+1, ?_, ?_,qqc hsO _ _⟩
    . rcases ho with ho | ho<;>simp [execOp,ho,Instr.mapUpdate,run_underlying u1,hx,MapKept.run_getObj_map hb,hck,hf,MapKept.run_setObj_map _ hb,Result.andThen]
    . rw [a3 y];unfold Qe at hE ⊢;simp [hE,y1,hkv,hkc,hvv]
  . have hf:(Instr.findKey kt (a.eval k) es.toList).run P w= .ok (some (0+j,tv ((enc e x').getD 1 .undef))) w:=by rw [hkv];exact MapKept.run_findKey u2 a1
    have hj:es[j]? =some m':=by simpa using b2
    have hstay:(Instr.keyThatStays m'.key (a.eval k)).run P w= .ok (a.eval k) w:=by
     rw [b3,hkv];exact MapKept.run_keyThatStays hkey
    refine ⟨es.modify j fun e=>{e with key:=a.eval k,val:=a.eval v},clk, ?_, ?_,qjO hsO _ _ _⟩
    . rcases ho with ho | ho<;>simp [execOp,ho,Instr.mapUpdate,run_underlying u1,hx,MapKept.run_getObj_map hb,hck,hf,hj,hstay,MapKept.run_setObj_map _ hb,Result.andThen]
    . rw [a5 y];unfold Qe at hE ⊢;apply Jca;intro i;have hi:=congrArg (·[i]?) hE;simp only [Jax,Jbz,Jcb,List.getElem?_set] at hi ⊢;by_cases e1:j=i
      . subst e1;rw [if_pos rfl,hj];rw [hj] at hi;have hlt:j<l.length:=by
         rcases Nat.lt_or_ge j l.length with hl | hl
         . exact hl
         . rw [Ja0 hl] at hi;simp at hi
        simp [hlt,y1,hkv,hkc,hvv]
      . rw [if_neg e1,if_neg e1];exact hi
 obtain ⟨es',clk',hrun,hE',hsO'⟩:=key;intro K' Q' hK' _;unfold Oper.wp;rw [hrun];have hlt:oi.b<w.heap.size:=(Jar.1 hb).1;have hn: ¬(qn (.cells [.ments e l])=true/\oi.cap=0):=by simp [qn]
 obtain ⟨k1,k2,k3⟩:=zv (st':=st.set q (some (.cells [.ments e (Qv e (ev t k) y l)]))) (k:=q) (v:=0) (o':= .cells [.ments e (Qv e (ev t k) y l)]) (oi:=oi) (w':={w with heap:=w.heap.setIfInBounds oi.b (.map es' clk')}) hg (ko hkl) (by omega) (by simp) rfl (.inr hoi) (fun u oi' hu=>by have:=xH hg hst hu;simpa [obVer] using this) trivial
  (fun _=> .inr ⟨_,hst,zS hoi hn⟩) rfl rfl rfl (by simp) (fun b hb' hno=>by
   have hne:oi.b≠b:=fun e1=>hno _ hst (by rw [zS hoi hn,e1])
   simp [Array.getElem?_setIfInBounds_ne hne]) (fun _=>⟨jb es',0,(0,0),by simp [hlt,vo,meHead,me1,vO,hsO'],fun q _ h=>absurd h.2 (Ja7 _),⟨by simp [qZ,jb],fun j u hu=>by
   match j,hu with
   | 0,hu=>
    simp [qZ] at hu;subst hu;refine ⟨.iface 0 (.tuple (es'.toList.flatMap fun e=>[e.key,e.val]).toArray),rfl,rfl, ?_⟩
    rw [qzV hsh _ _ hE'];exact .me e _
   | j+1,hu=>simp [qZ] at hu⟩,rfl⟩) (fun o2 ho2=>by
   rw [hst] at ho2;simp only [Jah] at ho2;subst ho2;exact ⟨_,rfl,rfl,hoi⟩)
 exact hK' _ _ _ _ _ h k1 ⟨k3,ja (.inl ⟨_,hst⟩)⟩ k2 (.undef _)
end
end
section
open Go.RowKit
variable {P:Program} [Bd P]
def v6 (b:Bool) (es:List MapEntry) (l:List (Int×ByteArray×Nat)):Prop:=es.map (fun m=>(m.key,m.val))=l.map fun p=>(qwY b p,Value.func (.func p.2.2) #[] #[])
theorem qv1 {b:Bool}: ∀(es:List MapEntry) (l:List (Int×ByteArray×Nat)),es.flatMap (fun m=>[m.key,m.val])=l.flatMap (fun p=>[qwY b p,Value.func (.func p.2.2) #[] #[]])->v6 b es l
 | [],[],_=>rfl
 | [],p::l,h=>by simp at h
 | m::es,[],h=>by simp at h
 | m::es,p::l,h=>by
  simp only [List.flatMap_cons,List.cons_append,List.nil_append,Jbx] at h;obtain ⟨h2,h3,h4⟩:=h;have:=qv1 es l h4;unfold v6 at this ⊢;simp [this,h2,h3]
theorem Ym {b:Bool}: ∀(es:List MapEntry) (l:List (Int×ByteArray×Nat)),v6 b es l->es.flatMap (fun m=>[m.key,m.val])=l.flatMap (fun p=>[qwY b p,Value.func (.func p.2.2) #[] #[]])
 | [],[],_=>rfl
 | [],p::l,h=>by simp [v6] at h
 | m::es,[],h=>by simp [v6] at h
 | m::es,p::l,h=>by
  unfold v6 at h;simp only [List.map_cons,Jbx,Jbg] at h;obtain ⟨⟨h2,h3⟩,h4⟩:=h;have:=Ym es l h4;simp [this,h2,h3]
def VM:Bool->T
 | true=> .str ⟨#[]⟩
 | false=> .int .i64 0
def qzf:Bool->Int×ByteArray×Nat->T
 | true,p=> .str p.2.1
 | false,p=> .int .i64 p.1
theorem qwf (b:Bool) (p:Int×ByteArray×Nat):zM (VM b) (qzf b p)=true/\tv (qzf b p)=qwY b p:=by
 cases b<;>simp [VM,qzf,zM,tv,qwY]
theorem qzk {b:Bool} {k:T} {p:Int×ByteArray×Nat} {c:Bool} (h:qxg b k p=some c):zM (VM b) k=true/\kR k (qzf b p)=c:=by
 cases b<;>cases k<;>simp [qxg] at h
 . rename_i kk n;cases kk<;>simp at h
   exact ⟨rfl,by simp [kR,qzf,h]⟩
 . exact ⟨rfl,by simp [kR,qzf,h]⟩
theorem qX4 {b:Bool} {k:T} {f:Nat} {p:Int×ByteArray×Nat} (h:qKZ b k f=some p):zM (VM b) k=true/\tv k=qwY b p/\p.2.2=f:=by
 cases b<;>cases k<;>simp [qKZ] at h
 . rename_i kk n;cases kk<;>simp at h
   subst h;exact ⟨rfl,rfl,rfl⟩
 . subst h;exact ⟨rfl,rfl,rfl⟩
theorem qzY {b:Bool} {kT:T} {d:TypeDesc} {K:T->Prop} (hd:W1 (VM b) d): ∀(l:List (Int×ByteArray×Nat)) (es:List MapEntry) (i:Nat),v6 b es l->ky b kT K l->
  zM (VM b) kT=true/\ ∃n p,Instr.findNow d (tv kT) es i=some (some (i+n,Value.func (.func p.2.2) #[] #[]))/\p∈l/\K (.fn p.2.2 [] [])
 | [],_,_,_,h=>h.elim
 | p::l,[],_,h,_=>by simp [v6] at h
 | p::l,m::es,i,h,hc=>by
  unfold v6 at h;simp only [List.map_cons,Jbx,Jbg] at h;obtain ⟨⟨q1,q2⟩,q3⟩:=h;unfold ky at hc;split at hc;case h_2=>exact hc.elim
  rename_i c he;obtain ⟨e1,e2⟩:=qzk he;obtain ⟨c1,c2⟩:=qwf b p;have hsame:=Zm hd e1 c1;rw [c2,e2] at hsame;refine ⟨e1, ?_⟩;cases c with
  | true=>exact ⟨0,p,by simp only [Instr.findNow,q1,hsame,q2,Jcg],Jbc ..,hc⟩
  | false=>
   obtain ⟨_,n,p',a1,a2,a3⟩:=qzY hd l es (i+1) q3 hc;refine ⟨n+1,p', ?_,Jbe _ a2,a3⟩;simp only [Instr.findNow,q1,hsame,a1];congr 3;omega
theorem qZp {b:Bool} {kT:T} {d:TypeDesc} (hd:W1 (VM b) d): ∀(l:List (Int×ByteArray×Nat)) (es:List MapEntry) (i:Nat),v6 b es l->qek b kT l=true->Instr.findNow d (tv kT) es i=some none
 | [],[],_,_,_=>rfl
 | [],m::es,_,h,_=>by simp [v6] at h
 | p::l,[],_,h,_=>by simp [v6] at h
 | p::l,m::es,i,h,hc=>by
  unfold v6 at h;simp only [List.map_cons,Jbx,Jbg] at h;obtain ⟨⟨q1,q2⟩,q3⟩:=h;unfold qek at hc;split at hc;case h_2=>cases hc
  rename_i he;obtain ⟨e1,e2⟩:=qzk he;obtain ⟨c1,c2⟩:=qwf b p;have hsame:=Zm hd e1 c1;rw [c2,e2] at hsame;simp only [Instr.findNow,q1,hsame,qZp hd l es (i+1) q3 hc]
section
variable {P:Program} [Bd P] {D:TD} {g:G P} {st:St} {w:World} {n:Nat} {t:Tm} {a:Act} {o:Oper} {K X:Kn}
theorem qvr (hg:Good g st w) {m:T} {x:Value} {b:Bool} {q:Nat} {l:List (Int×ByteArray×Nat)} (hR:R g m x) (h:WO st m=some (q,b,l)):
  ∃(oi:OI) (es:Array MapEntry) (clk:Nat),st[q]? =some (some (.cells [.fents b l]))/\g.ob q 0=some oi/\x= .map (some oi.b)/\w.heap[oi.b]? =some (.map es clk)/\v6 b es.toList l/\j6 es clk=true/\ ∀p∈l,(ytab p.2.2).isNone=true:=by
 unfold WO at h;split at h;case h_2=>cases h
 rename_i k;split at h;case h_2=>cases h
 rename_i b' l' hr;simp only [Jah,Jbg] at h;obtain ⟨rfl,rfl,rfl⟩:=h;cases hR with
 | mp _ oi h1=>
  obtain ⟨oi',o1,_,o3⟩:=hg.obj _ _ (qc.1 hr);have o1:g.ob k 0=some oi':=o1;rw [h1] at o1;injection o1 with o1;subst o1;rcases o3 with o3 | ⟨_,blk,E,fr,p1,_,p3,_⟩
  . cases o3.1
  cases hv:w.heap[oi.b]? with
  | none=>rw [hv] at p1;cases p1
  | some ob=>
   rw [hv] at p1;obtain ⟨y,y1,_,y3⟩:=p3.at_ 0 _ rfl;obtain ⟨es,clk,rfl,hst,hbl⟩:=qZf p1 y1 y3;rw [hbl] at y1;simp [jb] at y1;subst y1;have hf:flatF b' l'=(es.toList.flatMap fun e=>[e.key,e.val]).toArray/\ ∀p∈l',(ytab p.2.2).isNone=true:=by
    generalize (es.toList.flatMap fun e=>[e.key,e.val]).toArray=A at y3 ⊢
    cases y3 with
    | fe _ _ hy=>exact ⟨rfl,hy⟩
   refine ⟨oi,es,clk,qc.1 hr,h1,rfl,hv,qv1 _ _ ?_,hst,hf.2⟩;have:=congrArg Array.toList hf.1;unfold flatF at this;simpa using this.symm
theorem ZK (hD:zY P D) {T0:TypeId} {b:Bool} (h:Qb D T0=some b): ∃(kt vt:TypeId) (d:TypeDesc),P.underlying T0=some (.map kt vt)/\P.underlying kt=some d/\W1 (VM b) d:=by
 unfold Qb at h;split at h;case h_2=>cases h
 rename_i ti _ hti;split at h;case h_2=>cases h
 rename_i kt vt hs;split at h;case h_2=>cases h
 rename_i tk htk;obtain ⟨d0,u1,_,u3⟩:=(hD _ _ hti).under;rw [hs] at u3;simp only [srtOk] at u3;subst u3;obtain ⟨d,k1,_,k3⟩:=(hD _ _ htk).under;refine ⟨kt,vt,d,u1,k1, ?_⟩;split at h
 . rename_i hk;injection h with h;subst h;rw [hk] at k3;exact k3
 . rename_i hk;injection h with h;subst h;rw [hk] at k3;exact k3
 . cases h
theorem qjR (hg:Good g st w) {T0:TypeId} {b:Bool} (ho:o.op= .makeMap T0 none) (hK:K (.mp st.length) (st++[some (.cells [.fents b []])])):xU P o a g st w K X:=by
 have hrun:(execOp a.eval o).run P w= .ok (.value (.map (some w.heap.size))) (w.alloc (.map #[] 0)):=by
  simp only [execOp,ho,Instr.makeMap,newObj,Option.map_none,Sem.run_bind,Sem.run_pure,Result.andThen_ok];rfl
 intro K' Q' hK' _;unfold Oper.wp;rw [hrun];obtain ⟨k1,k2,k3⟩:=zv (st':=st++[some (.cells [.fents b []])]) (k:=st.length) (v:=0) (o':= .cells [.fents b []]) (oi:=⟨w.heap.size,0,0⟩) (w':=w.alloc (.map #[] 0)) hg j8 (Jam _) (by simp) rfl (.inl (zu hg)) (fun u oi hu=>by rw [zu hg] at hu;cases hu) trivial
  (fun _=> .inl (Jam _)) rfl rfl rfl (by simp) (fun b hb _=>Below.heap_alloc w _ b hb) (fun _=>⟨jb #[],0,(0,0),by rw [heap_alloc_new w _];rfl,fun q _ h=>absurd h.2 (Ja7 _),⟨by simp [qZ,jb],fun j u hu=>by
   match j,hu with
   | 0,hu=>simp [qZ] at hu;subst hu;exact ⟨_,rfl,rfl,.fe b [] (fun p hp=>by cases hp)⟩
   | j+1,hu=>simp [qZ] at hu⟩,rfl⟩) (fun o ho=>by rw [Ja0 (Jam _)] at ho;cases ho)
 exact hK' _ _ _ _ _ hK k1 ⟨k3,ja (.inr rfl)⟩ k2 (.mp _ ⟨w.heap.size,0,0⟩ (by simp [G.set]))
theorem qwu (hD:zY P D) (hg:Good g st w) (ht:RelT g n t a) {T0:TypeId} {m k:Operand} {ok:Bool} (ho:o.op= .lookup T0 m k ok) (h:wd D T0 (ev t m) (ev t k) ok st fun v=>K v st):xU P o a g st w K X:=by
 unfold wd at h;split at h;case h_2=>exact h.elim
 rename_i b q b' l hi hm;split at h;case h_2=>exact h.elim
 rename_i hbb;obtain rfl:=eq_of_beq hbb;obtain ⟨kt,vt,d,u1,u2,u3⟩:=ZK hD hi;obtain ⟨oi,es,clk,_,_,hx,hb,hE,_,hy⟩:=qvr hg (ht.ev m) hm;obtain ⟨hk,j,p,a1,a2,a3⟩:=qzY u3 l es.toList 0 hE h;have hkv:=qXx (ht.ev k) hk;have hkey:=Jp u3 hk;have hck:(Instr.checkKey es.isEmpty 10000 kt (a.eval k)).run P w= .ok () w:=by rw [hkv];exact MapKept.run_checkKey u2 hkey _ _
 have hf:(Instr.findKey kt (a.eval k) es.toList).run P w= .ok (some (0+j,Value.func (.func p.2.2) #[] #[])) w:=by rw [hkv];exact MapKept.run_findKey u2 a1
 refine xq hg (x:= .func (.func p.2.2) #[] #[]) ?_ (.fn p.2.2 [] [] _ _ (hy p a2) rfl rfl (by simp) (by simp)) a3
 simp [execOp,ho,Instr.lookup,run_underlying u1,hx,MapKept.run_getObj_map hb,hck,hf,Result.andThen]
theorem Ql (hD:zY P D) (hg:Good g st w) (ht:RelT g n t a) {T0:TypeId} {m k v:Operand} (ho:o.op= .mapUpdate T0 m k v∨o.op= .insert T0 m k v) (h:jm D T0 (ev t m) (ev t k) (ev t v) st fun s=>K .undef s):xU P o a g st w K X:=by
 unfold jm at h;split at h;case h_2=>exact h.elim
 rename_i b q b' l f hi hm hv;split at h;case h_2=>exact h.elim
 rename_i p hbb hyf hnew hp;obtain rfl:=eq_of_beq hbb;obtain ⟨kt,vt,d,u1,u2,u3⟩:=ZK hD hi;obtain ⟨oi,es,clk,hst,hoi,hx,hb,hE,hsO,hy⟩:=qvr hg (ht.ev m) hm;obtain ⟨hk,hpk,hpf⟩:=qX4 hp;have hkv:=qXx (ht.ev k) hk;have hkey:=Jp u3 hk;have hvv:a.eval v= .func (.func f) #[] #[]:=by
  have:=ht.ev v;rw [hv] at this;generalize a.eval v=av at this ⊢;cases this with
  | fn _ _ _ xs ys _ h1 h2=>
   have e1:xs= #[]:=Jbn h1.symm;have e2:ys= #[]:=Jbn h2.symm;rw [e1,e2]
  | yl _ _ yi l r h1=>rw [h1] at hyf;cases hyf
 have hck:(Instr.checkKey false 10000 kt (a.eval k)).run P w= .ok () w:=by rw [hkv];exact MapKept.run_checkKey u2 hkey _ _
 have hf:(Instr.findKey kt (a.eval k) es.toList).run P w= .ok none w:=by rw [hkv];exact MapKept.run_findKey u2 (qZp u3 l es.toList 0 hE hnew)
 have hkl:q<st.length:=(Jai.1 hst).1;have hrun:(execOp a.eval o).run P w= .ok .skip {w with heap:=w.heap.setIfInBounds oi.b (.map (es.push {key:=a.eval k,val:=a.eval v,born:=clk}) (clk+1))}:=by
  rcases ho with ho | ho<;>simp [execOp,ho,Instr.mapUpdate,run_underlying u1,hx,MapKept.run_getObj_map hb,hck,hf,MapKept.run_setObj_map _ hb,Result.andThen]
 have hE':v6 b (es.push {key:=a.eval k,val:=a.eval v,born:=clk}).toList (l++[p]):=by
  unfold v6 at hE ⊢;simp [hE,hkv,hpk,hvv,hpf]
 have hsO':=qqc hsO (a.eval k) (a.eval v);generalize es.push {key:=a.eval k,val:=a.eval v,born:=clk}=es' at hrun hE' hsO';intro K' Q' hK' _;unfold Oper.wp;rw [hrun];have hlt:oi.b<w.heap.size:=(Jar.1 hb).1;have hn: ¬(qn (.cells [.fents b l])=true/\oi.cap=0):=by simp [qn]
 obtain ⟨k1,k2,k3⟩:=zv (st':=st.set q (some (.cells [.fents b (l++[p])]))) (k:=q) (v:=0) (o':= .cells [.fents b (l++[p])]) (oi:=oi) (w':={w with heap:=w.heap.setIfInBounds oi.b (.map es' (clk+1))}) hg (ko hkl) (by omega) (by simp) rfl (.inr hoi) (fun u oi' hu=>by have:=xH hg hst hu;simpa [obVer] using this) trivial
  (fun _=> .inr ⟨_,hst,zS hoi hn⟩) rfl rfl rfl (by simp) (fun b hb' hno=>by
   have hne:oi.b≠b:=fun e1=>hno _ hst (by rw [zS hoi hn,e1])
   simp [Array.getElem?_setIfInBounds_ne hne]) (fun _=>⟨jb es',0,(0,0),by simp [hlt,vo,meHead,me1,vO,hsO'],fun q _ h=>absurd h.2 (Ja7 _),⟨by simp [qZ,jb],fun j u hu=>by
   match j,hu with
   | 0,hu=>
    simp [qZ] at hu;subst hu;refine ⟨.iface 0 (.tuple (es'.toList.flatMap fun e=>[e.key,e.val]).toArray),rfl,rfl, ?_⟩
    rw [Ym _ _ hE'];exact .fe b _ fun p' hp'=>by
     rcases Jbr.1 hp' with h1 | h1
     . exact hy p' h1
     . rw [List.mem_singleton.1 h1,hpf];exact hyf
   | j+1,hu=>simp [qZ] at hu⟩,rfl⟩) (fun o2 ho2=>by
   rw [hst] at ho2;simp only [Jah] at ho2;subst ho2;exact ⟨_,rfl,rfl,hoi⟩)
 exact hK' _ _ _ _ _ h k1 ⟨k3,ja (.inl ⟨_,hst⟩)⟩ k2 (.undef _)
theorem JC {e:El} {es:List MapEntry} {l:List (ty e)} (h:Qe e es l):es.length=l.length:=by
 have:=congrArg List.length h;simpa using this
theorem qvh {e:El} {es:List MapEntry} {l:List (ty e)} (h:Qe e es l) {i:Nat} {m:MapEntry} {x:ty e} (hm:es[i]? =some m) (hx:l[i]? =some x):m.key=tv ((enc e x).headD .undef)/\m.val=tv ((enc e x).getD 1 .undef):=by
 have:=congrArg (·[i]?) h;simp only [Jax,hm,hx,Ja8,Jah,Jbg] at this;exact this
def Qc {α:Type} (l:List α) (o:Nat) (seen:Array Nat):List α:=((l.zipIdx o).filter fun p=> !seen.contains p.2).map (·.1)
theorem jO {α:Type} (x:α) (l:List α) (o:Nat) (seen:Array Nat):Qc (x::l) o seen=(if seen.contains o=true then [] else [x])++Qc l (o+1) seen:=by
 unfold Qc;rw [List.zipIdx_cons,List.filter_cons];cases seen.contains o<;>simp
theorem Yu {α:Type}: ∀(l:List α) (o i:Nat) (seen:Array Nat),i<o->Qc l o (seen.push i)=Qc l o seen
 | [],_,_,_,_=>rfl
 | x::l,o,i,seen,h=>by
  rw [jO,jO,Yu l (o+1) i seen (by omega),contains_push]
  have:(o==i)=false:=by simp;omega
  rw [this,Jcm]
theorem K9 {α:Type}: ∀(l:List α) (o j:Nat) (seen:Array Nat) (x:α),l[j]? =some x->seen.contains (o+j)=false-> ∃p r,Qc l o seen=p++x::r/\Qc l o (seen.push (o+j))=p++r
 | [],_,_,_,_,h,_=>by simp at h
 | y::l,o,0,seen,x,h,hs=>by
  simp only [Jbh,Jah] at h;subst h;rw [Jcg] at hs;refine ⟨[],Qc l (o+1) seen, ?_, ?_⟩
  . rw [jO,hs];rfl
  . rw [jO,Jcg,contains_push,Yu l (o+1) o seen (by omega)]
    simp
 | y::l,o,j+1,seen,x,h,hs=>by
  simp only [Jbd] at h;obtain ⟨p,r,h1,h2⟩:=K9 l (o+1) j seen x h (by rw [show o+1+j=o+(j+1)by omega];exact hs)
  rw [show o+1+j=o+(j+1)by omega] at h2
  refine ⟨(if seen.contains o=true then [] else [y])++p,r, ?_, ?_⟩
  . rw [jO,h1,Jat]
  . rw [jO,h2,contains_push,Jat];have:(o==o+(j+1))=false:=by simp
    rw [this,Jcm]
theorem Yv {α:Type}: ∀(l:List α) (o:Nat) (seen:Array Nat),(∀j,j<l.length->seen.contains (o+j)=true)->Qc l o seen=[]
 | [],_,_,_=>rfl
 | x::l,o,seen,h=>by
  have h0:=h 0 (by simp)
  rw [Jcg] at h0;rw [jO,h0,Yv l (o+1) seen fun j hj=>by
   have:=h (j+1) (by simpa using hj)
   rwa [show o+(j+1)=o+1+j by omega] at this]
  rfl
theorem qaB {b b' n n':Nat} {s s':Array Nat} (h:itrV b n s=itrV b' n' s'):b=b'/\n=n'/\s=s':=by
 unfold itrV at h;injection h with _ h;injection h with h;have h:=congrArg Array.toList h;simp only [Array.toList_append,Array.toList_map,List.cons_append,List.nil_append,Jbx,Value.map.injEq,Jah,Value.int.injEq,true_and] at h;obtain ⟨h1,h2,h3⟩:=h;refine ⟨h1,by omega, ?_⟩
 apply Array.toList_inj.1;have: ∀a c:List Nat,a.map (fun i=>Value.int .i64 (i:Nat))=c.map (fun i=>Value.int .i64 (i:Nat))->a=c:=fun a=>by
  induction a with
  | nil=>intro c h;cases c<;>simp at h;rfl
  | cons x a ih=>
   intro c h;cases c with
   | nil=>simp at h
   | cons y c=>
    simp only [List.map_cons,Jbx,Value.int.injEq,true_and] at h;rw [ih c h.2,show x=y by omega]
 exact this _ _ h3
theorem qdI {ob:Obj} {blk:Array Value} {E:TypeId} {fr:Nat×Nat} {y:Value} {q:Nat} {e:El} {all left cur:List (ty e)} (p:vO true (some ob)=some (.cells blk E fr)) (hy:blk[0]? =some y) (hR:R g (.itr (some q) e all left cur) y):
  ∃oi seen,g.ob q 0=some oi/\ob= .mapIter (some oi.b) all.length seen all.length/\left=leftI all seen/\(∀x∈cur, ∃i,seen.back?=some i/\all[i]? =some x):=by
 generalize hz:y=z at hR;cases hR with
 | it _ _ _ _ _ oi seen h1 h2 h3=>
  cases ob with
  | map es clk=>
   simp only [vO] at p;cases hs:j6 es clk with
   | false=>rw [hs] at p;cases p
   | true=>
    rw [hs] at p;simp only [Jae,Jah,Obj.cells.injEq] at p;rw [<- p.1] at hy;simp [jb] at hy;rw [hz] at hy;unfold itrV at hy;injection hy with hy;exact absurd hy (by decide)
  | mapIter m n seen' l=>
   cases m with
   | none=>cases p
   | some b=>
    simp only [vO] at p;cases hs:decide (n=l)with
    | false=>rw [hs] at p;cases p
    | true=>
     rw [hs] at p;simp only [Jae,Jah,Obj.cells.injEq] at p;rw [<- p.1] at hy;simp at hy;rw [hz] at hy;obtain ⟨rfl,rfl,rfl⟩:=qaB hy;have:=Jac hs;subst this;exact ⟨oi,seen',h1,rfl,h2,h3⟩
  | _=>cases p
theorem qVM (hg:Good g st w) {v:T} {x:Value} {F:(k q:Nat)->(e:El)->(all left cur l:List (ty e))->Prop} (hR:R g v x) (h:qzE st v F):
  ∃(k q:Nat) (e:El) (all left cur l:List (ty e)) (oi oq:OI) (seen:Array Nat) (es:Array MapEntry) (clk:Nat) (ks vs:T),F k q e all left cur l/\st[k]? =some (some (.cells [.itr (some q) e all left cur]))/\g.ob k 0=some oi/\g.ob q 0=some oq/\x= .pointer (some ⟨oi.b,0,none⟩)/\
   w.heap[oi.b]? =some (.mapIter (some oq.b) all.length seen all.length)/\w.heap[oq.b]? =some (.map es clk)/\left=leftI all seen/\(∀x∈cur, ∃i,seen.back?=some i/\all[i]? =some x)/\Qe e es.toList l/\j6 es clk=true/\kO e=some (ks,vs):=by
 unfold qzE at h;split at h;case h_2=>exact h.elim
 rename_i k;split at h;case h_2=>exact h.elim
 rename_i q e all left cur hr;split at h;case h_2=>exact h.elim
 rename_i e' l' hrq;split at h;case isFalse=>exact h.elim
 rename_i he;subst he;split at h;case h_2=>exact h.elim
 rename_i hsome;obtain ⟨⟨ks,vs⟩,hsh⟩:=Jb2.1 hsome;generalize hxe:x=xv at hR;cases hR with
 | pt _ _ oi h1=>
  obtain ⟨oi',o1,_,o3⟩:=hg.obj _ _ (qc.1 hr);have o1:g.ob k 0=some oi':=o1;rw [h1] at o1;injection o1 with o1;subst o1;rcases o3 with o3 | ⟨_,blk,E,fr,p1,_,p3,_⟩
  . cases o3.1
  cases hv:w.heap[oi.b]? with
  | none=>rw [hv] at p1;cases p1
  | some ob=>
   rw [hv] at p1;obtain ⟨y,y1,_,y3⟩:=p3.at_ 0 _ rfl;obtain ⟨oq,seen,h2,rfl,h4,h5⟩:=qdI p1 y1 y3;have hm:VN st e' (.mp q)=some (q,l'):=by simp [VN,hrq,jX]
   obtain ⟨oq',es,clk,_,m2,_,m4,m5,m6⟩:=qxc hg hsh (.mp q oq h2) hm;rw [h2] at m2;injection m2 with m2;subst m2;exact ⟨k,q,e',all,left,cur,l',oi,oq,seen,es,clk,ks,vs,h,qc.1 hr,h1,h2,rfl,hv,m4,h4,h5,m5,m6,hsh⟩
theorem ZH {es:Array MapEntry} {clk:Nat} (h:j6 es clk=true):(∀(i:Nat) (m:MapEntry),es.toList[i]? =some m->m.born=i)/\clk=es.size/\(es.toList.map (·.born)).Nodup:=by
 have h:=Jac h;refine ⟨fun i m hm=> ?_,h.2,by rw [h.1];exact List.nodup_range⟩
 have:=congrArg (·[i]?) h.1;simp only [Jax,hm,Ja8] at this;have hlt:i<es.size:=by have:=(Jai.1 hm).1;simpa using this
 rw [List.getElem?_range hlt] at this;exact Jb0 this
theorem qZS {e:El} {ks vs:T} (hsh:kO e=some (ks,vs)) (x:ty e) {m:MapEntry} (hk:m.key=tv ((enc e x).headD .undef)) (hv:m.val=tv ((enc e x).getD 1 .undef)) (pre:List T) (pv:List Value) (hp:pre.length=pv.length) (hR: ∀(i:Nat) (c:T) (z:Value),pre[i]? =some c->pv[i]? =some z->R g c z):R g (.tu (pre++enc e x)) (.tuple (pv++[m.key,m.val]).toArray):=by
 obtain ⟨kc,vc,h1,h2,h3⟩:=ws hsh x;rw [h1] at hk hv ⊢;refine .tu _ _ (by simp [hp]) fun i c z hc hz=> ?_
 simp only [List.getElem?_toArray] at hz;by_cases hi:i<pre.length
 . rw [Jav hi] at hc;rw [Jav (by omega)] at hz
   exact hR i c z hc hz
 . rw [Jas (by omega)] at hc
   rw [Jas (by omega), <- hp] at hz
   match i-pre.length,hc,hz with
   | 0,hc,hz=>simp at hc hz;subst hc;subst hz;rw [hk];exact qpV h2
   | 1,hc,hz=>simp at hc hz;subst hc;subst hz;rw [hv];exact qpV h3
   | j+2,hc,hz=>simp at hc
theorem qXj (hD:zY P D) (hg:Good g st w) (ht:RelT g n t a) {T0:TypeId} {m:Operand} (ho:o.op= .range T0 m) (h:ZF D T0 (ev t m) st K):xU P o a g st w K X:=by
 unfold ZF at h;split at h;case h_2=>exact h.elim
 rename_i ti q hti hm;split at h;case h_2=>exact h.elim
 rename_i kt vt e l hs hr;split at h;case h_2=>exact h.elim
 rename_i hsome;obtain ⟨⟨ks,vs⟩,hsh⟩:=Jb2.1 hsome;obtain ⟨d0,u1,_,u3⟩:=(hD _ _ hti).under;rw [hs] at u3;simp only [srtOk] at u3;subst u3;have hR:=ht.ev m;rw [hm] at hR;have hma:VN st e (.mp q)=some (q,l):=by simp [VN,hr,jX]
 obtain ⟨oi,es,clk,hst,hoi,hx,hb,hE,hsO⟩:=qxc hg hsh hR hma;obtain ⟨_,hclk,_⟩:=ZH hsO;have hlen:clk=l.length:=by rw [hclk, <- JC hE];simp
 have hrun:(execOp a.eval o).run P w= .ok (.value (.pointer (some ⟨w.heap.size,0,none⟩))) (w.alloc (.mapIter (some oi.b) clk #[] clk)):=by
  have:=run_range_map w T0 kt vt oi.b es clk u1 hb;simp only [execOp,ho,hx,Sem.run_bind,this,Result.andThen_ok,Sem.run_pure]
 intro K' Q' hK' _;unfold Oper.wp;rw [hrun];have hleft:l=leftI l #[]:=by
  show l=Qc l 0 #[]
  have: ∀(l:List (ty e)) (o:Nat),Qc l o #[]=l:=fun l=>by
   induction l with
   | nil=>intro o;rfl
   | cons x l ih=>intro o;rw [jO,ih];simp
  rw [this]
 obtain ⟨k1,k2,k3⟩:=zv (st':=st++[some (.cells [.itr (some q) e l l []])]) (k:=st.length) (v:=0) (o':= .cells [.itr (some q) e l l []]) (oi:=⟨w.heap.size,0,0⟩) (w':=w.alloc (.mapIter (some oi.b) clk #[] clk)) hg j8 (Jam _) (by simp) rfl (.inl (zu hg)) (fun u oi hu=>by rw [zu hg] at hu;cases hu) trivial
  (fun _=> .inl (Jam _)) rfl rfl rfl (by simp) (fun b hb _=>Below.heap_alloc w _ b hb) (fun _=>⟨#[itrV oi.b clk #[]],0,(0,0),by rw [heap_alloc_new w _];simp [vo,meHead,me1,vO],fun q _ h=>absurd h.2 (Ja7 _),⟨by simp [qZ],fun j u hu=>by
   match j,hu with
   | 0,hu=>
    simp [qZ] at hu;subst hu;refine ⟨_,rfl,rfl, ?_⟩;rw [hlen];exact .it q e l l [] oi #[] hoi hleft (fun x hx=>by cases hx)
   | j+1,hu=>simp [qZ] at hu⟩,rfl⟩) (fun o ho=>by rw [Ja0 (Jam _)] at ho;cases ho)
 exact hK' _ _ _ _ _ h k1 ⟨k3,ja (.inr rfl)⟩ k2 (.pt _ 0 ⟨w.heap.size,0,0⟩ (by simp [G.set]))
theorem qZ7 (hg:Good g st w) (ht:RelT g n t a) {x:Operand} (ho:o.op= .entry x) (h:XP (ev t x) st fun v=>K v st):xU P o a g st w K X:=by
 obtain ⟨k,q,e,all,left,cur,l,oi,oq,seen,es,clk,ks,vs,hF,hst,hoi,hoq,hx,hb,hbq,hleft,hcur,hE,hsO,hsh⟩:=qVM hg (ht.ev x) h;split at hF;case h_2=>exact hF.elim
 rename_i y;obtain ⟨rfl,hK⟩:=hF;obtain ⟨i,hback,hi⟩:=hcur y (List.mem_singleton.2 rfl);obtain ⟨hborn,hclk,hnd⟩:=ZH hsO;have hseen:seen=seen.pop.push i:=by
  rw [Array.back?_eq_getElem?] at hback;have hpos:seen.size-1<seen.size:=(Jar.1 hback).1;apply Array.ext_getElem?;intro j;rw [Array.getElem?_push,Array.size_pop];by_cases hj:j=seen.size-1
  . rw [if_pos hj,hj,hback]
  . rw [if_neg hj,Array.getElem?_pop];by_cases h2:j<seen.size-1
    . rw [if_pos h2]
    . rw [if_neg h2,Array.getElem?_eq_none (by omega)]
 have hlt:i<es.size:=by
  have h1:=(Jai.1 hi).1;have h2:=JC hE;simp only [Array.length_toList] at h2;omega
 have hm:es.toList[i]? =some es[i]:=by simp [hlt]
 have hbi:=hborn i _ hm;obtain ⟨e1,e2⟩:=qvh hE hm hi;have hlen:l.length=clk:=by rw [hclk, <- JC hE];simp
 have hrun:(execOp a.eval o).run P w= .ok (.value (.tuple #[(es[i]).key,(es[i]).val])) w:=by
  have:=run_entry_at (P:=P) w oi.b oq.b l.length seen.pop es clk es[i] (by rw [hb,hbi, <- hseen,hlen]) hbq (by simp) hnd
  simp only [execOp,ho,hx,Sem.run_bind,this,Result.andThen_ok,Sem.run_pure]
 exact xq hg hrun (qZS hsh y e1 e2 [] [] rfl (fun i c z hc=>by simp at hc)) hK
theorem qY8 (hg:Good g st w) (ht:RelT g n t a) {x:Operand} (ho:o.op= .next x false) (h:qh2 (ev t x) st K):xU P o a g st w K X:=by
 obtain ⟨k,q,e,all,left,cur,l,oi,oq,seen,es,clk,ks,vs,hF,hst,hoi,hoq,hx,hb,hbq,hleft,hcur,hE,hsO,hsh⟩:=qVM hg (ht.ev x) h;obtain ⟨rfl,h0,h1⟩:=hF;obtain ⟨hborn,hclk,hnd⟩:=ZH hsO;have hlen:l.length=es.size:=by rw [<- JC hE];simp
 have hold: ∀m∈es.toList,m.born<l.length:=fun m hm=>by
  obtain ⟨i,hi⟩:=List.getElem?_of_mem hm;have:=hborn i m hi;have hlt:=(Jai.1 hi).1;simp only [Array.length_toList] at hlt;omega
 rcases run_next_at (P:=P) w o.type oi.b oq.b l.length l.length seen es clk hb hbq hold (Jam _)with ⟨hz,hrun⟩ | ⟨m,hm,w1,hw1,hrun⟩
 . refine xq hg (x:= .tuple #[.bool false]) ?_ (.tu _ _ rfl fun i c y hc hy=> ?_) (h0 ?_)
   . simp only [execOp,ho,hx,Sem.run_bind,hrun,Result.andThen_ok,Sem.run_pure]
   . match i,hc,hy with
     | 0,hc,hy=>simp at hc hy;subst hc;subst hy;exact .bool _
     | i+1,hc,hy=>simp at hc
   . rw [hleft];refine Yv l 0 seen fun j hj=> ?_
     have hj':j<es.size:=by omega
     have hmj:es.toList[j]? =some es[j]:=by simp [hj']
     have:=all_seen es seen hz es[j] (by simp)
     rw [hborn j _ hmj] at this;rw [Jbj];exact this
 . obtain ⟨hme,hns⟩:=mem_left hm;obtain ⟨j,hj⟩:=List.getElem?_of_mem hme;have hbj:=hborn j m hj;have hjl:j<l.length:=by
    have:=(Jai.1 hj).1;simp only [Array.length_toList] at this;omega
   have hlj:l[j]? =some l[j]:=by simp [hjl]
   obtain ⟨e1,e2⟩:=qvh hE hj hlj;rw [hbj] at hns hrun;obtain ⟨p,r,l1,l2⟩:=K9 l 0 j seen l[j] hlj (by rw [Jbj];exact hns)
   rw [Jbj] at l2;have hK:=h1 p l[j] r (by rw [hleft];exact l1)
   have hrun':(execOp a.eval o).run P w= .ok (.value (.tuple #[.bool true,m.key,m.val])) (Go.ChangeMaps.setBlock w1 oi.b (.mapIter (some oq.b) l.length (seen.push j) clk)):=by
    simp only [execOp,ho,hx,Sem.run_bind,hrun,Result.andThen_ok,Sem.run_pure]
   intro K' Q' hK' _;unfold Oper.wp;rw [hrun'];have hkl:k<st.length:=(Jai.1 hst).1;have hlt:oi.b<w.heap.size:=(Jar.1 hb).1;have hh:w1.heap=w.heap/\w1.os=w.os/\w1.tape=w.tape/\w1.output=w.output:=by rcases hw1 with rfl | rfl<;>exact ⟨rfl,rfl,rfl,rfl⟩
   have hn: ¬(qn (.cells [.itr (some q) e l left cur])=true/\oi.cap=0):=by simp [qn]
   have hclk':clk=l.length:=by omega
   obtain ⟨k1,k2,k3⟩:=zv (st':=st.set k (some (.cells [.itr (some q) e l (p++r) [l[j]]]))) (k:=k) (v:=0) (o':= .cells [.itr (some q) e l (p++r) [l[j]]]) (oi:=oi) (w':=Go.ChangeMaps.setBlock w1 oi.b (.mapIter (some oq.b) l.length (seen.push j) clk)) hg (ko hkl) (by omega) (by simp) rfl (.inr hoi) (fun u oi' hu=>by have:=xH hg hst hu;simpa [obVer] using this) trivial
    (fun _=> .inr ⟨_,hst,zS hoi hn⟩) hh.2.1 hh.2.2.1 hh.2.2.2 (by simp [Go.ChangeMaps.setBlock,hh.1]) (fun b hb' hno=>by
     have hne:oi.b≠b:=fun e1=>hno _ hst (by rw [zS hoi hn,e1])
     simp [Go.ChangeMaps.setBlock,hh.1,Array.getElem?_setIfInBounds_ne hne]) (fun _=>⟨#[itrV oq.b l.length (seen.push j)],0,(0,0),by simp [Go.ChangeMaps.setBlock,hh.1,hlt,vo,meHead,me1,vO,hclk'],fun q _ h=>absurd h.2 (Ja7 _),⟨by simp [qZ],fun i u hu=>by
      match i,hu with
      | 0,hu=>
       simp [qZ] at hu;subst hu;exact ⟨_,rfl,rfl,.it q e l (p++r) [l[j]] oq (seen.push j) hoq l2.symm (fun x hx=>⟨j,by simp,by rw [List.mem_singleton.1 hx];exact hlj⟩)⟩
      | i+1,hu=>simp [qZ] at hu⟩,rfl⟩) (fun o2 ho2=>by
     rw [hst] at ho2;simp only [Jah] at ho2;subst ho2;exact ⟨_,rfl,rfl,hoi⟩)
   refine hK' _ _ _ _ _ hK k1 ⟨k3,ja (.inl ⟨_,hst⟩)⟩ k2 (qZS hsh l[j] e1 e2 [.bool true] [.bool true] rfl fun i c z hc hz=> ?_)
   match i,hc,hz with
   | 0,hc,hz=>simp at hc hz;subst hc;subst hz;exact .bool _
   | i+1,hc,hz=>simp at hc
end
end
section
open Go.RowKit
variable {P:Program} [Bd P]
inductive Ex where
 | normal
 | exit (id:Nat)
 | goto (l:Nat)
 | ret
 | pan (v:T)
abbrev Kc:=Ex->Tm->St->Prop
def vT (P:Program) (f:FuncId):Bool:=
 (ytab f).isNone&&match P.funcs[f]? with
 | some fn=> !(fn.name== "runtime.NumGoroutine")&&fn.body.isSome
 | none=>false
structure RL (g:G P) (us:List T) (args:Array Value):Prop where
 len:us.length=args.size
 val: ∀(i:Nat) (u:T) (x:Value),us[i]? =some u->args[i]? =some x->R g u x
def WF (ro:Option Nat):Fence:={Fence.wide with round:=ro}
def RY {P:Program} (g:G P) (us:List T) (yi:YI) (r:Loop):Prop:= ∀(i:Nat) (u:T) (d:Tmp),us[i]? =some u->yi.live[i]? =some d->R g u (r.tmps.getD d Go.undef)
def Qw (P:Program) (f:FuncId) (g:G P) (vs:List T) (w:World) (Z:Ending->World->Prop):Prop:=
 match ytab f with
 | none=>vT P f=true/\ ∀args,RL g vs args->Calls P f args w Z
 | some yi=> ∃(xs us:List T),vs=xs++us/\us.length=yi.live.length/\ ∀(args:Array Value) (l:Nat) (r:Loop),RL g xs args->g.fx l r->YRec P f r->RY g us yi r->
   args.size=r.params.size/\RoundIn (WF none) 0 P l r.fn ((r.params.zip args).foldl (fun t (p,v)=>t.setIfInBounds p v) r.tmps) r.assign r.body w Z
theorem Qw.of {P:Program} {f:FuncId} {g:G P} {vs:List T} {w:World} {Z:Ending->World->Prop} (he:vT P f=true) (h: ∀args,RL g vs args->Calls P f args w Z):Qw P f g vs w Z:=by
 have h1:=he;unfold vT at h1;rw [Jaq] at h1;have:ytab f=none:=by simpa using h1.1
 unfold Qw;rw [this];exact ⟨he,h⟩
theorem Qw.mono {P:Program} {f:FuncId} {g:G P} {vs:List T} {w:World} {Z Z':Ending->World->Prop} (h:Qw P f g vs w Z) (hz: ∀e w',Z e w'->Z' e w'):Qw P f g vs w Z':=by
 unfold Qw at h ⊢;split at h
 . exact ⟨h.1,fun args hr=>(h.2 args hr).mono hz⟩
 . obtain ⟨xs,us,h1,h3,h4⟩:=h;exact ⟨xs,us,h1,h3,fun args l r k1 k2 k3 k4=>⟨(h4 args l r k1 k2 k3 k4).1,(h4 args l r k1 k2 k3 k4).2.mono hz⟩⟩
theorem Qw.re {P:Program} {f:FuncId} {g g1:G P} {vs vs1:List T} {w:World} {Z:Ending->World->Prop} (h:Qw P f g1 vs1 w Z) (hl:vs1.length=vs.length) (hv: ∀(i:Nat) (u1:T),vs1[i]? =some u1-> ∃u,vs[i]? =some u/\ ∀x,R g u x->R g1 u1 x) (hf: ∀l r,g.fx l r->g1.fx l r):Qw P f g vs w Z:=by
 unfold Qw at h ⊢;split at h
 . exact ⟨h.1,fun args hr=>h.2 args ⟨hl.trans hr.len,fun i u1 x hu hx=>by
    obtain ⟨u,e1,e2⟩:=hv i u1 hu;exact e2 x (hr.val i u x e1 hx)⟩⟩
 . rename_i yi _;obtain ⟨xs,us,h1,h3,h4⟩:=h;subst h1;obtain ⟨m,h2⟩: ∃m,xs.length=m:=⟨_,rfl⟩;have hlen:vs.length=m+yi.live.length:=by rw [<- hl];simp [h2,h3]
   refine ⟨vs.take m,vs.drop m,(Jcn _ _).symm,by simp;omega,fun args l r k1 k2 k3 k4=>h4 args l r ⟨?_,fun i u1 x hu hx=> ?_⟩ (hf _ _ k2) k3 fun i u1 d hu hd=> ?_⟩
   . have:=k1.len;simp at this;omega
   . obtain ⟨u,e1,e2⟩:=hv i u1 (by rw [Jav (Jai.1 hu).1];exact hu)
     have hi:i<m:=by rw [<- h2];exact (Jai.1 hu).1
     exact e2 x (k1.val i u x (by rw [Jbl hi];exact e1) hx)
   . obtain ⟨u,e1,e2⟩:=hv (m+i) u1 (by rw [Jas (by omega),h2];simpa using hu)
     exact e2 _ (k4 i u d (by rw [Jbo];exact e1) hd)
def kx (P:Program) (f:FuncId) (vs:List T) (st:St) (K X:Kn):Prop:=
 ∀(g:G P) (w:World),Good g st w->Qw P f g vs w fun e w'=> ∃(g':G P) (st':St),Good g' st' w'/\GL g st g'/\(∀b0,Step b0 g st w g' st' w')/\
  match e with
  | .returned x=> ∃r,K r st'/\R g' r x
  | .panicked ch=> ∃v u,ch=[{v,recovered:=false}]/\X u st'/\R g' u v
  | .outgrown=>False
abbrev jV (P:Program) (Γ:Qy):Prop:= ∀f vs st K X,Γ f vs st K X->kx P f vs st K X
def Fin (n:Nat) (t:Tm) (dst:Option Tmp) (v:T) (K:Tm->St->Prop) (s:St):Prop:=
 match dst with
 | none=>K t s
 | some d=>match decide (d<n)with
  | true=>K (put t d v) s
  | false=>False
def Ys (ops:Array Oper) (g:Option (Nat×Bool)):Option (Option (Nat×Bool)):=
 match g with
 | none=>some none
 | some (j,want)=>match (ops[j]?).bind (·.dst)with
  | some d=>some (some (d,want))
  | none=>none
def yb (g:Option (Option (Nat×Bool))) (t:Tm) (A B:Tm->Prop):Prop:=
 match g with
 | some none=>A t
 | some (some (d,want))=>match get t d with
  | .bool b=>match want with
   | true=>bif b then A (put t d (.bool true))else B (put t d (.bool false))
   | false=>bif b then B (put t d (.bool true))else A (put t d (.bool false))
  | .cst (.tuple _)=>B t
  | _=>False
 | none=>False
def Qk (D:TD) (Γ:Qy) (n:Nat) (ops:Array Oper):List Oper->Tm->St->(Tm->St->Prop)->(T->Tm->St->Prop)->Prop
 | [],t,s,K,_=>K t s
 | o::r,t,s,K,X=>yb (Ys ops o.guard) t (fun t=>qd5 D Γ o.op (ev t) s (fun v s=>Fin n t o.dst v (fun t s=>Qk D Γ n ops r t s K X) s) fun v s=>X v t s) fun t=>Fin n t o.dst (.cst Go.undef) (fun t s=>Qk D Γ n ops r t s K X) s
def qpa (g:G P) (e:Ex) (e':Exit):Prop:=
 match e,e' with
 | .normal,.normal=>True
 | .exit i,.exit j=>i=j
 | .goto i,.goto j=>i=j
 | .ret,.ret=>True
 | .pan u,.panic ch=> ∃v,ch=[{v,recovered:=false}]/\R g u v
 | _,_=>False
def Z0 (n:Nat) (b0:B0) (Q:Kc) (g:G P) (st:St) (w:World) (e:Exit) (a':Act) (w':World):Prop:=
 ∃(e0:Ex) (g':G P) (t':Tm) (st':St),Q e0 t' st'/\qpa g' e0 e/\Good g' st' w'/\RelT g' n t' a'/\Step b0 g st w g' st' w'
def awp (P:Program) [Bd P] (n:Nat) (b0:B0) (c:Code) (Q:Kc) (t:Tm) (st:St):Prop:=
 ∀(ro:Option Nat),((ro=none/\Bd.strict P=false)∨zB c=true)-> ∀(g:G P) (w:World) (a:Act),Good g st w->RelT g n t a->c.wpIn (WF ro) 0 P (Z0 n b0 Q g st w) a w
def qdp (P:Program) (o:Oper) (a:Act) (g:G P) (st:St) (w:World) (K X:Kn):Prop:=
 ∀(ro:Option Nat) (K':Act->World->Prop) (Q':Exit->Act->World->Prop),
  (∀(v:T) (s':St) (x:Value) (g':G P) (w':World),K v s'->Good g' s' w'->GL g st g'->(∀b0,Step b0 g st w g' s' w')->R g' v x->K' (a.put o.dst x) w')->
  (∀(u:T) (s':St) (v:Value) (g':G P) (w':World),X u s'->Good g' s' w'->GL g st g'->(∀b0,Step b0 g st w g' s' w')->R g' u v->Q' (.panic [{v,recovered:=false}]) a w')->o.wpIn (WF ro) 0 P a w K' Q'
section
variable {P:Program} [Bd P] {D:TD} {Γ:Qy} {g g':G P} {st st':St} {w w':World} {n:Nat} {b0:B0} {t:Tm} {a:Act} {o:Oper} {K X:Kn} {Q:Kc}
theorem qwb {ro:Option Nat} {m:Nat} {f:FuncId} {args:Array Value} {w:World} {R:Ending->World->Prop} (h:Calls P f args w R):CallsIn (WF ro) m P f args w R:=
 callsIn_wide.2 h
theorem qpH {ro:Option Nat} {w:World} {K:Act->World->Prop} {Q:Exit->Act->World->Prop} (hd: ∀c,o.op≠ .defer c) (h:o.wp P a w K Q):o.wpIn (WF ro) 0 P a w K Q:=by
 refine ⟨fun _ _=>trivial, ?_⟩
 unfold Oper.wp at h;have e:o.semAt (WF ro).round a.eval=execOp a.eval o:=Oper.semAt_eq _ _ _ hd;rw [e];generalize (execOp a.eval o).run P w=r at h;cases r with
 | ok x w'=>
  cases x;case value=>exact h
  case skip=>exact h
  case defer=>exact h
  case enter f args=>exact ⟨fun hs=>Bool.noConfusion hs,qwb h⟩
  case row row args=>
   refine ⟨fun hs=>Bool.noConfusion hs,fun c cs _=> ?_⟩
   obtain ⟨v,w2,r1,r2⟩:=h c cs;exact ⟨v,w2,r1,stepsIn_wide.2 r2⟩
  all_goals exact h.elim
 | halt x w'=>cases x<;>exact h
theorem xU.toI (hd: ∀c,o.op≠ .defer c) (h:xU P o a g st w K X):qdp P o a g st w K X:=fun _ _ _ hK hX=>qpH hd (h _ _ hK hX)
theorem qv7 (hΓ:jV P Γ) (hg:Good g st w) (ht:RelT g n t a) {f:Operand} {args:Array Operand} {ts:Array TypeId} (hop:o.op= .call {callee:= .value f,args:=args,argTypes:=ts}) {fn:FuncId} {vs:List T} {fv:T} (hR:R g fv (a.eval f)) (htg:tgt fv (args.toList.map (ev t))=some (fn,vs)) (h:Γ fn vs st K X):qdp P o a g st w K X:=by
 have hvs:RL g (args.toList.map (ev t)) (args.map a.eval):=⟨by simp,fun i u x hu hx=>by
  simp only [Jax,Jbz,Ja2] at hu;obtain ⟨q,q1,rfl⟩:=hu;simp only [Array.getElem?_map,q1,Ja8,Jah] at hx;subst hx;exact ht.ev q⟩
 have hnd: ∀c,o.op≠ .defer c:=by intro c e;rw [hop] at e;cases e
 have henter: ∀xs,vT P fn=true->quiet P (callFunc fn xs)=some (.enter fn xs):=by
  intro xs he;unfold vT at he;rw [Jaq] at he;replace he:=he.2;cases hf:P.funcs[fn]? with
  | none=>simp [hf] at he
  | some fn'=>
   simp only [hf,Jaq,Bool.not_eq_true'] at he;show quiet P (Sem.program _)=_
   simp only [quiet];show quiet P (match P.funcs[fn]? with | none=>_ | some fn=>_)=_
   simp only [hf,he.1,Ja5,if_false];have:fn'.body.isNone=false:=by cases hb:fn'.body<;>simp_all
   simp [this]
 generalize hef:a.eval f=ef at hR;unfold tgt at htg;split at htg;case h_2=>cases htg
 rename_i f' as bs;have hx:=hΓ _ _ _ _ _ h g w hg;cases hR with
 | fn _ _ _ xs ys k0 k1 k2 k3 k4=>
  simp only [Jah,Jbg] at htg;obtain ⟨rfl,rfl⟩:=htg;have hy:ytab f'=none:=by simpa using k0
  unfold Qw at hx;rw [hy] at hx;obtain ⟨h1,h2⟩:=hx;refine xU.toI hnd ?_;intro K' Q' hK hX;unfold Oper.wp;have hrl:RL g (as++args.toList.map (ev t)++bs) (xs++args.map a.eval++ys):=⟨by simp [k1,k2],fun i u x hu hx=>by
   by_cases h1:i<as.length
   . rw [Jat,Jav h1] at hu;rw [Array.append_assoc,Jbi (by omega)] at hx
     exact k3 i u x hu hx
   . rw [Jat,Jas (by omega)] at hu
     rw [Array.append_assoc,Array.getElem?_append_right (by omega)] at hx
     by_cases h2:i-as.length<args.size
     . rw [Jav (by simpa using h2)] at hu
       rw [Jbi (by simp;omega)] at hx
       exact hvs.val _ u x hu (by rw [k1];exact hx)
     . rw [Jas (by simp;omega)] at hu
       rw [Array.getElem?_append_right (by simp;omega)] at hx
       exact k4 _ u x hu (by simp at hx ⊢;rw [k1];exact hx)⟩
  have hrun:(execOp a.eval o).run P w= .ok (.enter f' (xs++args.map a.eval++ys)) w:=zw (by
   simp only [execOp,hop,resolve,hef,Deferred.ofValue,invoke,qv,qM,Jaz];exact henter _ h1) w
  rw [hrun];refine (h2 _ hrl).mono fun e w1 ⟨g1,st1,k1,k2,k3,k4⟩=> ?_
  cases e with
  | returned x=>obtain ⟨r,r1,r2⟩:=k4;exact hK r st1 x g1 w1 r1 k1 k2 k3 r2
  | panicked ch=>obtain ⟨v,u,rfl,u1,u2⟩:=k4;exact hX u st1 v g1 w1 u1 k1 k2 k3 u2
  | outgrown=>exact k4.elim
 | yl _ us yi l r k1 k2 k3 k4 k5=>
  simp only [Jah,Jbg,List.nil_append] at htg;obtain ⟨rfl,rfl⟩:=htg;unfold Qw at hx;rw [k1] at hx;obtain ⟨xs,us',e1,e3,hy⟩:=hx;obtain ⟨rfl,rfl⟩:=List.append_inj' e1 (by rw [k4,e3])
  obtain ⟨s1,s2⟩:=hy _ l r hvs k2 k3 k5;intro ro K' Q' hK hX;have hrun:(execOp a.eval o).run P w= .ok (.round l r.fn ((r.params.zip (args.map a.eval)).foldl (fun t (p,v)=>t.setIfInBounds p v) r.tmps) r.assign r.body) w:=by
   have:=run_yield (P:=P) (hg.fx l r k2) s1;simp only [execOp,hop,resolve,hef,Deferred.ofValue,invoke,Sem.run_bind,Sem.run_pure,Result.andThen_ok];simpa using this
  refine ⟨fun _ _=>trivial, ?_⟩
  have e:o.semAt (WF ro).round a.eval=execOp a.eval o:=Oper.semAt_eq _ _ _ hnd;rw [e,hrun];refine ⟨fun hs=>Bool.noConfusion hs,s2.mono fun e w1 ⟨g1,st1,q1,q2,q3,q4⟩=> ?_⟩
  cases e with
  | returned x=>obtain ⟨r,r1,r2⟩:=q4;exact hK r st1 x g1 w1 r1 q1 q2 q3 r2
  | panicked ch=>obtain ⟨v,u,rfl,u1,u2⟩:=q4;exact hX u st1 v g1 w1 u1 q1 q2 q3 u2
  | outgrown=>exact q4.elim
theorem qjB {K X:Kn} (h:jT D Γ o.op (ev t) st K X): ∀c,o.op≠ .defer c:=by
 intro c e;rw [e] at h;exact h.elim
theorem yP (hD:zY P D) (hΓ:jV P Γ) (hg:Good g st w) (ht:RelT g n t a) (h:jT D Γ o.op (ev t) st K X):qdp P o a g st w K X:=by
 have hnd:=qjB h;generalize hop:o.op=op at h;unfold jT at h;split at h
 . exact (qwF hg ht (.inl hop) h).toI hnd
 . exact (qwF hg ht (.inr hop) h).toI hnd
 . rename_i c x y;split at h;case h_2=>exact h.elim
   rename_i b hb;have e1:=ht.ev x;have e2:=ht.ev y;unfold qqk at h;split at h
   . rename_i p q hp hq;refine xU.toI hnd (YX hg ht hop hb (v:= .bool (bif b then p else q)) ?_ h)
     rw [hp] at e1;rw [hq] at e2;cases b
     . exact e2
     . exact e1
   . cases b
     . exact (YX hg ht hop hb e2 h).toI hnd
     . exact (YX hg ht hop hb e1 h).toI hnd
 . split at h;case h_2=>exact h.elim
   rename_i ti hti;split at h;case h_2=>exact h.elim
   rename_i z hz;exact (qJk hD hg hop hti hz h).toI hnd
 . split at h;case h_2=>exact h.elim
   rename_i z hz;exact (qbr hg ht hop hz h).toI hnd
 . exact (qKX hD hg ht hop h).toI hnd
 . split at h
   . exact (qwP hg hop h).toI hnd
   . split at h;case h_2=>exact h.elim
     exact (qjR hg hop h).toI hnd
 . split at h
   . exact (qk3 hD hg ht hop h).toI hnd
   . exact (qwu hD hg ht hop h).toI hnd
 . split at h
   . exact (ZV hD hg ht (.inl hop) h).toI hnd
   . exact (Ql hD hg ht (.inl hop) h).toI hnd
 . split at h
   . exact (ZV hD hg ht (.inr hop) h).toI hnd
   . exact (Ql hD hg ht (.inr hop) h).toI hnd
 . exact (qXj hD hg ht hop h).toI hnd
 . exact (qZ7 hg ht hop h).toI hnd
 . exact (qzt hD hg ht hop h).toI hnd
 . exact (YU hD hg ht hop h).toI hnd
 . split at h;case h_2=>exact h.elim
   rename_i ti hti;exact (qaY hD hg ht hop hti h).toI hnd
 . split at h;case h_2=>exact h.elim
   rename_i ti hti;exact (qXH hD hg ht hop hti h).toI hnd
 . rename_i x;have hR:=ht.ev x;generalize hv:ev t x=v at hR h;generalize he:a.eval x=ex at hR;split at h;case h_5=>exact h.elim
   all_goals
    have hR':=hR;cases hR<;>exact (qk hg (by simp only [execOp,hop,he];rfl) hR' h).toI hnd
 . rename_i op' T0 x y U;split at h;case h_2=>exact h.elim
   rename_i ti hti;split at h
   . exact (qyS hD hg ht hop hti rfl h).toI hnd
   . exact (qJj hD hg ht hop hti rfl h).toI hnd
   . exact (qcJ hD hg ht hop hti h).toI hnd
 . exact (qoo hg ht hop h).toI hnd
 . exact (qaP hD hg ht hop h).toI hnd
 . split at h;case h_2=>exact h.elim
   rename_i ti hti;split at h;case h_2=>exact h.elim
   rename_i hc;exact (qkC hD hg ht hop hti hc h).toI hnd
 . split at h;case h_2=>exact h.elim
   rename_i t0 v hv;exact (qXb hg ht hop hv h).toI hnd
 . split at h
   . rename_i hy;exact (qjU hg ht hy hop h).toI hnd
   . exact h.elim
 . rename_i T0 x lo hi mx;split at h;case h_2=>exact h.elim
   rename_i ti hti;exact (qJr hD hg ht hop hti h).toI hnd
 . exact (qqG hD hg ht hop h).toI hnd
 . exact (qJz hD hg ht hop h).toI hnd
 . exact (qqN hD hg ht hop h).toI hnd
 . exact (qXd hD hg ht hop h).toI hnd
 . split at h;case h_2=>exact h.elim
   rename_i vs hvs;split at h;case h_2=>exact h.elim
   rename_i v hv;exact (qwI hg ht hop hvs hv h).toI hnd
 . exact (qwd hD hg ht hop h).toI hnd
 . rename_i f args ts;split at h
   . rename_i x hx;rw [JZ] at h;have hR:=ht.ev f;have hv:ev t f= .fd x:=by
      generalize ev t f=v at hx;cases v<;>simp only [fdV,reduceCtorEq,Jah] at hx
      subst hx;rfl
     rw [hv] at hR;refine qv7 hΓ hg ht hop (qCV hR) (vs:=args.toList.map (ev t)++qZK (fdOf x).2) ?_ h;unfold fdT;generalize fdOf x=p;obtain ⟨f0,o0⟩:=p;cases o0 with
     | none=>simp [qaE,tgt,qZK]
     | some q=>obtain ⟨e,c⟩:=q;simp [qaE,tgt,qZK]
   . split at h;case h_2=>exact h.elim
     rename_i fn vs htg;exact qv7 hΓ hg ht hop (ht.ev f) htg h
 . exact h.elim
theorem kF (hD:zY P D) (hΓ:jV P Γ) (hg:Good g st w) (ht:RelT g n t a) (h:qd5 D Γ o.op (ev t) st K X):qdp P o a g st w K X:=by
 unfold qd5 at h;split at h
 . rename_i x hop;exact (qY8 hg ht hop h).toI fun c e=>by rw [hop] at e;cases e
 . rename_i t0 hop;split at h
   . exact (qkW hD hg hop h).toI fun c e=>by rw [hop] at e;cases e
   . rw [<- hop] at h;exact yP hD hΓ hg ht h
 . rename_i t0 parts hop;split at h
   . exact (qku hD hg ht hop h).toI fun c e=>by rw [hop] at e;cases e
   . rw [<- hop] at h;exact yP hD hΓ hg ht h
 . exact yP hD hΓ hg ht h
theorem RelT.fin {K:Tm->St->Prop} {v:T} {x:Value} {st0:St} (ht:RelT g n t a) (hx:R g v x) (h:Fin n t o.dst v K st0): ∃t',K t' st0/\RelT g n t' (a.put o.dst x):=by
 unfold Fin at h;cases hd:o.dst with
 | none=>rw [hd] at h;exact ⟨t,h,ht⟩
 | some d=>
  rw [hd] at h;simp only at h;split at h
  . rename_i hlt;exact ⟨_,h,ht.put (Jac hlt) hx⟩
  . exact h.elim
theorem RelT.know (ht:RelT g n t a) {d:Nat} {b:Bool} (h:get t d= .bool b):RelT g n (Go.Proofs.YtbglndogddddoaaGreatDoor.put t d (.bool b)) a:=
 ⟨ht.size,ht.defers,ht.once,fun i=>by
  rw [yj];by_cases e:i=d
  . subst e;rw [if_pos rfl, <- h];exact ht.val i
  . rw [if_neg e];exact ht.val i⟩
theorem qZ9 {ops:Array Oper} {j d:Nat} {want:Bool} (hd:(ops[j]?).bind (·.dst)=some d) (hgd:o.guard=some (j,want)):Region.wanted o (yielded ops a.tmps)=(match a.tmps[d]? with | some (.bool b)=>(b==want) | _=>false):=by
 unfold Region.wanted yielded;simp only [hgd,hd,Jaz];cases a.tmps[d]? with
 | none=>rfl
 | some x=>cases x<;>first | rfl | (rename_i b;cases b<;>cases want<;>rfl)
theorem xL {ops:Array Oper} {A B:Tm->Prop} (ht:RelT g n t a) (h:yb (Ys ops o.guard) t A B):(∃t',RelT g n t' a/\A t'/\Region.wanted o (yielded ops a.tmps)=true)∨(∃t',RelT g n t' a/\B t'/\Region.wanted o (yielded ops a.tmps)=false):=by
 unfold Ys at h;cases hgd:o.guard with
 | none=>
  rw [hgd] at h;exact .inl ⟨t,ht,h,by simp [Region.wanted,hgd]⟩
 | some p=>
  obtain ⟨j,want⟩:=p;rw [hgd] at h;simp only at h;cases hd:(ops[j]?).bind (·.dst)with
  | none=>rw [hd] at h;exact h.elim
  | some d=>
   rw [hd] at h;simp only [yb] at h;have hv:=ht.val d;have hw:=qZ9 (a:=a) hd hgd;have hk:=fun b=>ht.know (d:=d) (b:=b)
   simp only [Jbb] at hv;cases hx:a.tmps[d]? with
   | none=>
    rw [hx] at hv hw;simp only [Option.getD_none] at hv;generalize hgt:get t d=gv at hv h hk;simp only [Go.undef] at hv;split at h
    . cases hv
    . exact .inr ⟨t,ht,h,hw⟩
    . exact h.elim
   | some x=>
    rw [hx] at hv hw;simp only [Option.getD_some] at hv;generalize hgt:get t d=gv at hv h hk;split at h
    . rename_i b;cases hv;cases want<;>cases b<;>simp only [Jae,Jaf] at h
      . exact .inl ⟨_,hk false rfl,h,hw⟩
      . exact .inr ⟨_,hk true rfl,h,hw⟩
      . exact .inr ⟨_,hk false rfl,h,hw⟩
      . exact .inl ⟨_,hk true rfl,h,hw⟩
    . cases hv;exact .inr ⟨t,ht,h,hw⟩
    . exact h.elim
theorem Z0.trans {e:Exit} {a':Act} {w'':World} (hs:Step b0 g st w g' st' w') (h:Z0 n b0 Q g' st' w' e a' w''):Z0 n b0 Q g st w e a' w'':=by
 obtain ⟨e0,g2,t2,st2,h1,h2,h3,h4,h5⟩:=h;exact ⟨e0,g2,t2,st2,h1,h2,h3,h4,hs.trans h5⟩
theorem Zs (hD:zY P D) (hΓ:jV P Γ) {ro:Option Nat} {ops:Array Oper} {Q':Exit->Act->World->Prop}: ∀(l:List Oper) (g:G P) (st:St) (w:World) (t:Tm) (a:Act),Good g st w->RelT g n t a->Qk D Γ n ops l t st (Q .normal) (fun v=>Q (.pan v))->
  (∀e a' w',Z0 n b0 Q g st w e a' w'->Q' e a' w')->wpListIn (WF ro) 0 P ops Q' l a w
 | [],g,st,w,t,a,hg,ht,h,hq=>hq _ _ _ ⟨.normal,g,t,st,h,trivial,hg,ht,Step.refl⟩
 | o::r,g,st,w,t,a,hg,ht,h,hq=>by
  unfold Qk at h;unfold wpListIn;rcases xL ht h with ⟨t1,ht1,h,hw⟩ | ⟨t1,ht1,h,hw⟩
  . rw [if_pos hw];refine kF hD hΓ hg ht1 h ro _ _ (fun v s' x g' w' hk g1 l1 s1 r1=> ?_) (fun u s' v g' w' hx g1 l1 s1 r1=>hq _ _ _ ⟨.pan u,g',t1,s',hx,⟨v,rfl,r1⟩,g1,ht1.mono l1.le,s1 b0⟩)
    obtain ⟨t2,k1,k2⟩:=(ht1.mono l1.le).fin r1 hk;exact Zs hD hΓ r g' s' w' t2 _ g1 k2 k1 fun e a' w' hl=>hq e a' w' (hl.trans (s1 b0))
  . rw [if_neg (by rw [hw];simp)]
    obtain ⟨t2,k1,k2⟩:=ht1.fin (o:=o) (R.cst Go.undef) h;exact ⟨fun _ _=>trivial,Zs hD hΓ r g st w t2 _ hg k2 k1 hq⟩
theorem Yf {c:Code} {Q':Kc} (h:awp P n b0 c Q t st) (hq: ∀e t st,Q e t st->Q' e t st):awp P n b0 c Q' t st:=
 fun ro hro g w a hg ht=>wpIn_mono (h ro hro g w a hg ht) fun _ _ _ ⟨e0,g',t',st',h1,h2⟩=>⟨e0,g',t',st',hq _ _ _ h1,h2⟩
theorem qyB (hD:zY P D) (hΓ:jV P Γ) {id:Nat} {ops:Array Oper} (h:Qk D Γ n ops ops.toList t st (Q .normal) (fun v=>Q (.pan v))):awp P n b0 (.region id ops false) Q t st:=
 fun ro hro g w a hg ht=>by
  have:=wpIn_region_lit (F:=WF ro) (n:=0) (P:=P) (id:=id) (l:=ops.toList) (Q:=Z0 n b0 Q g st w) (Zs hD hΓ (ops:=ops.toList.toArray) ops.toList g st w t a hg ht (by simpa using h) fun _ _ _ hl=>hl)
  simpa using this
def vr (D:Tm->St->Prop) (Q:Kc):Kc
 | .normal,t,s=>D t s
 | e,t,s=>Q e t s
def qyr (id:Nat) (Q:Kc):Kc
 | .exit i,t,s=>match decide (i=id)with
  | true=>Q .normal t s
  | false=>Q (.exit i) t s
 | e,t,s=>Q e t s
theorem qfW {x y:Code} (h:awp P n b0 x (vr (awp P n b0 y Q) Q) t st):awp P n b0 (.seq x y) Q t st:=by
 intro ro hro g w a hg ht;refine wpIn_seq (wpIn_mono (h ro (hro.imp id fun e=>(by simp only [zB,Jaq] at e;exact e.1)) g w a hg ht) fun e a' w' hl=> ?_)
 obtain ⟨e0,g',t',st',h1,h2,h3,h4,h5⟩:=hl;cases e0<;>cases e<;>first
  | (exact h2.elim)
  | (exact wpIn_mono (h1 ro (hro.imp id fun e=>(by simp only [zB,Jaq] at e;exact e.2)) g' w' a' h3 h4) fun e a'' w'' hl=>hl.trans h5)
  | (exact ⟨_,g',t',st',h1,h2,h3,h4,h5⟩)
theorem qWZ (h:Q .normal t st):awp P n b0 .skip Q t st:=fun ro hro g w a hg ht=>wpIn_skip ⟨.normal,g,t,st,h,trivial,hg,ht,Step.refl⟩
theorem qcr (h:Q .ret t st):awp P n b0 .ret Q t st:=fun ro hro g w a hg ht=>wpIn_ret ⟨.ret,g,t,st,h,trivial,hg,ht,Step.refl⟩
theorem qVc {id:Nat} (h:Q (.exit id) t st):awp P n b0 (.exit id) Q t st:=fun ro hro g w a hg ht=>wpIn_exit ⟨.exit id,g,t,st,h,rfl,hg,ht,Step.refl⟩
theorem qXi {id:Nat} (h:Q .normal t st):awp P n b0 (.label id) Q t st:=fun ro hro g w a hg ht=>wpIn_label ⟨.normal,g,t,st,h,trivial,hg,ht,Step.refl⟩
theorem qJ5 {id:Nat} {c:Code} (h:awp P n b0 c (qyr id Q) t st):awp P n b0 (.block id c) Q t st:=by
 intro ro hro g w a hg ht;refine wpIn_block (wpIn_mono (h ro hro g w a hg ht) fun e a' w' hl=> ?_)
 obtain ⟨e0,g',t',st',h1,h2,h3,h4,h5⟩:=hl;cases e0<;>cases e<;>first
  | (exact h2.elim)
  | (exact ⟨_,g',t',st',h1,h2,h3,h4,h5⟩)
  | skip
 rename_i i j;simp only [qpa] at h2;subst h2;simp only [qyr] at h1;simp only [Exit.inBlock];by_cases e:i=id
 . rw [if_pos e];rw [Jaa e] at h1;exact ⟨.normal,g',t',st',h1,trivial,h3,h4,h5⟩
 . rw [if_neg e];rw [Jab e] at h1;exact ⟨.exit i,g',t',st',h1,rfl,h3,h4,h5⟩
def qQG (t:Tm) (c:Operand) (A B:Tm->Prop):Prop:=
 match ev t c with
 | .bool b=>match c with
  | .tmp d=>bif b then A (put t d (.bool true))else B (put t d (.bool false))
  | _=>bif b then A t else B t
 | .ub=>A t/\B t
 | _=>False
theorem qX5 {c:Operand} {x y:Code} (h:qQG t c (fun t=>awp P n b0 x Q t st) (fun t=>awp P n b0 y Q t st)):awp P n b0 (.cond c x y) Q t st:=by
 intro ro hro g w a hg ht;have hA:(ro=none/\Bd.strict P=false)∨zB x=true:=hro.imp id fun e=>(by simp only [zB,Jaq] at e;exact e.1)
 have hB:(ro=none/\Bd.strict P=false)∨zB y=true:=hro.imp id fun e=>(by simp only [zB,Jaq] at e;exact e.2)
 have hR:=ht.ev c;unfold qQG at h;generalize hv:ev t c=v at hR h;generalize he:a.eval c=ec at hR;split at h
 . rename_i b;cases hR;split at h
   . rename_i d;have hk:=ht.know hv;refine wpIn_cond_split he (fun e=> ?_) (fun e=> ?_)
     . subst e;exact h ro hA g w a hg hk
     . subst e;exact h ro hB g w a hg hk
   . refine wpIn_cond_split he (fun e=> ?_) (fun e=> ?_)
     . subst e;exact h ro hA g w a hg ht
     . subst e;exact h ro hB g w a hg ht
 . cases hR;exact wpIn_cond_split he (fun _=>h.1 ro hA g w a hg ht) (fun _=>h.2 ro hB g w a hg ht)
 . exact h.elim
end
end
section
open Go.RowKit
def qWG:Builtin->Bool
 | .append=>true
 | .clear=>true
 | .copy=>true
 | _=>false
def qvz (mu:FuncId->Bool) (op:Op) (ρ:Operand->T):Bool:=
 match op with
 | .store .. =>true
 | .mapUpdate .. =>true
 | .insert .. =>true
 | .call {callee:= .builtin b,args:=_,argTypes:=_}=>qWG b
 | .call {callee:= .value f,args:=args,argTypes:=_}=>match fdV (ρ f)with
  | some x=>mu (fdOf x).1
  | none=>match tgt (ρ f) (args.toList.map ρ)with
   | some (g,_)=>mu g
   | none=>false
 | _=>false
def Det (w:Bool) (s:St) (F:(T->St->Prop)->Prop) (K:Kn):Prop:=
 ∃v s',K v s'/\(∀K':Kn,K' v s'->F K')/\(s'=s∨(∃o,s'=s++[some o])∨(w=true/\s'.length=s.length))
abbrev wl (mu:FuncId->Bool) (Γ:Qy):Prop:= ∀f vs s K,Γ f vs s K (fun _ _=>False)->Det (mu f) s (fun K=>Γ f vs s K fun _ _=>False) K
theorem Det.same {w:Bool} {s:St} {F:(T->St->Prop)->Prop} {K:Kn} {v:T} (h:K v s) (hF: ∀K':Kn,K' v s->F K'):Det w s F K:=⟨v,s,h,hF,.inl rfl⟩
theorem Det.new {w:Bool} {s:St} {F:(T->St->Prop)->Prop} {K:Kn} {v:T} {o:Ob} (h:K v (s++[some o])) (hF: ∀K':Kn,K' v (s++[some o])->F K'):Det w s F K:=⟨v,_,h,hF,.inr (.inl ⟨o,rfl⟩)⟩
theorem Det.upd {s:St} {F:(T->St->Prop)->Prop} {K:Kn} {v:T} {k:Nat} {o:Ob} (h:K v (s.set k (some o))) (hF: ∀K':Kn,K' v (s.set k (some o))->F K'):Det true s F K:=⟨v,_,h,hF,.inr (.inr ⟨rfl,by simp⟩)⟩
def xf (F:(T->Prop)->Prop) (K:T->Prop):Prop:= ∃v,K v/\ ∀K':T->Prop,K' v->F K'
theorem xf.mk {F:(T->Prop)->Prop} {K:T->Prop} {v:T} (h:K v) (hF: ∀K':T->Prop,K' v->F K'):xf F K:=⟨v,h,hF⟩
theorem xf.lift {w:Bool} {s:St} {F:(T->Prop)->Prop} {K:Kn} (h:xf F fun v=>K v s):Det w s (fun K=>F fun v=>K v s) K:=by
 obtain ⟨v,h1,h2⟩:=h;exact Det.same h1 fun K' h'=>h2 (fun v=>K' v s) h'
section
variable {D:TD} {K:T->Prop}
theorem wB {agg:Bool} {size:Nat} {cs:List T} {off:Nat} (h:jS agg size cs off K):xf (jS agg size cs off) K:=by
 unfold jS at h;cases agg with
 | true=>
  simp only at h;split at h
  . rename_i hd;exact .mk h fun K' h'=>by simp only [jS,hd];exact h'
  . exact h.elim
 | false=>
  simp only at h;split at h
  . rename_i u hu;exact .mk h fun K' h'=>by simp only [jS,hu];exact h'
  . exact h.elim
theorem qYM {ti:TI} {s:St} {a:T} (h:Qd ti s a K):xf (Qd ti s a) K:=by
 unfold Qd at h;split at h
 . split at h
   . rename_i cs hr;split at h;case h_2=>exact h.elim
     rename_i hm;obtain ⟨v,h1,h2⟩:=wB h;exact .mk h1 fun K' h'=>by simp only [Qd,hr,hm];exact h2 K' h'
   . exact h.elim
 . obtain ⟨v,h1,h2⟩:=wB h;exact .mk h1 fun K' h'=>h2 K' h'
 . split at h
   . rename_i l hl;split at h
     . rename_i hb;split at h;case h_2=>exact h.elim
       rename_i hag;exact .mk h.2 fun K' h'=>by simp only [Qd,hl,hb,hag];exact ⟨h.1,h'⟩
     rename_i hb;obtain ⟨x,hx,h⟩:=h;obtain ⟨v,h1,h2⟩:=wB h;exact .mk h1 fun K' h'=>by simp only [Qd,hl,hb];exact ⟨x,hx,h2 K' h'⟩
   . exact h.elim
 . exact h.elim
theorem wX {v:T} {K:Int->Prop} (h:asInt v K): ∃n,K n/\ ∀K':Int->Prop,K' n->asInt v K':=by
 obtain ⟨k,n,rfl,h⟩:=xe h;exact ⟨n,h,fun _ h=>h⟩
theorem zG {v:Option T} {d:Int} {K:Int->Prop} (h:xl v d K): ∃n,K n/\ ∀K':Int->Prop,K' n->xl v d K':=by
 cases v with
 | none=>exact ⟨d,h,fun _ h=>h⟩
 | some v=>exact wX h
theorem qyC {e0:El} {s:St} {x:T} {lo hi mx:Option T} (h:vI e0 s x lo hi mx K):xf (vI e0 s x lo hi mx) K:=by
 unfold vI at h;split at h
 . split at h
   . split at h
     . split at h;case isFalse=>exact h.elim
       rename_i he;obtain ⟨m,h,k1⟩:=wX h;obtain ⟨l,h,k2⟩:=zG h;obtain ⟨r,h,k3⟩:=wX h;obtain ⟨q0,q1,q2,q3,h⟩:=h;exact .mk h fun K' h'=>by simp only [vI,he,if_true];exact k1 _ (k2 _ (k3 _ ⟨q0,q1,q2,q3,h'⟩))
     . obtain ⟨m,h,k1⟩:=wX h;obtain ⟨l,h,k2⟩:=zG h;obtain ⟨r,h,k3⟩:=wX h;obtain ⟨q0,q1,q2,h⟩:=h;exact .mk h fun K' h'=>k1 _ (k2 _ (k3 _ ⟨q0,q1,q2,h'⟩))
     . exact h.elim
   . exact h.elim
 . split at h
   . split at h;case isFalse=>exact h.elim
     rename_i full e1 xs he;split at h
     . obtain ⟨r,h,k3⟩:=wX h;obtain ⟨l,h,k2⟩:=zG h;obtain ⟨q0,q1,q2,h⟩:=h;split at h
       . cases hd:decide (r=(xs.length:Int))
         . rw [hd,Jaf] at h;exact .mk h fun K' h'=>by simp only [vI,he,if_true];exact k3 _ (k2 _ ⟨q0,q1,q2,by rw [hd,Jaf];exact h'⟩)
         . rw [hd,Jae] at h;exact .mk h fun K' h'=>by simp only [vI,he,if_true];exact k3 _ (k2 _ ⟨q0,q1,q2,by rw [hd,Jae];exact h'⟩)
       . exact .mk h fun K' h'=>by simp only [vI,he,if_true];exact k3 _ (k2 _ ⟨q0,q1,q2,h'⟩)
     . obtain ⟨l,h,k2⟩:=zG h;obtain ⟨q0,q1,h⟩:=h;exact .mk h fun K' h'=>by simp only [vI,he,if_true];exact k2 _ ⟨q0,q1,h'⟩
   . obtain ⟨r,h,k3⟩:=zG h;obtain ⟨l,h,k2⟩:=zG h;obtain ⟨q0,q1,h⟩:=h;exact .mk h fun K' h'=>k3 _ (k2 _ ⟨q0,q1,h'⟩)
   . split at h;case isFalse=>exact h.elim
     rename_i he;split at h
     . rename_i xs hl;obtain ⟨r,h,k3⟩:=zG h;obtain ⟨l,h,k2⟩:=zG h;obtain ⟨q0,q1,q2,h⟩:=h;exact .mk h fun K' h'=>by simp only [vI,he,if_true,hl];exact k3 _ (k2 _ ⟨q0,q1,q2,h'⟩)
     . exact h.elim
   . split at h;case isFalse=>exact h.elim
     rename_i he;split at h;case h_2=>exact h.elim
     rename_i xs hl;obtain ⟨r,h,k3⟩:=zG h;obtain ⟨l,h,k2⟩:=zG h;obtain ⟨q0,q1,q2,h⟩:=h;exact .mk h fun K' h'=>by simp only [vI,he,if_true,hl];exact k3 _ (k2 _ ⟨q0,q1,q2,h'⟩)
   . exact h.elim
theorem qbV {ti:TI} {t:TypeId} {s:St} {x:T} {lo hi mx:Option T} (h:dsl D ti t s x lo hi mx K):xf (dsl D ti t s x lo hi mx) K:=by
 unfold dsl at h;split at h
 . rename_i hs;split at h
   . rename_i b;obtain ⟨r,h,k3⟩:=zG h;obtain ⟨l,h,k2⟩:=zG h;obtain ⟨q0,q1,q2,h⟩:=h;exact .mk h fun K' h'=>by simp only [dsl,hs];exact k3 _ (k2 _ ⟨q0,q1,q2,h'⟩)
   . exact h.elim
 . rename_i e hs;split at h
   . rename_i e0 he;obtain ⟨v,h1,h2⟩:=qyC h;exact .mk h1 fun K' h'=>by simp only [dsl,hs,he];exact h2 K' h'
   . exact h.elim
 . rename_i n e hs;split at h;case h_2=>exact h.elim
   rename_i ht;exact .mk h fun K' h'=>by simp only [dsl,hs,ht];exact h'
 . exact h.elim
theorem qxG {op:BinOp} {n:Nat} (h:V0 op n K):xf (V0 op n) K:=by
 unfold V0 at h;split at h
 . by_cases e:n=0
   . simp only [e,decide_true,Jae] at h;exact .mk h fun K' h'=>by simp only [V0,e,decide_true,Jae];exact h'
   . simp only [e,decide_false,Jaf] at h;exact .mk h fun K' h'=>by simp only [V0,e,decide_false,Jaf];exact h'
 . by_cases e:n=0
   . simp only [e,decide_true,Jae] at h;exact .mk h fun K' h'=>by simp only [V0,e,decide_true,Jae];exact h'
   . simp only [e,decide_false,Jaf] at h;exact .mk h fun K' h'=>by simp only [V0,e,decide_false,Jaf];exact h'
 . exact h.elim
theorem qye {op:BinOp} {ti:TI} {s:St} {x:T} (h:wq op ti s x K):xf (wq op ti s x) K:=by
 unfold wq at h;split at h;case h_2=>exact h.elim
 rename_i e hs;split at h
 . obtain ⟨v,h1,h2⟩:=qxG h;exact .mk h1 fun K' h'=>by simp only [wq,hs];exact h2 K' h'
 . obtain ⟨v,h1,h2⟩:=qxG h;exact .mk h1 fun K' h'=>by simp only [wq,hs];exact h2 K' h'
 . split at h
   . rename_i l hl;obtain ⟨v,h1,h2⟩:=qxG h;exact .mk h1 fun K' h'=>by simp only [wq,hs,hl];exact h2 K' h'
   . exact h.elim
 . exact h.elim
theorem qgA {op:BinOp} {ti:TI} {x y:T} (h:X4 op ti x y K):xf (X4 op ti x y) K:=by
 unfold X4 at h;split at h
 . rename_i k p k' q;split at h
   . exact .mk h.2 fun K' h'=>⟨h.1,h'⟩
   . exact .mk h.2 fun K' h'=>⟨h.1,h'⟩
   . rename_i hs1 hs2;split at h;case h_2=>exact h.elim
     rename_i hk;cases op;case shl=>exact absurd rfl hs1
     case shr=>exact absurd rfl hs2
     case quo=>exact .mk h.2 fun K' h'=>by simp only [X4,hk];exact ⟨h.1,h'⟩
     case rem=>exact .mk h.2 fun K' h'=>by simp only [X4,hk];exact ⟨h.1,h'⟩
     all_goals exact .mk h fun K' h'=>by simp only [X4,hk];exact h'
 . split at h
   . rename_i hs;exact .mk h fun K' h'=>by simp only [X4,hs];exact h'
   . rename_i hs;exact .mk h fun K' h'=>by simp only [X4,hs];exact h'
   . exact h.elim
 . split at h
   . exact .mk h.2 fun K' h'=>⟨h.1,h'⟩
   . exact .mk h fun K' h'=>h'
   . exact .mk h fun K' h'=>h'
   . exact .mk h fun K' h'=>h'
   . exact .mk h fun K' h'=>h'
   . exact .mk h fun K' h'=>h'
   . exact .mk h fun K' h'=>h'
   . exact h.elim
 . split at h
   . rename_i n b hn hb;split at h
     . rename_i hl;exact .mk h fun K' h'=>by simp only [X4,hn,hb,hl];exact h'
     . exact h.elim
   . rename_i n b hn hb;split at h
     . rename_i hl;exact .mk h fun K' h'=>by simp only [X4,hn,hb,hl];exact h'
     . exact h.elim
   . exact h.elim
 . exact h.elim
theorem qom {op:UnOp} {x:T} (h:dun op x K):xf (dun op x) K:=by
 unfold dun at h;split at h
 . exact .mk h fun K' h'=>h'
 . exact .mk h fun K' h'=>h'
 . exact .mk h fun K' h'=>h'
 . exact h.elim
theorem qqA {t:TypeId} {x:T} {f:Nat} (h:jo D t x f K):xf (jo D t x f) K:=by
 unfold jo at h;split at h;case h_2=>exact h.elim
 rename_i off te hf;split at h
 . exact h.elim
 rename_i m hm;split at h
 . exact .mk h fun K' h'=>by simp only [jo,hf,hm];exact h'
 . exact .mk h fun K' h'=>by simp only [jo,hf,hm];exact h'
 . exact .mk h fun K' h'=>by simp only [jo,hf,hm];exact h'
 . exact h.elim
theorem qJt {t:TypeId} {x:T} {f:Nat} (h:Z2 D t x f K):xf (Z2 D t x f) K:=by
 unfold Z2 at h;split at h;case h_2=>exact h.elim
 rename_i off te hf;split at h
 . obtain ⟨v,h1,h2⟩:=wB h;exact .mk h1 fun K' h'=>by simp only [Z2,hf];exact h2 K' h'
 . exact h.elim
theorem qqM {t:TypeId} {s:St} {x i:T} (h:zT D t s x i K):xf (zT D t s x i) K:=by
 unfold zT at h;split at h;case h_2=>exact h.elim
 split at h
 . split at h;case isFalse=>exact h.elim
   rename_i hk;obtain ⟨h0,u,hu,h⟩:=h;exact .mk h fun K' h'=>by simp only [zT,hk,if_true];exact ⟨h0,u,hu,h'⟩
 . split at h;case isFalse=>exact h.elim
   rename_i hk;split at h;case h_2=>exact h.elim
   rename_i l hl;exact .mk h.2.2 fun K' h'=>by simp only [zT,hk,if_true,hl];exact ⟨h.1,h.2.1,h'⟩
 . split at h;case isFalse=>exact h.elim
   rename_i hk;split at h;case h_2=>exact h.elim
   rename_i l hl;exact .mk h.2.2 fun K' h'=>by simp only [zT,hk,if_true,hl];exact ⟨h.1,h.2.1,h'⟩
 . split at h;case h_2=>exact h.elim
   rename_i ti hti;split at h;case h_2=>exact h.elim
   rename_i m e hs;split at h;case h_2=>exact h.elim
   rename_i te hte;exact .mk h.2.2 fun K' h'=>by simp only [zT,hti,hs,hte];exact ⟨h.1,h.2.1,h'⟩
 . split at h;case h_2=>exact h.elim
   rename_i ti hti;split at h;case h_2=>exact h.elim
   rename_i m e hs;split at h;case h_2=>exact h.elim
   rename_i te hte;split at h;case h_2=>exact h.elim
   rename_i e' hel;split at h;case isFalse=>exact h.elim
   rename_i hee;exact .mk h.2.2 fun K' h'=>by simp only [zT,hti,hs,hte,hel,hee,if_true];exact ⟨h.1,h.2.1,h'⟩
 . exact h.elim
theorem qXD {t:TypeId} {x i:T} (h:yd D t x i K):xf (yd D t x i) K:=by
 unfold yd at h;split at h;case h_2=>exact h.elim
 split at h;case h_2=>exact h.elim
 rename_i ti hti;split at h
 . rename_i s hs;obtain ⟨h0,b,hb,h⟩:=h;exact .mk h fun K' h'=>by simp only [yd,hti,hs];exact ⟨h0,b,hb,h'⟩
 . rename_i m e cs hs;split at h;case h_2=>exact h.elim
   rename_i te hte;split at h
   . rename_i l hl;obtain ⟨h0,hlt,s,hs',hK⟩:=h;exact .mk hK fun K' h'=>by simp only [yd,hti,hs,hte,hl];exact ⟨h0,hlt,s,hs',h'⟩
   . rename_i hl;split at h
     . rename_i l hi;obtain ⟨h0,hlt,s,hs',hK⟩:=h;exact .mk hK fun K' h'=>by simp only [yd,hti,hs,hte,hl,hi];exact ⟨h0,hlt,s,hs',h'⟩
     . rename_i hi;obtain ⟨v,h1,h2⟩:=wB h.2.2;exact .mk h1 fun K' h'=>by simp only [yd,hti,hs,hte,hl,hi];exact ⟨h.1,h.2.1,h2 K' h'⟩
 . exact h.elim
theorem qXt {t:TypeId} {ps:List (Nat×T)} (h:yK D t ps K):xf (yK D t ps) K:=by
 unfold yK at h;split at h;case h_2=>exact h.elim
 rename_i ti hti;split at h;case h_2=>exact h.elim
 rename_i z pl hag hz hpl;split at h;case h_2=>exact h.elim
 rename_i cs hcs;exact .mk h fun K' h'=>by simp only [yK,hti,hag,hz,hpl,hcs];exact h'
theorem KV {t:TypeId} {len:Nat} {ps:List (Nat×T)} (h:ji D t len ps K):xf (ji D t len ps) K:=by
 unfold ji at h;split at h
 . split at h;case h_2=>exact h.elim
   rename_i hti;split at h;case h_2=>exact h.elim
   rename_i hs;exact .mk h fun K' h'=>by simp only [ji,hti,hs];exact h'
 . split at h;case h_2=>exact h.elim
   rename_i ti hti;split at h;case h_2=>exact h.elim
   rename_i te' hs;split at h;case h_2=>exact h.elim
   rename_i te hte;split at h;case h_2=>exact h.elim
   rename_i z e hz he;split at h;case h_2=>exact h.elim
   rename_i hle;split at h;case h_2=>exact h.elim
   rename_i cs hcs;split at h;case h_2=>exact h.elim
   rename_i l hl;exact .mk h fun K' h'=>by simp only [ji,hti,hs,hte,hz,he,hle,hcs,hl];exact h'
theorem qXw {s:St} {e:El} {v:T} {K:List (ty e)->Prop} (h:xE s e v K): ∃l,K l/\ ∀K':List (ty e)->Prop,K' l->xE s e v K':=by
 unfold xE at h;split at h
 . exact ⟨_,h,fun _ h=>h⟩
 . split at h;case isFalse=>exact h.elim
   rename_i he;exact ⟨_,h,fun K' h'=>by simp only [xE,he];exact h'⟩
 . split at h;case isFalse=>exact h.elim
   rename_i he;split at h;case h_2=>exact h.elim
   rename_i l hl;exact ⟨_,h,fun K' h'=>by simp only [xE,he,if_true,hl];exact h'⟩
 . split at h;case isFalse=>exact h.elim
   rename_i he;split at h;case h_2=>exact h.elim
   rename_i l hl;exact ⟨_,h,fun K' h'=>by simp only [xE,he,if_true,hl];exact h'⟩
 . exact h.elim
theorem QY {ti:TI} {e:El} {s:St} {x:T} {m:List (ty e)} {K:Kn} (h:je ti e s x m K):Det true s (je ti e s x m) K:=by
 unfold je at h;split at h
 . exact .new h.2 fun K' h'=>⟨h.1,h'⟩
 . split at h;case isFalse=>exact h.elim
   rename_i he';exact .new h.2.2 fun K' h'=>by simp only [je,he'];exact ⟨h.1,h.2.1,h'⟩
 . split at h;case isFalse=>exact h.elim
   rename_i he';split at h;case h_2=>exact h.elim
   rename_i l hl;exact .upd h.2 fun K' h'=>by simp only [je,he',if_true,hl];exact ⟨h.1,h'⟩
 . exact h.elim
theorem qkm {ti:TI} {s:St} {x y:T} {K:Kn} (h:kf ti s x y K):Det true s (kf ti s x y) K:=by
 unfold kf at h;split at h;case h_2=>exact h.elim
 rename_i e he;obtain ⟨m,h,k1⟩:=qXw h;obtain ⟨v,s',h1,h2,h3⟩:Det true s (fun K=>match Vx x&& !Vx y with
  | true=>bif decide (m.length=0)then K x s else je ti e s x m K
  | false=>je ti e s x m K) K:=by
  split at h
  . rename_i hf;by_cases hm:m.length=0
    . rw [Jaa hm,Jae] at h;exact .same h fun K' h'=>by simp only [hf,Jaa hm,Jae];exact h'
    . rw [Jab hm,Jaf] at h;obtain ⟨v,s',h1,h2,h3⟩:=QY h;exact ⟨v,s',h1,fun K' h'=>by simp only [hf,Jab hm,Jaf];exact h2 K' h',h3⟩
  . rename_i hf;obtain ⟨v,s',h1,h2,h3⟩:=QY h;exact ⟨v,s',h1,fun K' h'=>by simp only [hf];exact h2 K' h',h3⟩
 exact ⟨v,s',h1,fun K' h'=>by simp only [kf,he];exact k1 _ (h2 K' h'),h3⟩
theorem qx9 {ti:TI} {s:St} {x:T} {b:ByteArray} {K:Kn} (h:wt ti s x b K):Det true s (wt ti s x b) K:=by
 unfold wt at h;split at h;case h_2=>exact h.elim
 rename_i e he;split at h;case h_2=>exact h.elim
 rename_i f hf;obtain ⟨v,s',h1,h2,h3⟩:=QY h;exact ⟨v,s',h1,fun K' h'=>by simp only [wt,he,hf];exact h2 K' h',h3⟩
theorem qvG {te:TI} {s:St} {e':El} {l:List (ty e')} {n:Int} {K:Kn} (h:wi te s e' l n K):Det true s (wi te s e' l n) K:=by
 unfold wi at h;split at h;case h_2=>exact h.elim
 rename_i e z he hz;split at h;case h_2=>exact h.elim
 rename_i y hy;split at h;case isFalse=>exact h.elim
 rename_i he';exact .new h.2.2 fun K' h'=>by simp only [wi,he,hz,hy,he'];exact ⟨h.1,h.2.1,h'⟩
theorem qWU {w:Bool} {T0:TypeId} {x y:T} {s:St} {K:Kn} (h:Ky D T0 x y s K):Det w s (Ky D T0 x y s) K:=by
 unfold Ky at h;split at h;case h_2=>exact h.elim
 rename_i te hte;split at h;case h_2=>exact h.elim
 rename_i e z he hz;split at h;case h_2=>exact h.elim
 rename_i y0 hy;split at h;case h_2=>exact h.elim
 rename_i n c;exact .new (h.2.2 _ rfl) fun K' h'=>by simp only [Ky,hte,he,hz,hy];exact ⟨h.1,h.2.1,fun l hl=>by subst hl;exact h'⟩
theorem qyY {t:TypeId} {m k:T} {ok:Bool} {s:St} {K:T->Prop} (h:wR D t m k ok s K):xf (wR D t m k ok s) K:=by
 unfold wR at h;split at h;case h_2=>exact h.elim
 rename_i e ks z hi;split at h;case h_2=>exact h.elim
 rename_i q l hm hk;split at h
 . exact .mk h fun K' h'=>by simp only [wR,hi,hm,hk];exact h'
 . exact .mk h fun K' h'=>by simp only [wR,hi,hm,hk];exact h'
theorem qqr {b:Bool} {k:T}: ∀{l:List (Int×ByteArray×Nat)} {K:T->Prop},ky b k K l->xf (fun K=>ky b k K l) K
 | [],_,h=>h.elim
 | p::r,K,h=>by
  unfold ky at h;split at h;case h_2=>exact h.elim
  rename_i c hc;cases c with
  | true=>exact .mk h fun K' h'=>by simp only [ky,hc,Jae];exact h'
  | false=>
   obtain ⟨v,h1,h2⟩:=qqr (l:=r) h;exact .mk h1 fun K' h'=>by simp only [ky,hc,Jaf];exact h2 K' h'
theorem qwq {t:TypeId} {m k:T} {ok:Bool} {s:St} {K:T->Prop} (h:wd D t m k ok s K):xf (wd D t m k ok s) K:=by
 unfold wd at h;split at h;case h_2=>exact h.elim
 rename_i b q b' l hi hm;split at h;case h_2=>exact h.elim
 rename_i hbb;obtain ⟨v,h1,h2⟩:=qqr h;exact .mk h1 fun K' h'=>by simp only [wd,hi,hm,hbb];exact h2 K' h'
theorem QC {t:TypeId} {m k v:T} {s:St} {K:St->Prop} (h:jm D t m k v s K): ∃k0 o,K (s.set k0 (some o))/\ ∀K':St->Prop,K' (s.set k0 (some o))->jm D t m k v s K':=by
 unfold jm at h;split at h;case h_2=>exact h.elim
 rename_i b q b' l f hi hm;split at h;case h_2=>exact h.elim
 rename_i p h1 h2 h3 h4;exact ⟨_,_,h,fun K' h'=>by simp only [jm,hi,hm,h1,h2,h3,h4];exact h'⟩
theorem qJe {t:TypeId} {m:T} {s:St} {K:Kn} (h:ZF D t m s K): ∃v o,K v (s++[some o])/\ ∀K':Kn,K' v (s++[some o])->ZF D t m s K':=by
 unfold ZF at h;split at h;case h_2=>exact h.elim
 rename_i ti q hti;split at h;case h_2=>exact h.elim
 rename_i kt vt e l hs hr;split at h;case h_2=>exact h.elim
 rename_i hsome;exact ⟨_,_,h,fun K' h'=>by simp only [ZF,hti,hs,hr,hsome];exact h'⟩
theorem qXe {v:T} {s:St} {K:T->Prop} (h:XP v s K):xf (XP v s) K:=by
 unfold XP qzE at h;split at h;case h_2=>exact h.elim
 rename_i k;split at h;case h_2=>exact h.elim
 rename_i q e all left cur hr;split at h;case h_2=>exact h.elim
 rename_i e' l hq;split at h;case isFalse=>exact h.elim
 rename_i he;split at h;case h_2=>exact h.elim
 rename_i hs;dsimp only at h;split at h;case h_2=>exact h.elim
 rename_i x;exact .mk h.2 fun K' h'=>by simp only [XP,qzE,hr,hq,he,hs,dif_pos];exact ⟨h.1,h'⟩
theorem Zf {t:TypeId} {m k v:T} {s:St} {K:St->Prop} (h:jG D t m k v s K): ∃k0 o,K (s.set k0 (some o))/\ ∀K':St->Prop,K' (s.set k0 (some o))->jG D t m k v s K':=by
 unfold jG at h;split at h;case h_2=>exact h.elim
 rename_i e ks z hi;split at h;case h_2=>exact h.elim
 rename_i q l y hm hk hy;exact ⟨_,_,h,fun K' h'=>by simp only [jG,hi,hm,hk,hy];exact h'⟩
theorem qag {s:St} {v:T} {K:Nat->Prop} (h:qya s v K): ∃n,K n/\ ∀K':Nat->Prop,K' n->qya s v K':=by
 unfold qya at h;split at h
 . exact ⟨_,h,fun _ h=>h⟩
 . exact ⟨_,h,fun _ h=>h⟩
 . split at h;case h_2=>exact h.elim
   rename_i l hl;exact ⟨_,h,fun K' h'=>by simp only [qya,hl];exact h'⟩
 . exact ⟨_,h,fun _ h=>h⟩
 . exact h.elim
theorem qX1 {ti:TI} {s:St} {a v:T} {K:St->Prop} (h:kb ti s a v K): ∃k o,K (s.set k (some o))/\ ∀K':St->Prop,K' (s.set k (some o))->kb ti s a v K':=by
 unfold kb at h;split at h;case h_1=>
  rename_i e' l' hal;unfold Wx at h;split at h;case h_2=>exact h.elim
  split at h;case isFalse=>exact h.elim
  rename_i he;split at h;case h_2=>exact h.elim
  rename_i l hl;exact ⟨_,_,h.2,fun K' h'=>by simp only [kb,hal,Wx,he,dif_pos,hl];exact ⟨h.1,h'⟩⟩
 rename_i hal;split at h;case h_2=>exact h.elim
 rename_i xs hxs;split at h;case h_2=>exact h.elim
 rename_i hlen;split at h
 . split at h;case h_2=>exact h.elim
   rename_i cs hr;split at h;case h_2=>exact h.elim
   rename_i hoff;exact ⟨_,_,h,fun K' h'=>by simp only [kb,hal,hxs,hlen,hr,hoff];exact h'⟩
 . split at h;case h_2=>exact h.elim
   rename_i l hl;obtain ⟨z,hz,h⟩:=h;split at h;case h_2=>exact h.elim
   rename_i hj;split at h;case h_2=>exact h.elim
   rename_i u hu;exact ⟨_,_,h,fun K' h'=>by simp only [kb,hal,hxs,hlen,hl];exact ⟨z,hz,by simp only [hj,hu];exact h'⟩⟩
 . exact h.elim
theorem qXu {te:TI} {s:St} {x:T} {K:St->Prop} (h:qjz te s x K): ∃s',K s'/\(∀K':St->Prop,K' s'->qjz te s x K')/\s'.length=s.length:=False.elim h
theorem qbq {te:TI} {k m:Nat} {b:ByteArray} {s:St} {K:Kn} (h:Kf te k m b s K): ∃v o,K v (s.set k (some o))/\ ∀K':Kn,K' v (s.set k (some o))->Kf te k m b s K':=by
 unfold Kf at h;split at h;case h_2=>exact h.elim
 rename_i cs hsz hr;split at h;case h_2=>exact h.elim
 rename_i l hm hl;split at h;case h_2=>exact h.elim
 rename_i hn;exact ⟨_,_,h,fun K' h'=>by simp only [Kf,hsz,hr,hm,hl,hn];exact h'⟩
theorem qvB {b:Builtin} {ts:List TypeId} {vs:List T} {s:St} {K:Kn} (h:jy D b ts vs s K):Det (qWG b) s (jy D b ts vs s) K:=by
 unfold jy at h;split at h
 . split at h;case h_2=>exact h.elim
   rename_i ti hti;split at h
   . rename_i hs;split at h;case h_2=>exact h.elim
     exact .same h fun K' h'=>by simp only [jy,hti,hs];exact h'
   . rename_i e hs;obtain ⟨n,h,k⟩:=qag h;exact .same h fun K' h'=>by simp only [jy,hti,hs];exact k _ h'
   . exact h.elim
 . split at h
   . rename_i hd;split at h;case h_2=>exact h.elim
     rename_i te hte;split at h;case h_2=>exact h.elim
     rename_i z hz;obtain ⟨v,s',h1,h2,h3⟩:=qkm h;exact ⟨v,s',h1,fun K' h'=>by simp only [jy,hd,hte,hz];exact h2 K' h',h3⟩
   . rename_i hd;split at h;case h_2=>exact h.elim
     rename_i te ti1 hte hti1;split at h
     . rename_i hs1;split at h;case h_2=>exact h.elim
       obtain ⟨v,s',h1,h2,h3⟩:=qvG h;exact ⟨v,s',h1,fun K' h'=>by simp only [jy,hd,hte,hti1,hs1];exact h2 K' h',h3⟩
     . rename_i hs1;split at h;case h_2=>exact h.elim
       rename_i z hz;obtain ⟨v,s',h1,h2,h3⟩:=qx9 h;exact ⟨v,s',h1,fun K' h'=>by simp only [jy,hd,hte,hti1,hs1,hz];exact h2 K' h',h3⟩
     . exact h.elim
 . split at h;case h_2=>exact h.elim
   rename_i te hte;obtain ⟨v,o,h1,h2⟩:=qbq h;exact .upd h1 fun K' h'=>by simp only [jy,hte];exact h2 _ h'
 . split at h;case h_2=>exact h.elim
   rename_i ti hti;split at h;case h_2=>exact h.elim
   rename_i hs;exact .same h fun K' h'=>by simp only [jy,hti,hs];exact h'
 . split at h;case h_2=>exact h.elim
   rename_i te hte;obtain ⟨s',h1,h2,h3⟩:=qXu h;exact ⟨.undef,s',h1,fun K' h'=>by simp only [jy,hte];exact h2 _ h',.inr (.inr ⟨rfl,h3⟩)⟩
 . exact .same h fun K' h'=>h'
 . exact .same h fun K' h'=>h'
 . exact h.elim
theorem qWw {a b:TypeId} {s:St} {x:T} {K:Kn} {w:Bool} (h:yL D a b s x K):Det w s (yL D a b s x) K:=by
 unfold yL at h;split at h;case h_2=>exact h.elim
 rename_i ta tb ha hb;split at h
 . rename_i hs;exact .same h fun K' h'=>by simp only [yL,ha,hb,hs];exact h'
 . rename_i hs1 hs2;exact .same h fun K' h'=>by simp only [yL,ha,hb,hs1,hs2];exact h'
 . rename_i hs1 hs2;split at h;case h_2=>exact h.elim
   rename_i te hte;split at h;case h_2=>exact h.elim
   rename_i e hs hel;split at h;case h_2=>exact h.elim
   rename_i f hf;exact .new h.2 fun K' h'=>by simp only [yL,ha,hb,hs1,hs2,hte,hs,hel,hf];exact ⟨h.1,h'⟩
 . rename_i hs1 hs2;split at h;case h_2=>exact h.elim
   rename_i te hte;split at h;case h_2=>exact h.elim
   rename_i f l hs hf hl;exact .same h fun K' h'=>by simp only [yL,ha,hb,hs1,hs2,hte,hs,hf,hl];exact h'
 . rename_i hs1 hs2;split at h;case h_2=>exact h.elim
   rename_i te hte;split at h;case h_2=>exact h.elim
   rename_i f hs hf;exact .same h fun K' h'=>by simp only [yL,ha,hb,hs1,hs2,hte,hs,hf];exact h'
 . rename_i hs1 hs2;split at h;case h_2=>exact h.elim
   rename_i te hte;split at h;case h_2=>exact h.elim
   rename_i f l hs hf hl;exact .same h fun K' h'=>by simp only [yL,ha,hb,hs1,hs2,hte,hs,hf,hl];exact h'
 . rename_i hs1 hs2;split at h;case h_2=>exact h.elim
   rename_i cs te hr hte;split at h;case h_2=>exact h.elim
   rename_i l hm hs hl;split at h;case h_2=>exact h.elim
   rename_i hd;exact .same h fun K' h'=>by simp only [yL,ha,hb,hs1,hs2,hte,hs,hr,hm,hl,hd];exact h'
 . exact h.elim
theorem qJT {op:BinOp} {ti:TI} {x:T} (h:Z1 op ti x K):xf (Z1 op ti x) K:=by
 unfold Z1 at h;split at h;case h_2=>exact h.elim
 rename_i hs;split at h;case h_5=>exact h.elim
 all_goals exact .mk h fun K' h'=>by simp only [Z1,hs];exact h'
theorem qa2 {x:Bool} {p q:T} (h:qqk x p q K):xf (qqk x p q) K:=by
 unfold qqk at h;split at h
 . exact .mk h fun K' h'=>h'
 . rename_i hn;have key: ∀K':T->Prop,(bif x then K' p else K' q)->qqk x p q K':=fun K' h'=>by
    unfold qqk;split
    . exact (hn _ _ rfl rfl).elim
    . exact h'
   cases x
   . exact .mk h (key · )
   . exact .mk h (key · )
theorem qny {Γ:Qy} {mu:FuncId->Bool} (hΓ:wl mu Γ) {op:Op} {ρ:Operand->T} {s:St} {K:Kn} (h:jT D Γ op ρ s K fun _ _=>False):Det (qvz mu op ρ) s (fun K=>jT D Γ op ρ s K fun _ _=>False) K:=by
 unfold jT at h;split at h
 . exact .same h fun K' h'=>h'
 . exact .same h fun K' h'=>h'
 . split at h;case h_2=>exact h.elim
   rename_i b hb;obtain ⟨v,h1,h2⟩:=qa2 h;exact .same h1 fun K' h'=>by simp only [jT,hb];exact h2 _ h'
 . split at h;case h_2=>exact h.elim
   rename_i ti hti;split at h;case h_2=>exact h.elim
   rename_i z hz;exact .new h fun K' h'=>by simp only [jT,hti,hz];exact h'
 . split at h;case h_2=>exact h.elim
   rename_i z hz;exact .new h fun K' h'=>by simp only [jT,hz];exact h'
 . exact qWU h
 . split at h
   . rename_i hm;exact .new h fun K' h'=>by simp only [jT,hm];exact h'
   . rename_i hm;split at h;case h_2=>exact h.elim
     rename_i hf;exact .new h fun K' h'=>by simp only [jT,hm,hf];exact h'
 . split at h
   . rename_i hs;obtain ⟨v,h1,h2⟩:=qyY h;exact .same h1 fun K' h'=>by simp only [jT,hs];exact h2 _ h'
   . rename_i hs;obtain ⟨v,h1,h2⟩:=qwq h;exact .same h1 fun K' h'=>by simp only [jT,hs];exact h2 _ h'
 . split at h
   . rename_i hs;obtain ⟨k,o,h1,h2⟩:=Zf h;exact .upd h1 fun K' h'=>by simp only [jT,hs];exact h2 (fun s=>K' .undef s) h'
   . rename_i hs;obtain ⟨k,o,h1,h2⟩:=QC h;exact .upd h1 fun K' h'=>by simp only [jT,hs];exact h2 (fun s=>K' .undef s) h'
 . split at h
   . rename_i hs;obtain ⟨k,o,h1,h2⟩:=Zf h;exact .upd h1 fun K' h'=>by simp only [jT,hs];exact h2 (fun s=>K' .undef s) h'
   . rename_i hs;obtain ⟨k,o,h1,h2⟩:=QC h;exact .upd h1 fun K' h'=>by simp only [jT,hs];exact h2 (fun s=>K' .undef s) h'
 . obtain ⟨v,o,h1,h2⟩:=qJe h;exact .new h1 h2
 . obtain ⟨v,h1,h2⟩:=qXe h;exact .same h1 fun K' h'=>h2 (fun v=>K' v s) h'
 . exact xf.lift (qXt h)
 . exact xf.lift (KV h)
 . split at h;case h_2=>exact h.elim
   rename_i ti hti;obtain ⟨v,h1,h2⟩:=qYM h;exact .same h1 fun K' h'=>by simp only [jT,hti];exact h2 _ h'
 . split at h;case h_2=>exact h.elim
   rename_i ti hti;obtain ⟨k,o,h1,h2⟩:=qX1 h;exact .upd h1 fun K' h'=>by simp only [jT,hti];exact h2 (fun s=>K' .undef s) h'
 . split at h;case h_5=>exact h.elim
   all_goals
    rename_i hv;exact .same h fun K' h'=>by simp only [jT,hv];exact h'
 . split at h;case h_2=>exact h.elim
   rename_i ti hti;split at h
   . obtain ⟨v,h1,h2⟩:=qye h;exact .same h1 fun K' h'=>by simp only [jT,hti];exact h2 _ h'
   . obtain ⟨v,h1,h2⟩:=qJT h;exact .same h1 fun K' h'=>by simp only [jT,hti];exact h2 _ h'
   . rename_i hn hn2;obtain ⟨v,h1,h2⟩:=qgA h;exact .same h1 fun K' h'=>by
      simp only [jT,hti];exact h2 (fun v=>K' v s) h'
 . exact xf.lift (qom h)
 . exact qWw h
 . split at h;case h_2=>exact h.elim
   rename_i ti hti;split at h;case h_2=>exact h.elim
   rename_i hc;exact .same h fun K' h'=>by simp only [jT,hti,hc];exact h'
 . split at h
   . exact h.elim
   . exact h.elim
 . split at h
   . rename_i hy;exact .same h fun K' h'=>by simp only [jT,hy];exact h'
   . exact h.elim
 . split at h;case h_2=>exact h.elim
   rename_i ti hti;obtain ⟨v,h1,h2⟩:=qbV h;exact .same h1 fun K' h'=>by simp only [jT,hti];exact h2 _ h'
 . exact xf.lift (qqA h)
 . exact xf.lift (qJt h)
 . exact xf.lift (qqM h)
 . exact xf.lift (qXD h)
 . split at h;case h_2=>exact h.elim
   rename_i vs hvs;split at h;case h_2=>exact h.elim
   rename_i v hv;exact .same h fun K' h'=>by simp only [jT,hvs,hv];exact h'
 . exact qvB h
 . split at h
   . rename_i x hx;rw [JZ] at h;obtain ⟨v,s',h1,h2,h3⟩:=hΓ _ _ _ _ h;exact ⟨v,s',h1,fun K' h'=>by simp only [jT,hx];rw [JZ];exact h2 _ h',by simp only [qvz,hx];exact h3⟩
   . rename_i hx;split at h;case h_2=>exact h.elim
     rename_i g vs hg;obtain ⟨v,s',h1,h2,h3⟩:=hΓ _ _ _ _ h;exact ⟨v,s',h1,fun K' h'=>by simp only [jT,hx,hg];exact h2 _ h',by simp only [qvz,hx,hg];exact h3⟩
 . exact h.elim
end
end
section
open Go.RowKit
variable {P:Program}
def qI (m:Nat):Nat->St->St
 | _,[]=>[]
 | k,o::r=>(match m.testBit k with
  | true=>o
  | false=>none)::qI m (k+1) r
def back (m:Nat):Nat->St->St->St
 | _,[],_=>[]
 | _,s,[]=>s
 | k,o::r,o'::r'=>(match m.testBit k with
  | true=>o'
  | false=>o)::back m (k+1) r r'
mutual
def vR (n p:Nat):T->T
 | .oa e k ver=> .oa e (if k=n then p else k) ver
 | .os e k ver off c=> .os e (if k=n then p else k) ver off c
 | .pt k off=> .pt (if k=n then p else k) off
 | .mp k=> .mp (if k=n then p else k)
 | .itr (some k) e all left cur=> .itr (some (if k=n then p else k)) e all left cur
 | .as k c=> .as (if k=n then p else k) c
 | .pe e k ver i j=> .pe e (if k=n then p else k) ver i j
 | .ag cs=> .ag (wG n p cs)
 | .tu cs=> .tu (wG n p cs)
 | .fn f xs ys=> .fn f (wG n p xs) (wG n p ys)
 | .ic t v=> .ic t (vR n p v)
 | v=>v
def wG (n p:Nat):List T->List T
 | []=>[]
 | v::r=>vR n p v::wG n p r
end
theorem qfz {n p:Nat} {cs:List T}:meHead (wG n p cs)=meHead cs:=by
 cases cs with
 | nil=>rfl
 | cons v r=>
  cases v;case itr k _ _ _ _=>cases k<;>rfl
  all_goals rfl
theorem qJP {n p:Nat} {cs:List T} (h:zk (wG n p cs)=true):zk cs=true:=by
 cases cs with
 | nil=>simp [wG,zk] at h
 | cons v r=>
  cases v;case itr k _ _ _ _=>cases k<;>(simp only [wG,vR] at h;exact h)
  all_goals first | rfl | (simp only [wG,vR] at h;exact h)
def vk (n p:Nat):Ob->Ob
 | .cells cs=> .cells (wG n p cs)
 | o=>o
theorem zZ {m:Nat}: ∀{s:St} {k:Nat},(qI m k s).length=s.length
 | [],_=>rfl
 | _::r,k=>by simp [qI,zZ (s:=r)]
theorem zE {m:Nat}: ∀{s:St} {k i:Nat},(qI m k s)[i]? =(s[i]?).map fun o=>if m.testBit (k+i)=true then o else none
 | [],_,_=>by simp [qI]
 | o::r,k,0=>by
  simp only [qI,Jbh,Ja8,Jcg];cases m.testBit k<;>rfl
 | o::r,k,i+1=>by
  simp only [qI,Jbd];rw [zE,show k+1+i=k+(i+1)by omega]
theorem jM {m:Nat}: ∀{s s':St} {k:Nat},(back m k s s').length=s.length
 | [],_,_=>by simp [back]
 | _::r,[],k=>by simp [back]
 | _::r,_::r',k=>by simp [back,jM (s:=r)]
theorem xx {m:Nat}: ∀{s s':St} {k i:Nat},s'.length=s.length->(back m k s s')[i]? =if m.testBit (k+i)=true then s'[i]? else s[i]?
 | [],s',_,_,h=>by
  have:s'=[]:=Jan h;subst this;simp [back]
 | _::r,[],_,_,h=>by simp at h
 | o::r,o'::r',k,0,h=>by
  simp only [back,Jbh,Jcg];cases m.testBit k<;>simp
 | o::r,o'::r',k,i+1,h=>by
  simp only [back,Jbd];rw [xx (by simpa using h),show k+1+i=k+(i+1)by omega]
theorem qq6 {m:Nat} {s:St}:back m 0 s (qI m 0 s)=s:=by
 refine Jca fun i=> ?_
 rw [xx zZ,zE];split
 . rename_i h;cases s[i]? with
   | none=>rfl
   | some o=>simp [h]
 . rfl
theorem jR {n p:Nat}: ∀{l:List T},(wG n p l).length=l.length
 | []=>rfl
 | _::r=>by simp [wG,jR (l:=r)]
theorem QX {n p:Nat}: ∀{l:List T} {i:Nat},(wG n p l)[i]? =(l[i]?).map (vR n p)
 | [],_=>by simp [wG]
 | _::_,0=>by simp [wG]
 | _::r,i+1=>by simp only [wG,Jbd];exact QX
theorem JM {n p:Nat} {l:List T} (h: ∀(i:Nat) (c:T),l[i]? =some c->vR n p c=c):wG n p l=l:=by
 refine Jca fun i=> ?_
 rw [QX];cases hc:l[i]? with
 | none=>rfl
 | some c=>simp [h i c hc]
section
variable {g g':G P} {s s':St} {w w':World} {m n p:Nat}
theorem qmB (hn: ∀v,g.ob n v=none) {u:T} {x:Value} (h:R g u x):vR n p u=u:=by
 induction h with
 | oa e k ver oi A h1=>
  have:k≠n:=by rintro rfl;rw [hn] at h1;cases h1
  simp [vR,this]
 | os e k ver off c oi A c' h1=>
  have:k≠n:=by rintro rfl;rw [hn] at h1;cases h1
  simp [vR,this]
 | pt k off oi h1=>
  have:k≠n:=by rintro rfl;rw [hn] at h1;cases h1
  simp [vR,this]
 | mp k oi h1=>
  have:k≠n:=by rintro rfl;rw [hn] at h1;cases h1
  simp [vR,this]
 | as k c oi h1=>
  have:k≠n:=by rintro rfl;rw [hn] at h1;cases h1
  simp [vR,this]
 | it q e all left cur oi seen h1=>
  have:q≠n:=by rintro rfl;rw [hn] at h1;cases h1
  simp [vR,this]
 | pe e k ver i j oi h1=>
  have:k≠n:=by rintro rfl;rw [hn] at h1;cases h1
  simp [vR,this]
 | ag cs xs h1 _ _ ih=>
  simp only [vR];rw [JM fun i c hc=>by
   have hi:i<xs.size:=by rw [<- h1];exact (Jai.1 hc).1
   exact ih i c _ hc (Jaw hi)]
 | tu cs xs h1 _ ih=>
  simp only [vR];rw [JM fun i c hc=>by
   have hi:i<xs.size:=by rw [<- h1];exact (Jai.1 hc).1
   exact ih i c _ hc (Jaw hi)]
 | fn f as bs xs ys h0 h1 h2 _ _ ih1 ih2=>
  simp only [vR];rw [JM (l:=as) fun i c hc=>by
   have hi:i<xs.size:=by rw [<- h1];exact (Jai.1 hc).1
   exact ih1 i c _ hc (Jaw hi),JM (l:=bs) fun i c hc=>by
   have hi:i<ys.size:=by rw [<- h2];exact (Jai.1 hc).1
   exact ih2 i c _ hc (Jaw hi)]
 | ic t v x _ ih=>simp only [vR,ih]
 | yl f us yi l r _ _ _ h4 _ ih=>
  simp only [vR];rw [JM (l:=us) fun i c hc=>by
   have hi:i<yi.live.length:=by rw [<- h4];exact (Jai.1 hc).1
   exact ih i c _ hc (Jao hi)]
  rfl
 | _=>rfl
def G.move (g:G P) (n p:Nat):G P:={g with ob:=fun k v=>if k=p then g.ob n v else if k=n then none else g.ob k v}
theorem Jc {l:List T} {ys:Array Value} {p:T->Value->Prop} {n q:Nat} (h: ∀(i:Nat) (c:T) (x:Value),l[i]? =some c->ys[i]? =some x->p (vR n q c) x): ∀(i:Nat) (c:T) (x:Value),(wG n q l)[i]? =some c->ys[i]? =some x->p c x:=fun i c x hc hx=>by
 rw [QX,Ja2] at hc;obtain ⟨c0,c1,rfl⟩:=hc;exact h i c0 x c1 hx
theorem qtq (hp: ∀v,g.ob p v=none) (hne:p≠n) {u:T} {x:Value} (h:R g u x):R (g.move n p) (vR n p u) x:=by
 have key: ∀k v oi,g.ob k v=some oi->(g.move n p).ob (if k=n then p else k) v=some oi:=by
  intro k v oi h;by_cases e:k=n
  . subst e;simp [G.move,h]
  . have:k≠p:=by rintro rfl;rw [hp] at h;cases h
    simp [G.move,e,this,h]
 induction h with
 | undef x=>exact .undef x
 | int k n=>exact .int k n
 | bool b=>exact .bool b
 | str s=>exact .str s
 | cst v=>exact .cst v
 | ub b=>exact .ub b
 | fp=>exact .fp
 | mp k oi h1=>exact .mp _ oi (key _ _ _ h1)
 | as k c oi h1=>exact .as _ c oi (key _ _ _ h1)
 | me e l=>exact .me e l
 | fe b l h=>exact .fe b l h
 | it q e all left cur oi seen h1 h2 h3=>exact .it _ e all left cur oi seen (key _ _ _ h1) h2 h3
 | iz e all left cur v h=>exact .iz e all left cur v h
 | nil A=>exact .nil A
 | sl full e l A c h1 h2 h3 h4=>exact .sl full e l A c h1 h2 h3 h4
 | oa e k ver oi A h1 h2 h3 h4=>exact .oa e _ ver oi A (key _ _ _ h1) h2 h3 h4
 | os e k ver off n oi A c h1 h2 h3 h4 h5 h6=>exact .os e _ ver off n oi A c (key _ _ _ h1) h2 h3 h4 h5 h6
 | pt k off oi h1=>exact .pt _ off oi (key _ _ _ h1)
 | pe e k ver i j oi h1 h2=>exact .pe e _ ver i j oi (key _ _ _ h1) h2
 | pr e x j b off cs h1 h2=>exact .pr e x j b off cs h1 h2
 | ag cs xs h1 _ h3 ih=>exact .ag _ xs (by rw [jR];exact h1) (Jc ih) h3
 | tu cs xs h1 _ ih=>exact .tu _ xs (by rw [jR];exact h1) (Jc ih)
 | fn f as bs xs ys h0 h1 h2 _ _ ih1 ih2=>exact .fn f (wG _ p as) (wG _ p bs) xs ys h0 (by rw [jR];exact h1) (by rw [jR];exact h2) (Jc ih1) (Jc ih2)
 | ic t v x _ ih=>exact .ic t _ x ih
 | yl f us yi l r h1 h2 h3 h4 _ ih=>exact .yl f (wG _ p us) yi l r h1 h2 h3 (by rw [jR];exact h4) fun i c d hc hd=>by rw [QX,Ja2] at hc;obtain ⟨c0,c1,rfl⟩:=hc;exact ih i c0 d c1 hd
 | fd0 x f h=>exact .fd0 x f h
 | fd1 x f e c b off cs h h1 h2=>exact .fd1 x f e c b off cs h h1 h2
 | al e l xs h1 h2 h3 _=>exact .al e l xs h1 (fun i c x hc hx=>(h2 i c x hc hx).pure (zo c (Ja3 hc)) fun _ _ h=>h) h3
theorem xt {k:Nat} {o:Ob} (h:(qI m 0 s)[k]? =some (some o)):s[k]? =some (some o)/\m.testBit k=true:=by
 rw [zE,Ja2] at h;obtain ⟨o',h1,h2⟩:=h;rw [Jbj] at h2;split at h2
 . rename_i hb;subst h2;exact ⟨h1,hb⟩
 . cases h2
theorem qJp {k:Nat} (h:s[k]? ≠none) (hb:m.testBit k=false):(qI m 0 s)[k]? =some none:=by
 rw [zE,Jbj,hb];cases hs:s[k]? with
 | none=>exact absurd hs h
 | some o=>simp
theorem qzc (hg:Good g s w):Good g (qI m 0 s) w:=
 ⟨hg.ro,fun k o h=>hg.obj k o (xt h).1,fun k k' o o' b h1 h2 h3 h4=>hg.inj k k' o o' b (xt h1).1 (xt h2).1 h3 h4,fun k v oi h=>by
  obtain ⟨h1,h2⟩:=hg.old k v oi h;exact ⟨by rw [zZ];exact h1,fun o ho=>h2 o (xt ho).1⟩,hg.fx,hg.dm,hg.laid⟩
theorem yB {b:Nat} (h:Own g (qI m 0 s) b):Own g s b:=by
 obtain ⟨k,o,h1,h2⟩:=h;exact ⟨k,o,(xt h1).1,h2⟩
theorem wP (hg:Good g s w) (hs: ∀b0,Step b0 g (qI m 0 s) w g' s' w') (hl:GL g (qI m 0 s) g') {k:Nat} {o:Ob} (h:s[k]? =some (some o)) (hb:m.testBit k=false):
  (∀v,g'.ob k v=g.ob k v)/\ ∃oi,g.ob k (obVer o)=some oi/\obFits o oi/\((qn o=true/\oi.cap=0)∨((∀cs0, ¬g'.ro oi.b cs0)/\ ∃(blk:Array Value) (E:TypeId) (fr:Nat×Nat),vO (vo o) w'.heap[oi.b]? =some (.cells blk E fr)/\(∀q,q<blk.size-> ¬(fr.1<=q/\q<fr.2))/\Cells g (qZ o) blk/\jt o oi E blk.size)):=by
 refine ⟨fun v=>hl.hid k v (qJp (by rw [h];simp) hb), ?_⟩
 obtain ⟨oi,h1,h2,h3⟩:=hg.obj k o h;refine ⟨oi,h1,h2, ?_⟩;by_cases hn:qn o=true/\oi.cap=0
 . exact .inl hn
 rcases h3 with h3 | ⟨h3,blk,E,fr,h4,h5,h6,h7⟩
 . exact .inl h3
 have hblk:obBlk g k o=some oi.b:=by unfold obBlk;rw [h1];simp only;rw [if_neg hn]
 have hno: ¬Own g (qI m 0 s) oi.b:=by
  rintro ⟨k',o',a1,a2⟩;obtain ⟨a3,a4⟩:=xt a1;have:=hg.inj k k' o o' oi.b h a3 hblk a2;subst this;rw [hb] at a4;cases a4
 have hlt:=yw h4;refine .inr ⟨?_,blk,E,fr,by rw [(hs ⟨0,0⟩).block _ hlt hno];exact h4,h5,h6,h7⟩
 intro cs hr
 . rcases (hs ⟨0,0⟩).new _ _ hr with h8 | h8 | h8
   . exact h3 _ h8
   . exact absurd h8 hno
   . omega
theorem X2 (hg:Good g s w) (hg':Good g' s' w') (hs: ∀b0,Step b0 g (qI m 0 s) w g' s' w') (hl:GL g (qI m 0 s) g') (hlen:s'.length=s.length):
  Good g' (back m 0 s s') w'/\(∀b0,Step b0 g s w g' (back m 0 s s') w')/\GL g s g':=by
 have hget: ∀k,(back m 0 s s')[k]? =if m.testBit k=true then s'[k]? else s[k]? :=fun k=>by rw [xx hlen,Jbj]
 have hcase: ∀k o,(back m 0 s s')[k]? =some (some o)->(m.testBit k=true/\s'[k]? =some (some o))∨(m.testBit k=false/\s[k]? =some (some o)):=fun k o h=>by
  rw [hget] at h;split at h
  . rename_i hb;exact .inl ⟨hb,h⟩
  . rename_i hb;exact .inr ⟨by simpa using hb,h⟩
 have hblkH: ∀k o,m.testBit k=false->s[k]? =some (some o)->obBlk g' k o=obBlk g k o:=fun k o hb h=>by
  unfold obBlk;rw [(wP hg hs hl h hb).1]
 have hcross: ∀k o k' o' b,m.testBit k=false->s[k]? =some (some o)->obBlk g k o=some b->s'[k']? =some (some o')->obBlk g' k' o'=some b->False:=by
  intro k o k' o' b hb h hob h' hob';rcases (hs ⟨0,0⟩).own b ⟨k',o',h',hob'⟩with ⟨k2,o2,a1,a2⟩ | h1
  . obtain ⟨a3,a4⟩:=xt a1;have:=hg.inj k k2 o o2 b h a3 hob a2;subst this;rw [hb] at a4;cases a4
  . have:=hg.lt_own ⟨k,o,h,hob⟩;omega
 refine ⟨⟨hg'.ro,fun k o h=> ?_,fun k k' o o' b h h' hb hb'=> ?_,fun k v oi h=> ?_,hg'.fx,hg'.dm,hg'.laid⟩,fun b0=>⟨(hs ⟨0,0⟩).os,(hs ⟨0,0⟩).tape,(hs ⟨0,0⟩).output,(hs ⟨0,0⟩).size,fun b hb hno=>(hs ⟨0,0⟩).block b hb fun ho=>hno (yB ho),(hs ⟨0,0⟩).ro,fun b hb=> ?_,fun b cs hb=> ?_,fun k _ o ho=> ?_,fun k _ ver e l ho=> ?_,(hs ⟨0,0⟩).fx,(hs ⟨0,0⟩).dm,(hs ⟨0,0⟩).dmn⟩,⟨hl.le,fun k u hk=> ?_⟩⟩
 . rcases hcase k o h with ⟨_,h1⟩ | ⟨h0,h1⟩
   . exact hg'.obj k o h1
   . obtain ⟨e,oi,a1,a2,a3⟩:=wP hg hs hl h1 h0;refine ⟨oi,by rw [e];exact a1,a2, ?_⟩
     rcases a3 with a3 | ⟨a3,blk,E,fr,a4,a5,a6,a7⟩
     . exact .inl a3
     . exact .inr ⟨a3,blk,E,fr,a4,a5,a6.mono hl.le,a7⟩
 . rcases hcase k o h with ⟨_,h1⟩ | ⟨h0,h1⟩<;>rcases hcase k' o' h' with ⟨_,h2⟩ | ⟨h0',h2⟩
   . exact hg'.inj k k' o o' b h1 h2 hb hb'
   . rw [hblkH k' o' h0' h2] at hb';exact (hcross k' o' k o b h0' h2 hb' h1 hb).elim
   . rw [hblkH k o h0 h1] at hb;exact (hcross k o k' o' b h0 h1 hb h2 hb').elim
   . rw [hblkH k o h0 h1] at hb;rw [hblkH k' o' h0' h2] at hb';exact hg.inj k k' o o' b h1 h2 hb hb'
 . obtain ⟨h1,h2⟩:=hg'.old k v oi h;refine ⟨by rw [jM, <- hlen];exact h1,fun o ho=> ?_⟩
   rcases hcase k o ho with ⟨_,h3⟩ | ⟨h0,h3⟩
   . exact h2 o h3
   . rw [(wP hg hs hl h3 h0).1] at h;exact (hg.old k v oi h).2 o h3
 . obtain ⟨k,o,h,hob⟩:=hb;rcases hcase k o h with ⟨_,h1⟩ | ⟨h0,h1⟩
   . exact ((hs ⟨0,0⟩).own b ⟨k,o,h1,hob⟩).imp yB id
   . rw [hblkH k o h0 h1] at hob;exact .inl ⟨k,o,h1,hob⟩
 . rcases (hs ⟨0,0⟩).new b cs hb with h1 | h1 | h1
   . exact .inl h1
   . exact .inr (.inl (yB h1))
   . exact .inr (.inr h1)
 . by_cases hb:m.testBit k=true
   . have hk:=(hs ⟨k+1,k+1⟩).kept k (Jbw k) o (by rw [zE,ho,Jbj];simp [hb])
     cases o with
     | cells cs=>
      obtain ⟨cs',a1,a2⟩:=hk;exact ⟨cs',by rw [hget,if_pos hb];exact a1,a2⟩
     | arr ver e l=>
      obtain ⟨ver',l',a1⟩:=hk;exact ⟨ver',l',by rw [hget,if_pos hb];exact a1⟩
   . have hb':m.testBit k=false:=by simpa using hb
     cases o with
     | cells cs=>exact ⟨cs,by rw [hget,if_neg hb];exact ho,rfl,(wP hg hs hl ho hb').1 0⟩
     | arr ver e l=>exact ⟨ver,l,by rw [hget,if_neg hb];exact ho⟩
 . by_cases hb:m.testBit k=true
   . obtain ⟨ver',l',a1,a2⟩:=(hs ⟨k+1,k+1⟩).fixd k (Jbw k) ver e l (by rw [zE,ho,Jbj];simp [hb])
     exact ⟨ver',l',by rw [hget,if_pos hb];exact a1,a2⟩
   . have hb':m.testBit k=false:=by simpa using hb
     exact ⟨ver,l,by rw [hget,if_neg hb];exact ho,fun e0=>⟨e0,(wP hg hs hl ho hb').1 0⟩⟩
 . refine hl.hid k u ?_;rw [zE,hk];simp
theorem qY3 (hg:Good g s w) {o:Ob} (hg':Good g' (qI m 0 s++[some o]) w') (hs: ∀b0,Step b0 g (qI m 0 s) w g' (qI m 0 s++[some o]) w') (hl:GL g (qI m 0 s) g') (hp:s[p]? =some none) (hpg: ∀v,g.ob p v=none):
  Good (g'.move s.length p) (s.set p (some (vk s.length p o))) w'/\(∀b0,Step b0 g s w (g'.move s.length p) (s.set p (some (vk s.length p o))) w')/\g.le (g'.move s.length p)/\
  (∀(k u:Nat),s[k]? =some none->k≠p->(g'.move s.length p).ob k u=g.ob k u)/\ ∀v x,R g' v x->R (g'.move s.length p) (vR s.length p v) x:=by
 have hpl:p<s.length:=(Jai.1 hp).1;have hml:(qI m 0 s).length=s.length:=zZ;have hpg': ∀v,g'.ob p v=none:=fun v=>by
  rw [hl.hid p v (by rw [zE,hp];simp)];exact hpg v
 have hng: ∀v,g.ob s.length v=none:=fun v=>by
  cases h:g.ob s.length v with
  | none=>rfl
  | some oi=>have:=(hg.old _ _ _ h).1;omega
 have hfix: ∀v x,R g' v x->R (g'.move s.length p) (vR s.length p v) x:=fun v x h=>qtq hpg' (by omega) h
 have hle:g.le (g'.move s.length p):=⟨hl.le.ro,fun k v oi h=>by
  have h1:k≠p:=by rintro rfl;rw [hpg] at h;cases h
  have h2:k≠s.length:=by have:=(hg.old _ _ _ h).1;omega
  simp only [G.move,if_neg h1,if_neg h2];exact hl.le.ob _ _ _ h,hl.le.fx,hl.le.dm⟩
 have hob: ∀k v,k<s.length->k≠p->(g'.move s.length p).ob k v=g'.ob k v:=fun k v h1 h2=>by
  simp only [G.move,if_neg h2];rw [if_neg (by omega)]
 have hobp: ∀v,(g'.move s.length p).ob p v=g'.ob s.length v:=fun v=>by simp [G.move]
 have hget: ∀k,(s.set p (some (vk s.length p o)))[k]? =if k=p then some (some (vk s.length p o))else s[k]? :=fun k=>by
  rw [List.getElem?_set];by_cases e:p=k
  . subst e;simp [hpl]
  . rw [if_neg e,if_neg (Ne.symm e)]
 have hnew:(qI m 0 s++[some o])[s.length]? =some (some o):=by
  rw [Jas (by omega),hml];simp
 have hvis: ∀k o2,s[k]? =some (some o2)->m.testBit k=true->(qI m 0 s++[some o])[k]? =some (some o2):=fun k o2 h hb=>by
  have hk:=(Jai.1 h).1;rw [Jav (by omega),zE,h,Jbj]
  simp [hb]
 have hfo:obVer (vk s.length p o)=obVer o/\qn (vk s.length p o)=qn o/\vo (vk s.length p o)=vo o/\(∀oi,obFits o oi->obFits (vk s.length p o) oi)/\ ∀oi E n,jt o oi E n->jt (vk s.length p o) oi E n:=by
  cases o<;>exact ⟨rfl,rfl,(by first | rfl | exact qfz),fun _ h=>h,fun _ _ _ h=>by first | exact h | exact yF qJP h⟩
 have hcell: ∀blk,Cells g' (qZ o) blk->Cells (g'.move s.length p) (qZ (vk s.length p o)) blk:=fun blk h=>by
  cases o with
  | cells cs=>
   refine ⟨by simp only [vk,qZ,jR];exact h.le,fun j u hj=> ?_⟩
   simp only [vk,qZ,QX,Ja2] at hj;obtain ⟨c,c1,rfl⟩:=hj;obtain ⟨x,x1,x2,x3⟩:=h.at_ j c c1;exact ⟨x,x1,x2,hfix _ _ x3⟩
  | arr ver e l=>exact h.pure zo fun _ _ h=>h
 have hblkp:obBlk (g'.move s.length p) p (vk s.length p o)=obBlk g' s.length o:=by
  unfold obBlk;rw [hobp,hfo.1,hfo.2.1]
 have hblkV: ∀k o2,k<s.length->k≠p->obBlk (g'.move s.length p) k o2=obBlk g' k o2:=fun k o2 h1 h2=>by unfold obBlk;rw [hob k _ h1 h2]
 have hblkH: ∀k o2,m.testBit k=false->s[k]? =some (some o2)->obBlk g' k o2=obBlk g k o2:=fun k o hb h=>by
  unfold obBlk;rw [(wP hg hs hl h hb).1]
 have hcross: ∀k o2 k' o' b,m.testBit k=false->s[k]? =some (some o2)->obBlk g k o2=some b->(qI m 0 s++[some o])[k']? =some (some o')->obBlk g' k' o'=some b->False:=by
  intro k o k' o' b hb h hob h' hob';rcases (hs ⟨0,0⟩).own b ⟨k',o',h',hob'⟩with ⟨k2,o2,a1,a2⟩ | h1
  . obtain ⟨a3,a4⟩:=xt a1;have:=hg.inj k k2 _ o2 b h a3 hob a2;subst this;rw [hb] at a4;cases a4
  . have:=hg.lt_own ⟨k,_,h,hob⟩;omega
 -- every object of the new store, in the old worlds
 have hcase: ∀k o2,(s.set p (some (vk s.length p o)))[k]? =some (some o2)->(k=p/\o2=vk s.length p o)∨(k≠p/\k<s.length/\s[k]? =some (some o2)/\(m.testBit k=true/\(qI m 0 s++[some o])[k]? =some (some o2)∨m.testBit k=false)):=fun k o2 h=>by
  rw [hget] at h;split at h
  . rename_i e;simp only [Jah] at h;exact .inl ⟨e,h.symm⟩
  . rename_i e;refine .inr ⟨e,(Jai.1 h).1,h, ?_⟩;cases hb:m.testBit k with
    | true=>exact .inl ⟨rfl,hvis k o2 h hb⟩
    | false=>exact .inr rfl
 have hany: ∀k o2 b,(s.set p (some (vk s.length p o)))[k]? =some (some o2)->obBlk (g'.move s.length p) k o2=some b->
   (∃k' o',(qI m 0 s++[some o])[k']? =some (some o')/\obBlk g' k' o'=some b/\(k=p/\k'=s.length∨k≠p/\k'=k/\k<s.length))∨(m.testBit k=false/\s[k]? =some (some o2)/\obBlk g k o2=some b):=fun k o2 b h hb=>by
  rcases hcase k o2 h with ⟨rfl,rfl⟩ | ⟨h1,h2,h3,h4 | h4⟩
  . rw [hblkp] at hb;exact .inl ⟨_,o,hnew,hb,.inl ⟨rfl,rfl⟩⟩
  . rw [hblkV k o2 h2 h1] at hb;exact .inl ⟨k,o2,h4.2,hb,.inr ⟨h1,rfl,h2⟩⟩
  . rw [hblkV k o2 h2 h1,hblkH k o2 h4 h3] at hb;exact .inr ⟨h4,h3,hb⟩
 refine ⟨⟨fun b cs h=> ?_,fun k o2 h=> ?_,fun k k' o1 o2 b h1 h2 h3 h4=> ?_,fun k v oi h=> ?_,hg'.fx,hg'.dm,hg'.laid⟩,fun b0=>⟨(hs ⟨0,0⟩).os,(hs ⟨0,0⟩).tape,(hs ⟨0,0⟩).output,(hs ⟨0,0⟩).size,fun b hb hno=>(hs ⟨0,0⟩).block b hb fun ho=>hno (yB ho),(hs ⟨0,0⟩).ro,fun b hb=> ?_,fun b cs hb=> ?_,fun k _ o2 ho=> ?_,fun k _ ver e l ho=> ?_,(hs ⟨0,0⟩).fx,(hs ⟨0,0⟩).dm,(hs ⟨0,0⟩).dmn⟩,hle,fun k u hk hne=> ?_,hfix⟩
 . obtain ⟨blk,E,fr,p2,p3⟩:=hg'.ro b cs h;exact ⟨blk,E,fr,p2,p3.pure fun _ _ h=>h⟩
 . rcases hcase k o2 h with ⟨rfl,rfl⟩ | ⟨h1,h2,h3,h4 | h4⟩
   . obtain ⟨oi,a1,a2,a3⟩:=hg'.obj _ o hnew;refine ⟨oi,by rw [hobp,hfo.1];exact a1,hfo.2.2.2.1 oi a2, ?_⟩
     unfold obRow;rw [hfo.2.1,hfo.2.2.1];rcases a3 with a3 | ⟨a3,blk,E,fr,a4,a5,a6,a7⟩
     . exact .inl a3
     . exact .inr ⟨a3,blk,E,fr,a4,a5,hcell blk a6,hfo.2.2.2.2 oi _ _ a7⟩
   . obtain ⟨oi,a1,a2,a3⟩:=hg'.obj k o2 h4.2;refine ⟨oi,by rw [hob k _ h2 h1];exact a1,a2, ?_⟩
     by_cases hn:qn o2=true/\oi.cap=0
     . exact .inl hn
     rcases a3 with a3 | ⟨a3,blk,E,fr,a4,a5,a6,a7⟩
     . exact .inl a3
     refine .inr ⟨a3,blk,E,fr,a4,a5,⟨a6.le,fun j u hj=> ?_⟩,a7⟩
     obtain ⟨x,x1,x2,x3⟩:=a6.at_ j u hj;refine ⟨x,x1,x2, ?_⟩;-- what the object held before says nothing of the new one
     obtain ⟨oi',b1,_,b3⟩:=hg.obj k o2 h3;have heq:oi'=oi:=by
      have:=hl.le.ob _ _ _ b1;rw [a1] at this;exact (Jb0 this).symm
     subst heq;rcases b3 with b3 | ⟨_,blk0,_,_,_,_,b6,_⟩
     . exact absurd b3 hn
     obtain ⟨x0,_,_,y3⟩:=b6.at_ j u hj;have:=hfix u x x3;rw [qmB hng y3] at this;exact this
   . obtain ⟨e,oi,a1,a2,a3⟩:=wP hg hs hl h3 h4;refine ⟨oi,by rw [hob k _ h2 h1,e];exact a1,a2, ?_⟩
     rcases a3 with a3 | ⟨a3,blk,E,fr,a4,a5,a6,a7⟩
     . exact .inl a3
     . exact .inr ⟨a3,blk,E,fr,a4,a5,a6.mono hle,a7⟩
 . rcases hany k o1 b h1 h3 with ⟨k1,p1,q1,q2,q3⟩ | ⟨q1,q2,q3⟩<;>rcases hany k' o2 b h2 h4 with ⟨k2,p2,r1,r2,r3⟩ | ⟨r1,r2,r3⟩
   . have:=hg'.inj k1 k2 p1 p2 b q1 r1 q2 r2;omega
   . exact (hcross k' o2 k1 p1 b r1 r2 r3 q1 q2).elim
   . exact (hcross k o1 k2 p2 b q1 q2 q3 r1 r2).elim
   . exact hg.inj k k' o1 o2 b q2 r2 q3 r3
 . have hlen:(qI m 0 s++[some o]).length=s.length+1:=by simp [hml]
   simp only [G.move] at h;split at h
   . rename_i e;subst e;refine ⟨by simp [hpl],fun o2 ho2=> ?_⟩
     rw [hget,if_pos rfl] at ho2;simp only [Jah] at ho2;subst ho2;rw [hfo.1];exact (hg'.old _ v oi h).2 o hnew
   . rename_i e;split at h
     . cases h
     . rename_i e2;obtain ⟨h1,h2⟩:=hg'.old k v oi h;refine ⟨by rw [List.length_set];omega,fun o2 ho2=> ?_⟩
       rcases hcase k o2 ho2 with ⟨rfl,_⟩ | ⟨_,_,h5,h6 | h6⟩
       . exact absurd rfl e
       . exact h2 o2 h6.2
       . rw [(wP hg hs hl h5 h6).1] at h;exact (hg.old k v oi h).2 o2 h5
 . obtain ⟨k,o2,h,hob2⟩:=hb;rcases hany k o2 b h hob2 with ⟨k1,p1,q1,q2,_⟩ | ⟨_,q2,q3⟩
   . exact ((hs ⟨0,0⟩).own b ⟨k1,p1,q1,q2⟩).imp yB id
   . exact .inl ⟨k,o2,q2,q3⟩
 . rcases (hs ⟨0,0⟩).new b cs hb with h1 | h1 | h1
   . exact .inl h1
   . exact .inr (.inl (yB h1))
   . exact .inr (.inr h1)
 . have hne:k≠p:=by rintro rfl;rw [hp] at ho;cases ho
   have hkl:=(Jai.1 ho).1;cases o2 with
   | cells cs=>
    refine ⟨cs,by rw [hget,if_neg hne];exact ho,rfl, ?_⟩
    rw [hob k 0 hkl hne];obtain ⟨oi,h1,_⟩:=hg.obj k _ ho;have h1:g.ob k 0=some oi:=h1;rw [h1];exact hl.le.ob _ _ _ h1
   | arr ver e l=>exact ⟨ver,l,by rw [hget,if_neg hne];exact ho⟩
 . have hne:k≠p:=by rintro rfl;rw [hp] at ho;cases ho
   have hkl:=(Jai.1 ho).1;refine ⟨ver,l,by rw [hget,if_neg hne];exact ho,fun e0=>⟨e0, ?_⟩⟩
   subst e0;rw [hob k 0 hkl hne];obtain ⟨oi,h1,_⟩:=hg.obj k _ ho;have h1:g.ob k 0=some oi:=h1;rw [h1];exact hl.le.ob _ _ _ h1
 . rw [hob k u (Jai.1 hk).1 hne];exact hl.hid k u (by rw [zE,hk];simp)
end
end
section
open Go.RowKit
structure Row where
 vis:Nat
 wr:Bool
 own:Option Nat
def evF (τ:Nat->T):Operand->T
 | .tmp i=>τ i
 | .const v=>tval v
 | .global g=> .cst (.pointer (some ⟨g,0,none⟩))
 | .func f=>fnT f
theorem qxD (t:Tm):ev t=evF (get t):=by funext x;cases x<;>rfl
def wu (τ:Nat->T) (dst:Option Tmp) (v:T):Nat->T:=
 match dst with
 | none=>τ
 | some d=>fun i=>if i=d then v else τ i
def gdF (ops:Array Oper) (g:Option (Nat×Bool)) (τ:Nat->T):Option Bool:=
 match Ys ops g with
 | some none=>some true
 | some (some (d,want))=>match τ d with
  | .bool b=>some (b==want)
  | .cst (.tuple _)=>some false
  | _=>none
 | none=>none
abbrev noX:Kn:=fun _ _=>False
def Eff (D:TD) (Γ:Qy) (row:Row) (op:Op) (τ:Nat->T) (s:St) (v:T) (s1:St):Prop:=
 ∃v' s',(∀K:Kn,K v' s'->jT D Γ op (evF τ) (qI row.vis 0 s) K noX)/\
  ((s'=qI row.vis 0 s/\v=v'/\s1=s)∨(row.wr=true/\s'.length=s.length/\v=v'/\s1=back row.vis 0 s s')∨
   ∃o p,s'=qI row.vis 0 s++[some o]/\row.own=some p/\v=vR s.length p v'/\s1=s.set p (some (vk s.length p o)))
def Stp (D:TD) (Γ:Qy) (n:Nat) (ops:Array Oper) (tab:List Row) (i:Nat) (τ:Nat->T) (s:St) (τ':Nat->T) (s':St):Prop:=
 ∃o row,ops[i]? =some o/\tab[i]? =some row/\(∀d,o.dst=some d->d<n)/\((gdF ops o.guard τ=some true/\ ∃v,Eff D Γ row o.op τ s v s'/\τ'=wu τ o.dst v)∨(gdF ops o.guard τ=some false/\τ'=wu τ o.dst (.cst Go.undef)/\s'=s))
def Run (D:TD) (Γ:Qy) (n:Nat) (ops:Array Oper) (tab:List Row):List Nat->(Nat->T)->St->(Nat->T)->St->Prop
 | [],τ,s,τ',s'=>τ=τ'/\s=s'
 | i::r,τ,s,τ',s'=> ∃τ1 s1,Stp D Γ n ops tab i τ s τ1 s1/\Run D Γ n ops tab r τ1 s1 τ' s'
theorem qcH {τ:Nat->T} {dst:Option Tmp} {v:T} {x:Operand} (h: ∀d,dst=some d->x≠ .tmp d):evF (wu τ dst v) x=evF τ x:=by
 cases dst with
 | none=>rfl
 | some d=>
  cases x with
  | tmp i=>
   have:i≠d:=fun e=>h d rfl (by rw [e])
   simp [evF,wu,this]
  | _=>rfl
theorem qQZ {ρ ρ':Operand->T} {l:List Operand} (h: ∀x∈l,ρ x=ρ' x):l.map ρ=l.map ρ':=List.map_congr_left h
theorem qVa {D:TD} {Γ:Qy} {op:Op} {ρ ρ':Operand->T} {s:St} {K X:Kn} (h: ∀x∈op.operands,ρ x=ρ' x):jT D Γ op ρ s K X=jT D Γ op ρ' s K X:=by
 cases op<;>try rfl
 case move x=>simp only [jT];rw [h x (by simp [Op.operands])]
 case assign x=>simp only [jT];rw [h x (by simp [Op.operands])]
 case pick c x y=>simp only [jT];rw [h c (by simp [Op.operands]),h x (by simp [Op.operands]),h y (by simp [Op.operands])]
 case box T x=>simp only [jT];rw [h x (by simp [Op.operands])]
 case build T ps=>
  simp only [jT];rw [show (ps.toList.map fun p=>(p.1,ρ p.2))=ps.toList.map fun p=>(p.1,ρ' p.2) from List.map_congr_left fun p hp=>by rw [h p.2 (by simp only [Op.operands];simp;exact ⟨p.1,by simpa using hp⟩)]]
 case buildSlice T n ps=>
  simp only [jT];rw [show (ps.toList.map fun p=>(p.1,ρ p.2))=ps.toList.map fun p=>(p.1,ρ' p.2) from List.map_congr_left fun p hp=>by rw [h p.2 (by simp only [Op.operands];simp;exact ⟨p.1,by simpa using hp⟩)]]
 case load T x=>simp only [jT];rw [h x (by simp [Op.operands])]
 case store T x y=>simp only [jT];rw [h x (by simp [Op.operands]),h y (by simp [Op.operands])]
 case nilCheck x=>simp only [jT];rw [h x (by simp [Op.operands])]
 case binOp op T x y U=>simp only [jT];rw [h x (by simp [Op.operands]),h y (by simp [Op.operands])]
 case unOp op T x=>simp only [jT];rw [h x (by simp [Op.operands])]
 case convert s d x=>simp only [jT];rw [h x (by simp [Op.operands])]
 case makeInterface T x=>simp only [jT];rw [h x (by simp [Op.operands])]
 case panic x=>simp only [jT];rw [h x (by simp [Op.operands])]
 case makeFunc f xs ys=>
  cases f<;>simp only [jT]
  rw [qQZ (l:=xs.toList) fun x hx=>h x (by simp [Op.operands];exact .inl (by simpa using hx)),qQZ (l:=ys.toList) fun x hx=>h x (by simp [Op.operands];exact .inr (by simpa using hx))]
 case slice T x lo hi mx=>
  simp only [jT];have h1:lo.map ρ=lo.map ρ':=by cases lo<;>simp;exact h _ (by simp [Op.operands])
  have h2:hi.map ρ=hi.map ρ':=by cases hi<;>simp;exact h _ (by simp [Op.operands])
  have h3:mx.map ρ=mx.map ρ':=by cases mx<;>simp;exact h _ (by simp [Op.operands])
  rw [h x (by simp [Op.operands]),h1,h2,h3]
 case fieldAddr s x f=>simp only [jT];rw [h x (by simp [Op.operands])]
 case field s x f=>simp only [jT];rw [h x (by simp [Op.operands])]
 try case makeMap T r=>cases r<;>simp only [jT]
 try case lookup T m k ok=>simp only [jT];rw [h m (by simp [Op.operands]),h k (by simp [Op.operands])]
 try case range T m=>simp only [jT];rw [h m (by simp [Op.operands])]
 try case entry x=>simp only [jT];rw [h x (by simp [Op.operands])]
 try case mapUpdate T m k v=>simp only [jT];rw [h m (by simp [Op.operands]),h k (by simp [Op.operands]),h v (by simp [Op.operands])]
 try case insert T m k v=>simp only [jT];rw [h m (by simp [Op.operands]),h k (by simp [Op.operands]),h v (by simp [Op.operands])]
 case makeSlice T x y=>simp only [jT];rw [h x (by simp [Op.operands]),h y (by simp [Op.operands])]
 case indexAddr T x y=>simp only [jT];rw [h x (by simp [Op.operands]),h y (by simp [Op.operands])]
 case index T x y=>simp only [jT];rw [h x (by simp [Op.operands]),h y (by simp [Op.operands])]
 case extract x i=>simp only [jT];rw [h x (by simp [Op.operands])]
 case call c=>
  obtain ⟨callee,args,ts⟩:=c;have hargs:args.toList.map ρ=args.toList.map ρ':=qQZ fun x hx=>h x (by simp [Op.operands,Call.operands];exact .inr (by simpa using hx))
  cases callee with
  | value f=>simp only [jT];rw [hargs,h f (by simp [Op.operands,Call.operands])]
  | builtin b=>simp only [jT];rw [hargs]
  | _=>rfl
def Ze (ops:Array Oper) (x y:Oper) (p q:Row):Bool:=
 (match x.dst with | some d=> !(y.looksAt ops).contains d&&y.dst != some d | none=>true)&&
 (match y.dst with | some d=> !(x.looksAt ops).contains d | none=>true)&&
 (match p.own with | some a=> !q.vis.testBit a | none=>true)&&
 (match q.own with | some a=> !p.vis.testBit a | none=>true)&&
 (match p.own,q.own with | some a,some b=>a != b | _,_=>true)&&
 (!(p.wr||q.wr)||p.vis&&& q.vis==0)
section
variable {D:TD} {Γ:Qy} {n:Nat} {ops:Array Oper} {tab:List Row}
theorem qKb {o:Oper} {d:Tmp} (h:d ∉ o.looksAt ops): ∀x∈o.op.operands,x≠ .tmp d:=by
 intro x hx e;subst e;apply h;unfold Oper.looksAt;rw [Jbr];left;rw [List.mem_filterMap];exact ⟨.tmp d,by simpa using hx,rfl⟩
theorem vm {o:Oper} {dst:Option Tmp} {τ:Nat->T} {v:T} (h: ∀d,dst=some d->d ∉ o.looksAt ops):gdF ops o.guard (wu τ dst v)=gdF ops o.guard τ:=by
 cases dst with
 | none=>rfl
 | some d=>
  have h:=h d rfl;unfold gdF Ys;cases hg:o.guard with
  | none=>rfl
  | some p=>
   obtain ⟨j,want⟩:=p;simp only;cases hd:(ops[j]?).bind (·.dst)with
   | none=>rfl
   | some e=>
    have:e≠d:=fun e'=>h (by
     unfold Oper.looksAt;rw [Jbr];right;simp [hg,hd,e'])
    simp [wu,this]
theorem yH {o:Oper} {dst:Option Tmp} {τ:Nat->T} {v:T} (h: ∀d,dst=some d->d ∉ o.looksAt ops): ∀x∈o.op.operands,evF (wu τ dst v) x=evF τ x:=
 fun x hx=>qcH fun d hd=>qKb (h d hd) x hx
theorem KF {row:Row} {op:Op} {τ τ':Nat->T} {s s':St} {v:T} (h:Eff D Γ row op τ s v s') (he: ∀x∈op.operands,evF τ' x=evF τ x):Eff D Γ row op τ' s v s':=by
 obtain ⟨v',s1,h1,h2⟩:=h;exact ⟨v',s1,fun K hK=>by rw [qVa he];exact h1 K hK,h2⟩
theorem wV {τ:Nat->T} {x y:Option Tmp} {v u:T} (h: ∀d,x=some d->y≠some d):wu (wu τ x v) y u=wu (wu τ y u) x v:=by
 cases x with
 | none=>rfl
 | some d=>
  cases y with
  | none=>rfl
  | some e=>
   have hne:e≠d:=fun e'=>h d rfl (by rw [e'])
   funext i
   simp only [wu];by_cases h1:i=e
   . subst h1;simp [hne]
   . simp [h1]
theorem Z8 {x y:Oper} {p q:Row} (h:Ze ops x y p q=true):(∀d,x.dst=some d->d ∉ y.looksAt ops)/\(∀d,x.dst=some d->y.dst≠some d)/\(∀d,y.dst=some d->d ∉ x.looksAt ops)/\
  (∀a,p.own=some a->q.vis.testBit a=false)/\(∀a,q.own=some a->p.vis.testBit a=false)/\(∀a b,p.own=some a->q.own=some b->a≠b)/\(p.wr=true∨q.wr=true-> ∀i,p.vis.testBit i=true->q.vis.testBit i=true->False):=by
 simp only [Ze,Jaq] at h;obtain ⟨⟨⟨⟨⟨h1,h2⟩,h3⟩,h4⟩,h5⟩,h6⟩:=h;refine ⟨fun d hd=> ?_,fun d hd=> ?_,fun d hd=> ?_,fun a ha=> ?_,fun a ha=> ?_,fun a b ha hb=> ?_,fun hw i hi hj=> ?_⟩
 . simp [hd] at h1;exact h1.1
 . simp [hd] at h1;exact h1.2
 . simp [hd] at h2;exact h2
 . simpa [ha] using h3
 . simpa [ha] using h4
 . simpa [ha,hb] using h5
 . have h6:p.vis&&& q.vis=0:=by rcases hw with hw | hw<;>simpa [hw] using h6
   have:=Nat.testBit_and p.vis q.vis i;rw [h6,hi,hj] at this;simp at this
theorem Xs {m k:Nat} {s:St} {o:Option Ob} (h:m.testBit k=false):qI m 0 (s.set k o)=qI m 0 s:=by
 refine Jca fun i=> ?_
 rw [zE,zE,List.getElem?_set];by_cases e:k=i
 . subst e;simp only [if_true,Jbj,h,Ja5,if_false];by_cases hl:k<s.length
   . rw [if_pos hl,Jao hl];rfl
   . rw [if_neg hl,Ja0 (by omega)]
 . rw [if_neg e]
theorem yG {m m':Nat} {s s':St} (hl:s'.length=s.length) (h: ∀i,m.testBit i=true->m'.testBit i=true->False):qI m 0 (back m' 0 s s')=qI m 0 s:=by
 refine Jca fun i=> ?_
 rw [zE,zE,xx hl,Jbj];by_cases hb:m'.testBit i=true
 . have hmi:m.testBit i=false:=by cases hb':m.testBit i with | true=>exact (h i hb' hb).elim | false=>rfl
   simp only [hb,if_true,hmi,Ja5,if_false];by_cases hi:i<s.length
   . rw [Jao hi,Jao (by omega)];rfl
   . rw [Ja0 (by omega),Ja0 (by omega)]
 . rw [if_neg hb]
theorem qwa {m k:Nat} {s s':St} {o:Option Ob} (hl:s'.length=s.length) (h:m.testBit k=false):back m 0 (s.set k o) s'=(back m 0 s s').set k o:=by
 refine Jca fun i=> ?_
 rw [xx (by simpa using hl),List.getElem?_set,List.getElem?_set,xx hl,jM,Jbj]
 by_cases e:k=i
 . subst e;simp [h]
 . simp [e]
theorem qJw {m m':Nat} {s s' s'':St} (hl:s'.length=s.length) (hl':s''.length=s.length) (h: ∀i,m.testBit i=true->m'.testBit i=true->False):back m 0 (back m' 0 s s') s''=back m' 0 (back m 0 s s'') s':=by
 refine Jca fun i=> ?_
 rw [xx (by rw [jM];exact hl'),xx hl,xx (by rw [jM];exact hl),xx hl',Jbj]
 by_cases h1:m.testBit i=true<;>by_cases h2:m'.testBit i=true
 . exact (h i h1 h2).elim
 . simp [h1,h2]
 . simp [h1,h2]
 . simp [h1,h2]
theorem y7 {row:Row} {op:Op} {τ:Nat->T} {s s1:St} {v:T} (h:Eff D Γ row op τ s v s1):
  (s1=s/\ ∀st,qI row.vis 0 st=qI row.vis 0 s->Eff D Γ row op τ st v st)∨
  (∃p o,row.own=some p/\s1=s.set p o/\ ∀st,qI row.vis 0 st=qI row.vis 0 s->Eff D Γ row op τ st v (st.set p o))∨
  (∃s',row.wr=true/\s'.length=s.length/\s1=back row.vis 0 s s'/\ ∀st,qI row.vis 0 st=qI row.vis 0 s->Eff D Γ row op τ st v (back row.vis 0 st s')):=by
 obtain ⟨v',s',h1,h2⟩:=h;have hlen: ∀st,qI row.vis 0 st=qI row.vis 0 s->st.length=s.length:=fun st h=>by
  have:=congrArg List.length h;rwa [zZ,zZ] at this
 rcases h2 with ⟨rfl,rfl,rfl⟩ | ⟨a1,a2,rfl,rfl⟩ | ⟨o,p,rfl,a2,rfl,rfl⟩
 . exact .inl ⟨rfl,fun st hst=>⟨v,_,fun K hK=>by rw [hst];exact h1 K hK,.inl ⟨hst.symm,rfl,rfl⟩⟩⟩
 . exact .inr (.inr ⟨s',a1,a2,rfl,fun st hst=>⟨v,s',fun K hK=>by rw [hst];exact h1 K hK,.inr (.inl ⟨a1,by rw [hlen st hst];exact a2,rfl,rfl⟩)⟩⟩)
 . exact .inr (.inl ⟨p,_,a2,rfl,fun st hst=>⟨v',_,fun K hK=>by rw [hst];exact h1 K hK,.inr (.inr ⟨o,p,by rw [hst],a2,by rw [hlen st hst],by rw [hlen st hst]⟩)⟩⟩)
theorem qWz {x y:Oper} {p q:Row} {τ:Nat->T} {s s1 s2:St} {v u:T} (hi:Ze ops x y p q=true) (h1:Eff D Γ p x.op τ s v s1) (h2:Eff D Γ q y.op τ s1 u s2):
  ∃s1',Eff D Γ q y.op τ s u s1'/\Eff D Γ p x.op τ s1' v s2:=by
 obtain ⟨_,_,_,i4,i5,i6,i7⟩:=Z8 hi;rcases y7 h1 with ⟨rfl,a⟩ | ⟨pa,oa,a1,rfl,a⟩ | ⟨sa,a1,a2,rfl,a⟩
 . rcases y7 h2 with ⟨rfl,b⟩ | ⟨pb,ob,b1,rfl,b⟩ | ⟨sb,b1,b2,rfl,b⟩
   . exact ⟨_,h2,h1⟩
   . exact ⟨_,h2,a _ (Xs (i5 pb b1))⟩
   . exact ⟨_,h2,a _ (yG b2 (i7 (.inr b1)))⟩
 . have hm:qI q.vis 0 s=qI q.vis 0 (s.set pa oa):=(Xs (i4 pa a1)).symm;rcases y7 h2 with ⟨rfl,b⟩ | ⟨pb,ob,b1,rfl,b⟩ | ⟨sb,b1,b2,rfl,b⟩
   . exact ⟨s,b s hm,h1⟩
   . refine ⟨_,b s hm, ?_⟩;rw [List.set_comm _ _ (i6 pa pb a1 b1)];exact a _ (Xs (i5 pb b1))
   . refine ⟨_,b s hm, ?_⟩;have b2':sb.length=s.length:=by simpa using b2
     rw [qwa b2' (i4 pa a1)];exact a _ (yG b2' (i7 (.inr b1)))
 . have hd:=i7 (.inl a1);have hd': ∀i,q.vis.testBit i=true->p.vis.testBit i=true->False:=fun i h1 h2=>hd i h2 h1
   have hm:qI q.vis 0 s=qI q.vis 0 (back p.vis 0 s sa):=(yG a2 hd').symm;rcases y7 h2 with ⟨rfl,b⟩ | ⟨pb,ob,b1,rfl,b⟩ | ⟨sb,b1,b2,rfl,b⟩
   . exact ⟨s,b s hm,h1⟩
   . refine ⟨_,b s hm, ?_⟩;rw [<- qwa a2 (i5 pb b1)];exact a _ (Xs (i5 pb b1))
   . rw [jM] at b2;refine ⟨_,b s hm, ?_⟩;rw [qJw a2 b2 hd'];exact a _ (yG b2 hd)
theorem qWR {i j:Nat} {τ τ1 τ2:Nat->T} {s s1 s2:St} (hi: ∀x y p q,ops[j]? =some x->ops[i]? =some y->tab[j]? =some p->tab[i]? =some q->Ze ops x y p q=true)
  (h1:Stp D Γ n ops tab j τ s τ1 s1) (h2:Stp D Γ n ops tab i τ1 s1 τ2 s2): ∃τ1' s1',Stp D Γ n ops tab i τ s τ1' s1'/\Stp D Γ n ops tab j τ1' s1' τ2 s2:=by
 obtain ⟨x,p,x1,x2,x3,x4⟩:=h1;obtain ⟨y,q,y1,y2,y3,y4⟩:=h2;have hind:=hi x y p q x1 y1 x2 y2;obtain ⟨i1,i2,i3,_⟩:=Z8 hind;rcases x4 with ⟨gx,v,ex,rfl⟩ | ⟨gx,rfl,rfl⟩
 . rw [vm i1] at y4;rcases y4 with ⟨gy,u,ey,rfl⟩ | ⟨gy,rfl,rfl⟩
   . have ey':=KF ey (τ':=τ) fun z hz=>(yH i1 z hz).symm
     obtain ⟨st1',e1,e2⟩:=qWz hind ex ey';exact ⟨_,st1',⟨y,q,y1,y2,y3,.inl ⟨gy,u,e1,rfl⟩⟩,⟨x,p,x1,x2,x3,.inl ⟨by rw [vm i3];exact gx,v,KF e2 (yH i3),wV i2⟩⟩⟩
   . exact ⟨_,s,⟨y,q,y1,y2,y3,.inr ⟨gy,rfl,rfl⟩⟩,⟨x,p,x1,x2,x3,.inl ⟨by rw [vm i3];exact gx,v,KF ex (yH i3),wV i2⟩⟩⟩
 . rw [vm i1] at y4;rcases y4 with ⟨gy,u,ey,rfl⟩ | ⟨gy,rfl,rfl⟩
   . have ey':=KF ey (τ':=τ) fun z hz=>(yH i1 z hz).symm
     exact ⟨_,s2,⟨y,q,y1,y2,y3,.inl ⟨gy,u,ey',rfl⟩⟩,⟨x,p,x1,x2,x3,.inr ⟨by rw [vm i3];exact gx,wV i2,rfl⟩⟩⟩
   . exact ⟨_,_,⟨y,q,y1,y2,y3,.inr ⟨gy,rfl,rfl⟩⟩,⟨x,p,x1,x2,x3,.inr ⟨by rw [vm i3];exact gx,wV i2,rfl⟩⟩⟩
theorem Yg {i:Nat} {r2:List Nat}: ∀(r1:List Nat) {τ τ':Nat->T} {s s':St},(∀j∈r1, ∀x y p q,ops[j]? =some x->ops[i]? =some y->tab[j]? =some p->tab[i]? =some q->Ze ops x y p q=true)->
  Run D Γ n ops tab (r1++i::r2) τ s τ' s'-> ∃τ1 s1,Stp D Γ n ops tab i τ s τ1 s1/\Run D Γ n ops tab (r1++r2) τ1 s1 τ' s'
 | [],_,_,_,_,_,h=>h
 | j::r1,τ,τ',s,s',hi,h=>by
  obtain ⟨τ1,st1,h1,h2⟩:=h;obtain ⟨τ2,st2,h3,h4⟩:=Yg r1 (fun j hj=>hi j (by simp [hj])) h2
  obtain ⟨τ3,st3,h5,h6⟩:=qWR (hi j (by simp)) h1 h3
  exact ⟨τ3,st3,h5,τ2,st2,h6,h4⟩
end
end
end Go.Proofs.YtbglndogddddoaaGreatDoor
