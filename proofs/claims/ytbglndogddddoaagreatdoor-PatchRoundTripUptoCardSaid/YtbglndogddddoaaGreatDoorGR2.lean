import Derived.MapKept
import Derived.Laws.IdiomRangeMap
import Derived.Maps.RangeRun
import Derived.Deep.LoopGhost
import Derived.TacticsIn
import Derived.OrdersIn
import Derived.RangeFuncRecord
import Derived.RangeFuncIn
import Derived.OrdersHeld
import Derived.Test.YtbglndogddddoaaGreatDoorGR1
set_option linter.unusedVariables false
set_option linter.unusedSimpArgs false
set_option linter.unusedSectionVars false
namespace Go.Proofs.YtbglndogddddoaaGreatDoor
open Go.RowKit
variable {P:Program} [Bd P]
section
variable {P:Program} [Bd P] {D:TD} {g:G P} {st:St} {w:World} {n:Nat} {t:Tm} {a:Act} {o:Oper} {K X:Kn}
theorem K5 {place:Nat->Option (Nat×Nat)} (ht:RelT g n t a): ∀(ps:List (Nat×Operand)) (cs cs':List T) (xs:Array Value),R g (.ag cs) (.agg xs)->KN place cs (ps.map fun p=>(p.1,ev t p.2))=some cs'->
  ∃xs',Instr.fill place xs (ps.map fun p=>(p.1,a.eval p.2))=some xs'/\R g (.ag cs') (.agg xs')/\cs'.length=cs.length
 | [],cs,cs',xs,hR,h=>by simp [KN] at h;subst h;exact ⟨xs,rfl,hR,rfl⟩
 | (i,x)::r,cs,cs',xs,hR,h=>by
  simp only [List.map_cons,KN] at h
  cases h1:place i with
  | none=>simp [h1] at h
  | some p=>
   obtain ⟨off,size⟩:=p
   cases h2:cellsOf (ev t x)with
   | none=>simp [h1,h2] at h
   | some zs=>
    simp only [h1,h2] at h
    split at h
    case h_2=>cases h
    rename_i hc
    have hc:=of_decide_eq_true hc
    obtain ⟨k1,k2⟩:=R_cells (ht.ev x) h2
    cases hR with
    | ag _ _ r1 r2 r3=>
     obtain ⟨f1,f2⟩:=foldl_arr off (a.eval x).cells xs (by omega)
     have hR':R g (.ag (xg cs off zs)) (.agg ((a.eval x).cells.zipIdx.foldl (fun cs (p:Value×Nat)=>cs.setIfInBounds (off+p.2) p.1) xs)):=by
      refine .ag _ _ (by rw [jC (by omega),f1,r1]) (fun j c y hj hy=> ?_) (fun j y hy=> ?_)
      . rw [jP (by omega)] at hj
        rw [f2 j,k1] at hy
        by_cases e:off<=j/\j<off+zs.length
        . rw [if_pos e] at hj hy
          obtain ⟨z,z1,_,z3⟩:=k2 _ c hj
          rw [z1] at hy;injection hy with hy;subst hy;exact z3
        . rw [if_neg e] at hj hy
          exact r2 _ _ _ hj hy
      . rw [f2 j,k1] at hy
        by_cases e:off<=j/\j<off+zs.length
        . rw [if_pos e] at hy
          obtain ⟨z,z1,z2,_⟩:=k2 (j-off) zs[j-off] (by simp)
          rw [z1] at hy;injection hy with hy;subst hy;exact z2
        . rw [if_neg e] at hy
          exact r3 _ _ hy
     obtain ⟨xs',g1,g2,g3⟩:=K5 ht r _ cs' _ hR' h
     refine ⟨xs', ?_,g2,by rw [g3,jC (by omega)]⟩
     simp only [List.map_cons,Instr.fill,h1]
     rw [if_neg (by simp;omega)]
     exact g1
theorem W1 {p q:Nat->Option (Nat×Nat)}: ∀(ps:List (Nat×Value)) (xs:Array Value) (xs':Array Value),(∀i x,p i=some x->q i=some x)->Instr.fill p xs ps=some xs'->Instr.fill q xs ps=some xs'
 | [],xs,xs',_,h=>h
 | (i,v)::r,xs,xs',hpq,h=>by
  simp only [Instr.fill] at h ⊢
  cases hp:p i with
  | none=>simp [hp] at h
  | some x=>
   obtain ⟨off,size⟩:=x
   rw [hpq i _ hp]
   simp only [hp] at h ⊢
   split at h
   . cases h
   . rename_i hc
     rw [if_neg hc]
     exact W1 r _ xs' hpq h
theorem Kg (hD:zv P D) (hg:Good g st w) (ht:RelT g n t a) {T0:TypeId} {parts:Array (Nat×Operand)} (ho:o.op= .build T0 parts)
  (h:wa D T0 (parts.toList.map fun p=>(p.1,ev t p.2)) fun v=>K v st):xy P o a g st w K X:=by
 unfold wa at h
 split at h
 case h_2=>exact h.elim
 rename_i ti hti
 split at h
 case h_2=>exact h.elim
 rename_i z pl hag hz hpl
 split at h
 case h_2=>exact h.elim
 rename_i cs hcs
 obtain ⟨i,x,hi,hx,hR⟩:=yQ (g:=g) (hD _ _ hti) hz
 obtain ⟨xs',hf,hR',_⟩:=K5 ht parts.toList z cs x.cells hR hcs
 have hb:P.built T0 (parts.toList.map fun p=>(p.1,a.eval p.2))=some xs':=by
  obtain ⟨d,h1,h2,h3⟩:=(hD _ _ hti).under
  unfold Program.built
  unfold placesT at hpl
  split at hpl
  . rename_i fs hfs
    injection hpl with hpl
    subst hpl
    rw [hfs] at h3
    obtain ⟨fields,rfl,rfl,hall⟩:=h3
    simp only [h1,hi,hx]
    have hm: ∃l,fields.toList.mapM (fun (f:Field)=>(P.info? f.type).map fun i=>(f.offset,i.size))=some l/\ ∀(j:Nat) (f:Field),fields.toList[j]? =some f-> ∃i,P.info? f.type=some i/\l[j]? =some (f.offset,i.size):=by
     have hall': ∀f∈fields.toList,(P.info? f.type).isSome=true:=fun f hf'=>List.all_eq_true.1 hall f hf'
     generalize fields.toList=L at hall'
     induction L with
     | nil=>exact ⟨[],rfl,by simp⟩
     | cons f r ih=>
      obtain ⟨l,l1,l2⟩:=ih fun f' hf'=>hall' f' (by simp [hf'])
      obtain ⟨i,hi⟩:=Option.isSome_iff_exists.1 (hall' f (by simp))
      refine ⟨(f.offset,i.size)::l,by simp [List.mapM_cons,hi,l1],fun j f' hj=> ?_⟩
      cases j with
      | zero=>simp at hj;subst hj;exact ⟨i,hi,rfl⟩
      | succ j=>simp at hj;simpa using l2 j f' hj
    obtain ⟨l,l1,l2⟩:=hm
    simp only [l1]
    refine W1 _ _ _ (fun j p hp=> ?_) hf
    simp only [List.getElem?_map] at hp
    cases hfj:fields.toList[j]? with
    | none=>simp [hfj] at hp
    | some f=>
     simp only [hfj,Option.map_some] at hp
     split at hp
     case h_2=>cases hp
     rename_i te hte
     injection hp with hp
     subst hp
     obtain ⟨i',hi',hl⟩:=l2 j f hfj
     obtain ⟨i2,hi2,hs2,_⟩:=(hD _ _ hte).info
     rw [hi'] at hi2
     injection hi2 with hi2
     subst hi2
     rw [<- hs2]
     simpa using hl
  . rename_i m e hfs
    split at hpl
    case h_2=>cases hpl
    rename_i te hte
    injection hpl with hpl
    subst hpl
    rw [hfs] at h3
    simp only [srtOk] at h3
    subst h3
    obtain ⟨i2,hi2,hs2,_⟩:=(hD _ _ hte).info
    simp only [h1,hi,hx,hi2,hs2]
    exact hf
  . cases hpl
 refine jo (x:= .agg xs') hg ?_ hR' h
 have:=run_build (P:=P) w T0 (parts.map fun p=>(p.1,a.eval p.2)) xs' (by simpa using hb)
 simp only [execOp,ho,Sem.run_bind,this,Result.andThen_ok,Sem.run_pure]
theorem J3 (z:List T): ∀m,(repT z m).length=m*z.length
 | 0=>by simp [repT]
 | m+1=>by simp [repT,J3 z m,Nat.succ_mul,Nat.add_comm]
theorem repT_get (z:List T): ∀(len i:Nat),i<len*z.length->(repT z len)[i]? =z[i%z.length]?
 | 0,i,h=>by simp at h
 | len+1,i,h=>by
  rw [repT]
  by_cases hi:i<z.length
  . rw [List.getElem?_append_left hi,Nat.mod_eq_of_lt hi]
  . rw [List.getElem?_append_right (by omega),repT_get z len _ (by rw [Nat.succ_mul] at h;omega)]
    rw [show i%z.length=(i-z.length)%z.length from Nat.mod_eq_sub_mod (by omega)]
theorem Xf (e:El): ∀(m:Nat) (cs:List T) (l:List (ty e)),cs.length=m*sz e->decs e m cs=some l->l.length=m/\ ∀(j:Nat) (u:T),(encs e l)[j]? =some u-> ∃c,cs[j]? =some c/\ ∀(g:G P) (z:Value),R g c z->R g u z
 | 0,cs,l,_,h=>by simp [decs] at h;subst h;simp [encs]
 | m+1,cs,l,hl,h=>by
  simp only [decs] at h
  split at h
  case h_2=>cases h
  rename_i x l' hx hl'
  injection h with h
  subst h
  obtain ⟨d1,d2⟩:=dec_ok e _ x hx
  obtain ⟨e1,e2⟩:=Xf e m _ l' (by rw [List.length_drop,hl,Nat.succ_mul];omega) hl'
  refine ⟨by simp [e1],fun j u hj=> ?_⟩
  rw [vg] at hj
  by_cases hjs:j<sz e
  . rw [List.getElem?_append_left (by rw [zb];exact hjs)] at hj
    obtain ⟨c,c1,c2⟩:=d2 j u hj
    rw [List.getElem?_take_of_lt hjs] at c1
    exact ⟨c,c1,c2⟩
  . rw [List.getElem?_append_right (by rw [zb];omega),zb] at hj
    obtain ⟨c,c1,c2⟩:=e2 _ u hj
    rw [List.getElem?_drop,show sz e+(j-sz e)=j by omega] at c1
    exact ⟨c,c1,c2⟩
theorem xy.mono1 {K1:Kn} (h:xy P o a g st w K1 X) (hm: ∀(v:T) (s:St) (x:Value) (g':G P),K1 v s->R g' v x-> ∃u,K u s/\R g' u x):xy P o a g st w K X:=fun K' Q' h1 h2=>
 h K' Q' (fun v s' x g' w' hk hg' hl hs hr=>by
  obtain ⟨u,u1,u2⟩:=hm v s' x g' hk hr
  exact h1 u s' x g' w' u1 hg' hl hs u2) h2
theorem toAl_ok {e:El} {v:T} {x:Value} {K1:T->Prop} (h:toAl e v K1) (hR:R g v x): ∃u,K1 u/\R g u x:=by
 unfold toAl at h
 split at h
 case h_2=>exact h.elim
 rename_i cs
 split at h
 case h_2=>exact h.elim
 rename_i l hl
 split at h
 case h_2=>exact h.elim
 rename_i hd
 have hd:=of_decide_eq_true hd
 have hp:=vH e
 have hdiv:cs.length=cs.length / sz e*sz e:=by
  rw [<- hd,Nat.mul_div_cancel _ hp]
 obtain ⟨d1,d2⟩:=Xf (P:=P) e _ cs l hdiv hl
 refine ⟨_,h, ?_⟩
 cases hR with
 | ag _ xs h1 h2 h3=>
  refine .al e l xs (by rw [qg,hd];exact h1) (fun i c y hc hy=> ?_) h3
  obtain ⟨c0,c1,c2⟩:=d2 i c hc
  exact c2 g y (h2 i c0 y c1 hy)
theorem dok_buildA (hD:zv P D) (hg:Good g st w) (ht:RelT g n t a) {T0:TypeId} {parts:Array (Nat×Operand)} (ho:o.op= .build T0 parts) {e:El}
  (h:wa D T0 (parts.toList.map fun p=>(p.1,ev t p.2)) fun v=>toAl e v fun v=>K v st):xy P o a g st w K X:=
 (Kg (K:=fun v s=>s=st/\toAl e v fun v=>K v st) hD hg ht ho (by
  unfold wa at h ⊢
  split at h
  case h_2=>exact h.elim
  split at h
  case h_2=>exact h.elim
  split at h
  case h_2=>exact h.elim
  exact ⟨rfl,h⟩)).mono1 fun v s x g' hk hr=>by
   obtain ⟨rfl,hk⟩:=hk
   exact toAl_ok hk hr
theorem dok_allocA (hD:zv P D) (hg:Good g st w) {T0:TypeId} {e:El} (ho:o.op= .alloc T0) (h:dallocA D T0 e st K):xy P o a g st w K X:=by
 unfold dallocA at h
 split at h
 case h_2=>exact h.elim
 rename_i ti hti
 split at h
 case h_2=>exact h.elim
 rename_i z hz hE
 split at h
 case h_2=>exact h.elim
 rename_i l hl
 split at h
 case h_2=>exact h.elim
 rename_i hd
 obtain ⟨d1,d2,d3⟩:=of_decide_eq_true hd
 have hp:=vH e
 have hdiv:z.length=z.length / sz e*sz e:=by rw [<- d1,Nat.mul_div_cancel _ hp]
 obtain ⟨_,e2⟩:=Xf (P:=P) e _ z l hdiv hl
 obtain ⟨i,x,h1,h2,h3⟩:=yQ (g:=g) (hD _ _ hti) hz
 have hzr:(zeroValue T0).run P w= .ok x w:=qO (by rw [xl,h1];simp [h2]) w
 exact dok_newA (x:=x) (E:=T0) hg (by simp only [execOp,ho,Instr.alloc,newVar,newRow,newObj,Sem.run_bind,Sem.run_pure,Result.andThen_ok,hzr];rfl) h3 d1 d2 d3 hE (fun j u hj=>by
  obtain ⟨c,c1,c2⟩:=e2 j u hj
  exact ⟨c,c1,fun g y=>c2 g y⟩) h
theorem VP (hD:zv P D) (hg:Good g st w) (ht:RelT g n t a) {T0:TypeId} {len:Nat} {parts:Array (Nat×Operand)} (ho:o.op= .buildSlice T0 len parts) (h:zU D T0 len (parts.toList.map fun p=>(p.1,ev t p.2)) fun v=>K v st):xy P o a g st w K X:=by
 have hparts:(parts.map fun p=>(p.1,a.eval p.2)).toList=parts.toList.map fun p=>(p.1,a.eval p.2):=by simp
 unfold zU at h
 split at h
 . split at h
   case h_2=>exact h.elim
   rename_i hps hti
   rename_i ti
   split at h
   case h_2=>exact h.elim
   rename_i e hs
   have hu:=zj (hD _ _ hti) hs
   obtain ⟨i,hi⟩:=slice_info (hD _ _ hti) hs
   have hp0:parts.toList=[]:=by simpa using hps
   have hrun:(execOp a.eval o).run P w= .ok (.value (.slice (some ⟨w.heap.size,0,none⟩) 0 0)) (w.alloc (.cells #[] e)):=by
    have hsz:(sizeOf e).run P w= .ok i.size w:=qO (by rw [jd,hi];rfl) w
    have hun:(underlying T0).run P w= .ok (.slice e) w:=qO (by rw [zB,hu]) w
    have eR:(Array.range 0).map (fun i=>(#[]:Array Value)[i%(#[]:Array Value).size]!)= #[]:=by simp
    simp only [execOp,ho,Instr.buildSlice,Sem.run_bind,hun,Result.andThen_ok,hsz]
    rw [if_neg (by omega)]
    simp only [Sem.run_bind,Sem.run_pure,Result.andThen_ok,hparts,hp0,Nat.zero_mul,if_true,List.map_nil,Instr.fill,eR]
    rfl
   intro K' Q' hK' _
   unfold Oper.wp
   rw [hrun]
   obtain ⟨k1,k2,k3⟩:=good_ro (cs:=[]) (blk:= #[]) (E:=e) (w':=w.alloc (.cells #[] e)) hg ⟨by simp,by simp⟩ rfl rfl rfl rfl
   exact hK' _ _ _ _ _ h k1 ⟨k3,fun _ _ _=>rfl⟩ k2 (.nil _)
 . rename_i m
   split at h
   case h_2=>exact h.elim
   rename_i ti hti
   split at h
   case h_2=>exact h.elim
   rename_i te' hs
   split at h
   case h_2=>exact h.elim
   rename_i te hte
   split at h
   case h_2=>exact h.elim
   rename_i z e hz he
   split at h
   case h_2=>exact h.elim
   rename_i hle
   have hle:=of_decide_eq_true hle
   split at h
   case h_2=>exact h.elim
   rename_i cs hcs
   split at h
   case h_2=>exact h.elim
   rename_i l hl
   have hu:=zj (hD _ _ hti) hs
   obtain ⟨ie,x,hi,hx,hR⟩:=yQ (g:=g) (hD _ _ hte) hz
   obtain ⟨ie',hi2,hi',_,hz4⟩:=(hD _ _ hte).info
   rw [hi] at hi2
   injection hi2 with hi2
   subst hi2
   rw [show Nat.succ m=m+1 from rfl] at hcs hl hle ho
   obtain ⟨hse,_⟩:=(hD _ _ hte).el e he
   have hp:=vH e
   have hsize0:te.size=te.size:=rfl
   generalize hsize:te.size=size at hsize0 hcs hle hse hi' ⊢
   generalize hlen:m+1=len at *
   cases hR with
   | ag _ _ r1 r2 r3=>
   have hzl:z.length=size:=by
    rw [<- hsize];exact (hz4 z hz).2
   have hzs:x.cells.size=size:=by omega
   let X:Array Value:=(Array.range (len*size)).map (x.cells[· %x.cells.size]!)
   have hX: ∀i,i<len*size->X[i]? =x.cells[i%size]? :=by
    intro i hi
    have hm:i%size<x.cells.size:=by rw [hzs];exact Nat.mod_lt _ (by omega)
    simp only [X,Array.getElem?_map,Array.getElem?_range,if_pos hi,Option.map_some,hzs]
    simp [getElem!_def,hm]
   have hfl:(repT z len).length=len*size:=by rw [J3,hzl]
   have hXs:X.size=len*size:=by simp [X]
   have hR0:R g (.ag (repT z len)) (.agg X):=by
    refine .ag _ _ (by rw [hfl,hXs]) (fun i c y hi hy=> ?_) (fun i y hy=> ?_)
    . have hlt:i<len*size:=by rw [<- hXs];exact (Array.getElem?_eq_some_iff.1 hy).1
      rw [hX i hlt] at hy
      rw [repT_get z len i (by rw [hzl];exact hlt),hzl] at hi
      exact r2 _ _ _ hi hy
    . have hlt:i<len*size:=by rw [<- hXs];exact (Array.getElem?_eq_some_iff.1 hy).1
      rw [hX i hlt] at hy
      exact r3 _ _ hy
   obtain ⟨xs',hf,hR',hcl⟩:=K5 ht parts.toList _ cs X hR0 hcs
   have hrun:(execOp a.eval o).run P w= .ok (.value (.slice (some ⟨w.heap.size,0,none⟩) len len)) (w.alloc (.cells xs' te')):=by
    have hsz:(sizeOf te').run P w= .ok size w:=qO (by rw [jd,hi];simp [hi']) w
    have hun:(underlying T0).run P w= .ok (.slice te') w:=qO (by rw [zB,hu]) w
    have hz0:(zeroValue te').run P w= .ok x w:=qO (by rw [xl,hi];simp [hx]) w
    have hne: ¬len*size=0:=by
     have:0<len*size:=Nat.mul_pos (by omega) (by omega)
     omega
    have eX:(Array.range (len*size)).map (fun i=>x.cells[i%x.cells.size]!)=X:=rfl
    simp only [execOp,ho,Instr.buildSlice,Sem.run_bind,hun,Result.andThen_ok,hsz]
    rw [if_neg (by omega)]
    simp only [Sem.run_bind,Sem.run_pure,Result.andThen_ok,hparts]
    rw [if_neg hne]
    simp only [Sem.run_bind,Sem.run_pure,Result.andThen_ok,hz0,eX,hf]
    rfl
   intro K' Q' hK' _
   unfold Oper.wp
   rw [hrun]
   obtain ⟨d1,d2⟩:=Xf (P:=P) e len cs l (by rw [hcl,hfl,hse]) hl
   cases hR' with
   | ag _ _ q1 q2 q3=>
   have hcells:Cells g (encs e l) xs':=⟨by rw [qg,d1,hse];omega,fun j u hj=>by
    obtain ⟨c,c1,c2⟩:=d2 j u hj
    have hlt:j<xs'.size:=by rw [<- q1];exact (List.getElem?_eq_some_iff.1 c1).1
    exact ⟨xs'[j],Array.getElem?_eq_getElem hlt,q3 _ _ (Array.getElem?_eq_getElem hlt),c2 g _ (q2 _ _ _ c1 (Array.getElem?_eq_getElem hlt))⟩⟩
   obtain ⟨k1,k2,k3⟩:=good_ro (cs:=encs e l) (blk:=xs') (E:=te') (w':=w.alloc (.cells xs' te')) hg hcells rfl rfl rfl rfl
   refine hK' _ _ _ _ _ h k1 ⟨k3,fun _ _ _=>rfl⟩ k2 ?_
   rw [<- d1]
   refine .sl true e l _ _ (Nat.le_refl _) (by
    have:len<=len*size:=Nat.le_mul_of_pos_right _ (by omega)
    simp only [maxLen];omega) (fun _=>rfl) fun _=>⟨w.heap.size,0,encs e l,rfl,by simp, ?_⟩
   rw [List.drop_zero,List.take_of_length_le (by rw [qg];exact Nat.le_refl _)]
end
end Go.Proofs.YtbglndogddddoaaGreatDoor
namespace Go.Proofs.YtbglndogddddoaaGreatDoor
open Go.RowKit
variable {P:Program} [Bd P]
theorem jG {zs:Array Value} {n:Nat}:(Builtin.zeroCells zs n).toList.length=n*zs.size:=by simp [Builtin.zeroCells]
theorem jF {zs:Array Value} {n j:Nat} (h:j<n*zs.size):(Builtin.zeroCells zs n).toList[j]? =zs[j%zs.size]? :=by
 have hp:0<zs.size:=by
  rcases Nat.eq_zero_or_pos zs.size with h0 | h0
  . rw [h0] at h;simp at h
  . exact h0
 have hm:=Nat.mod_lt j hp
 simp [Builtin.zeroCells,h,hm]
section
variable {P:Program} [Bd P] {D:TD} {g:G P} {st:St} {w:World} {n:Nat} {t:Tm} {a:Act} {o:Oper} {K X:Kn}
theorem kX {α:Type} {l:List α} {off n:Nat} {y:α} (h:off+n<=l.length):(zI l off n y).length=l.length:=by simp [zI];omega
theorem XZ {α:Type} {l:List α} {off n:Nat} {y:α} (h:off+n<=l.length) (p:Nat):(zI l off n y)[p]? =if off<=p/\p<off+n then some y else l[p]? :=by
 unfold zI
 by_cases h1:p<off
 . rw [List.getElem?_append_left (by simp;omega),List.getElem?_take_of_lt h1,if_neg (by omega)]
 . rw [List.getElem?_append_right (by simp;omega)]
   have hl:(l.take off).length=off:=by simp;omega
   rw [hl]
   by_cases h2:p<off+n
   . rw [List.getElem?_append_left (by simp;omega),if_pos (by omega),List.getElem?_replicate,if_pos (by omega)]
   . rw [List.getElem?_append_right (by simp;omega),if_neg (by omega),List.getElem?_drop]
     congr 1
     have:(List.replicate n y).length=n:=List.length_replicate
     omega
theorem VJ (hg:Good g st w) {T0 E0:TypeId} {te:TI} (hu:P.underlying T0=some (.slice E0)) (hT:TIok P E0 te) {X0:Operand} (ho:o.op= .call {callee:= .builtin .clear,args:= #[X0],argTypes:= #[T0]}) {e:El} (he:te.el=some e) {z:List T} (hz:te.zero=some z) {y:ty e} (hy:dec e z=some y)
  {k ver:Nat} {l:List (ty e)} (hk:st[k]? =some (some (.arr ver e l))) {oi:OI} (hoi:g.ob k ver=some oi) {off m c:Nat} {A:Option Addr} (hex:a.eval X0= .slice A m c) (hA:m≠0->A=some ⟨oi.b,off*sz e,none⟩) (hm:off+m<=l.length) (hK:K .undef (st.set k (some (.arr ver e (zI l off m y))))):xy P o a g st w K X:=by
 obtain ⟨oi',h1,f1,f2,f3,f4⟩:=hg.arr hk
 rw [hoi] at h1
 injection h1 with h1
 subst h1
 have hkl:k<st.length:=(List.getElem?_eq_some_iff.1 hk).1
 by_cases h0:m=0
 . subst h0
   have:st.set k (some (.arr ver e (zI l off 0 y)))=st:=by
    have hc:zI l off 0 y=l:=by simp [zI]
    rw [hc]
    refine List.ext_getElem? fun i=> ?_
    rw [List.getElem?_set]
    split
    . rename_i e1;subst e1;first | (rw [hk]) | (rw [if_pos hkl,hk])
    . rfl
   rw [this] at hK
   refine qy (x:= .tuple #[]) hg ?_ (.undef _) hK
   cases A<;>simp [execOp,ho,resolve,invoke,builtin,Builtin.clear_,hex,qx,hu]
 have hA:=hA h0
 subst hA
 have hcap:oi.cap≠0:=by omega
 obtain ⟨g0,blk,E,fr,g1,g2,g3,g4⟩:=f4 hcap
 obtain ⟨i,x,hi,hix,hx⟩:=yQ (g:=g) hT hz
 obtain ⟨d1,d2⟩:=dec_ok e z y hy
 have hp:=vH e
 cases hx with
 | ag _ _ r1 r2 r3=>
 have hxs:x.cells.size=sz e:=by rw [<- r1,d1]
 have hlen:(Builtin.zeroCells x.cells m).toList.length=m*sz e:=by rw [jG,hxs]
 have hb:off*sz e+m*sz e<=l.length*sz e:=by rw [<- Nat.add_mul];exact Nat.mul_le_mul_right _ hm
 have hle:=g3.le
 rw [qg] at hle
 have hall: ∀v∈(Builtin.zeroCells x.cells m).toList,v.oneCell'=true:=by
  intro v hv
  obtain ⟨j,hj⟩:=List.getElem?_of_mem hv
  have hjl:=(List.getElem?_eq_some_iff.1 hj).1
  rw [jG] at hjl
  rw [jF hjl] at hj
  exact r3 _ v hj
 obtain ⟨w',blk',a1,a2,a3,a4,a5,a6,a7,a8,a9⟩:=xV (P:=P) oi.b (off*sz e) (Builtin.zeroCells x.cells m).toList 0 w blk E fr g1 g2 (by rw [hlen];omega) hall
 have hz0: ∀w,(zeroValue E0).run P w= .ok x w:=fun w=>qO (by rw [xl,hi];simp [hix]) w
 have hrun:(execOp a.eval o).run P w= .ok (.value (.tuple #[])) w':=by
  obtain ⟨m',rfl⟩: ∃m',m=m'+1:=⟨m-1,by omega⟩
  simp [execOp,ho,resolve,invoke,builtin,Builtin.clear_,hex,run_underlying hu,hz0,a1]
 intro K' Q' hK' _
 unfold Oper.wp
 rw [hrun]
 have hn: ¬(qm (.arr ver e l)=true/\oi.cap=0):=by simp [hcap]
 have hcells: ∀(j:Nat) (u:T),(encs e (zI l off m y))[j]? =some u-> ∃x:Value,blk'[j]? =some x/\x.oneCell'=true/\R g u x:=by
  intro j u hj
  have hjl:j< (zI l off m y).length*sz e:=by rw [<- qg];exact (List.getElem?_eq_some_iff.1 hj).1
  rw [kX hm] at hjl
  have hpd:j / sz e<l.length:=Nat.div_lt_of_lt_mul (by rw [Nat.mul_comm];exact hjl)
  have hje:j=j / sz e*sz e+j%sz e:=by rw [Nat.mul_comm];exact (Nat.div_add_mod j (sz e)).symm
  have hr:=Nat.mod_lt j hp
  have hb':=a4 j
  simp only [Nat.add_zero,hlen] at hb'
  generalize hq:j / sz e=p at *
  generalize hrr:j%sz e=r at *
  by_cases hin:off<=p/\p<off+m
  . have hg':(zI l off m y)[p]? =some y:=by rw [XZ hm,if_pos hin]
    rw [hje,ja hg' hr] at hj
    obtain ⟨c0,c1,c2⟩:=d2 r u hj
    have hlo:off*sz e<=j/\j<off*sz e+m*sz e:=by
     have h2:=Nat.mul_le_mul_right (sz e) hin.1
     have h3:p*sz e+sz e<=off*sz e+m*sz e:=by rw [<- Nat.succ_mul, <- Nat.add_mul];exact Nat.mul_le_mul_right _ hin.2
     omega
    rw [if_pos hlo] at hb'
    have hj2:j-off*sz e<m*x.cells.size:=by rw [hxs];omega
    rw [jF hj2,hxs] at hb'
    have hmod:(j-off*sz e)%sz e=r:=by
     rw [hje,show p*sz e+r-off*sz e=r+(p-off)*sz e by rw [Nat.sub_mul];have:=Nat.mul_le_mul_right (sz e) hin.1;omega,Nat.add_mul_mod_self_right,Nat.mod_eq_of_lt hr]
    rw [hmod] at hb'
    have hrl:r<x.cells.size:=by omega
    rw [Array.getElem?_eq_getElem hrl] at hb'
    exact ⟨_,hb',r3 r _ (Array.getElem?_eq_getElem hrl),c2 g _ (r2 r c0 _ c1 (Array.getElem?_eq_getElem hrl))⟩
  . have hg':(zI l off m y)[p]? =some l[p]:=by rw [XZ hm,if_neg hin,List.getElem?_eq_getElem hpd]
    rw [hje,ja hg' hr] at hj
    have hout: ¬(off*sz e<=j/\j<off*sz e+m*sz e):=by
     intro ⟨q1,q2⟩
     apply hin
     rcases Nat.lt_or_ge p off with h2 | h2
     . have:=Nat.mul_le_mul_right (sz e) (show p+1<=off from h2)
       rw [Nat.succ_mul] at this;omega
     . refine ⟨h2, ?_⟩
       rcases Nat.lt_or_ge p (off+m)with h3 | h3
       . exact h3
       . have:=Nat.mul_le_mul_right (sz e) h3
         rw [Nat.add_mul] at this;omega
    rw [if_neg hout] at hb'
    have hold:(encs e l)[j]? =some u:=by rw [hje,ja (List.getElem?_eq_getElem hpd) hr];exact hj
    obtain ⟨v,v1,v2,v3⟩:=g3.at_ j u hold
    exact ⟨v,by rw [hb'];exact v1,v2,v3⟩
 obtain ⟨k1,k2,k3⟩:=qN (st':=st.set k (some (.arr ver e (zI l off m y)))) (o':= .arr ver e (zI l off m y)) (oi:=oi) (w':=w') hg (wb hkl) (by omega) (by simp) rfl (.inr hoi) (fun u oi' hu=>jN hg hk hu) ⟨by rw [kX hm];exact f1,f2,f3⟩
  (fun _=> .inr ⟨_,hk,ze hoi hn⟩) a7 a8 a9 (by omega) (fun b _ hb=>a5 b fun e1=>hb _ hk (by rw [ze hoi hn,e1])) (fun _=>⟨blk',E,fr,a2,by rw [a3];exact g2,⟨by simp only [qQ];rw [a3,qg,kX hm];exact hle,hcells⟩,by simp only [jj];rw [a3];exact g4⟩) (fun o2 ho2=>by
   rw [hk] at ho2
   simp only [Option.some.injEq] at ho2
   subst ho2
   exact ⟨_,_,rfl⟩)
 exact hK' _ _ _ _ _ hK k1 ⟨k3,zu (.inl ⟨_,hk⟩)⟩ k2 (.undef _)
theorem dok_clear (hD:zv P D) (hg:Good g st w) (ht:RelT g n t a) {T0:TypeId} {x:Operand} (ho:o.op= .call {callee:= .builtin .clear,args:= #[x],argTypes:= #[T0]}) {te:TI} (hte:jr D T0=some te) (h:yd te st (ev t x) fun s=>K .undef s):xy P o a g st w K X:=by
 unfold jr at hte
 split at hte
 case h_2=>cases hte
 rename_i ti hti
 split at hte
 case h_2=>cases hte
 rename_i t' hs
 have hu:=zj (hD _ _ hti) hs
 have hT:=hD _ _ hte
 unfold yd at h
 split at h
 case h_2=>exact h.elim
 rename_i e z he hz
 split at h
 case h_2=>exact h.elim
 rename_i y hy
 have hR:=ht.ev x
 generalize hv:ev t x=xv at hR h
 generalize hex:a.eval x=ex at hR
 split at h
 . cases hR with
   | nil A=>
    refine qy (x:= .tuple #[]) hg ?_ (.undef _) h
    cases A<;>simp [execOp,ho,resolve,invoke,builtin,Builtin.clear_,hex,qx,hu]
 . rename_i e' k ver
   split at h
   case isFalse=>exact h.elim
   rename_i hk
   subst hk
   split at h
   case h_2=>exact h.elim
   rename_i l hl
   cases hR with
   | oa _ _ _ oi A p1 p2 p3 p4=>
    have hk:=qi hl
    obtain ⟨oi',h1,f1,f2,f3,_⟩:=hg.arr hk
    rw [p1] at h1
    injection h1 with h1
    subst h1
    rw [<- f1] at h
    exact VJ hg hu hT ho he hz hy hk p1 (off:=0) hex (fun h0=>by rw [Nat.zero_mul];exact p2 (by omega)) (by omega) h
 . rename_i e' k ver off m
   split at h
   case isFalse=>exact h.elim
   rename_i hk
   subst hk
   split at h
   case h_2=>exact h.elim
   rename_i l hl
   cases hR with
   | os _ _ _ _ _ oi A c p1 p2 p3 p4 p5 p6=>
    have hk:=qi hl
    obtain ⟨oi',h1,f1,f2,f3,_⟩:=hg.arr hk
    rw [p1] at h1
    injection h1 with h1
    subst h1
    exact VJ hg hu hT ho he hz hy hk p1 hex (fun hn=>p3 (by omega)) (by omega) h
 . exact h.elim
end
end Go.Proofs.YtbglndogddddoaaGreatDoor
namespace Go.Proofs.YtbglndogddddoaaGreatDoor
open Go.RowKit Go.Lib
variable {P:Program} [Bd P]
section
variable {P:Program} [Bd P] {D:TD} {g:G P} {st:St} {w:World} {n:Nat} {t:Tm} {a:Act} {o:Oper} {K X:Kn}
structure Src (g:G P) (w:World) (e:El) (l:List (ty e)) (A:Option Addr) (news:List Value):Prop where
 len:news.length=l.length*sz e
 none_:A=none->l.length=0
 cell: ∀b,A=some b-> ∀(j:Nat) (u:Value),news[j]? =some u->w.cell? (b.add j)=some u
 one: ∀u∈news,u.oneCell'=true
 val: ∀(j:Nat) (u:T) (y:Value),(encs e l)[j]? =some u->news[j]? =some y->R g u y
theorem Src.nil {e:El} {A:Option Addr}:Src g w e [] A []:=⟨by simp,fun _=>rfl,by simp,by simp,by simp⟩
theorem Src.of {e:El} {l:List (ty e)} {b off:Nat} (h:zS g w (encs e l) b off): ∃news,Src g w e l (some ⟨b,off,none⟩) news:=by
 obtain ⟨news,n1,n2⟩:=kV (l.length*sz e) (p:=fun j y=> ∃u,(encs e l)[j]? =some u/\w.cell? ⟨b,off+j,none⟩=some y/\y.oneCell'=true/\R g u y) (fun j hj=>by
  have hu:(encs e l)[j]? =some ((encs e l)[j]'(by rw [qg];exact hj)):=by simp
  obtain ⟨y,y1,y2,y3⟩:=h j _ hu
  exact ⟨y,_,hu,y1,y2,y3⟩)
 refine ⟨news,n1,by simp,fun b' hb j u hj=> ?_,fun u hu=> ?_,fun j u y hu hy=> ?_⟩
 . injection hb with hb
   subst hb
   obtain ⟨_,_,k2,_⟩:=n2 j u hj
   rw [Addr.add_lit];exact k2
 . obtain ⟨j,hj⟩:=List.getElem?_of_mem hu
   obtain ⟨_,_,_,k3,_⟩:=n2 j u hj
   exact k3
 . obtain ⟨u',k1,_,_,k4⟩:=n2 j y hy
   rw [hu] at k1;injection k1 with k1;subst k1;exact k4
theorem src_arr (hg:Good g st w) {e:El} {k ver:Nat} {l:List (ty e)} (hl:zT st e k ver=some l) {oi:OI} (hoi:g.ob k ver=some oi) (off m:Nat) (hm:off+m<=l.length) {A:Option Addr} (hA:m≠0->A=some ⟨oi.b,off*sz e,none⟩): ∃news,Src g w e ((l.drop off).take m) A news:=by
 obtain ⟨oi',h1,h2,h3,_,h4⟩:=hg.arr (qi hl)
 rw [hoi] at h1
 injection h1 with h1
 subst h1
 by_cases hm0:m=0
 . subst hm0
   exact ⟨[],by rw [List.take_zero];exact Src.nil⟩
 . rw [hA hm0]
   obtain ⟨_,blk,E,fr,b1,_,b2,_⟩:=h4 (by omega)
   refine Src.of ?_
   rw [<- wA, <- vh]
   exact (zS.of b2 b1 _).take _
theorem src_ok (hg:Good g st w) {e:El} {v:T} {x:Value} {K:List (ty e)->Prop} (hR:R g v x) (h:xX st e v K): ∃l A c news,K l/\x= .slice A l.length c/\Src g w e l A news:=by
 unfold xX at h
 split at h
 . cases hR with
   | nil A=>exact ⟨[],A,0,[],h,rfl,Src.nil⟩
 . rename_i full e' l
   split at h
   case isFalse=>exact h.elim
   rename_i he
   subst he
   cases hR with
   | sl _ _ _ A c h1 h2 h3 h4=>
    by_cases hne:l=[]
    . subst hne
      exact ⟨[],A,c,[],h,rfl,Src.nil⟩
    . obtain ⟨b,off,cs,rfl,hro,henc⟩:=h4 hne
      obtain ⟨blk,E,fr,b1,b2⟩:=hg.ro b cs hro
      obtain ⟨news,hs⟩:=Src.of (e:=e') (l:=l) (b:=b) (off:=off) (g:=g) (w:=w) (by rw [<- henc];exact zS.ofR b2 b1 _ _ (by rw [henc];exact zW))
      exact ⟨l,_,c,news,h,rfl,hs⟩
 . rename_i e' k ver
   split at h
   case isFalse=>exact h.elim
   rename_i he
   subst he
   split at h
   case h_2=>exact h.elim
   rename_i l hl
   cases hR with
   | oa _ _ _ oi A p1 p2 p3 p4=>
    obtain ⟨oi',q1,q2,q3,_⟩:=hg.arr (qi hl)
    rw [p1] at q1
    injection q1 with q1
    subst q1
    obtain ⟨news,hs⟩:=src_arr hg hl p1 0 l.length (by omega) (A:=A) (fun hn=>by rw [p2 (by omega)];simp)
    rw [List.drop_zero,List.take_of_length_le (Nat.le_refl _)] at hs
    exact ⟨l,A,_,news,h,by rw [q2],hs⟩
 . rename_i e' k ver off m
   split at h
   case isFalse=>exact h.elim
   rename_i he
   subst he
   split at h
   case h_2=>exact h.elim
   rename_i l hl
   cases hR with
   | os _ _ _ _ _ oi A c p1 p2 p3 p4 p5 p6=>
    obtain ⟨oi',q1,q2,q3,_⟩:=hg.arr (qi hl)
    rw [p1] at q1
    injection q1 with q1
    subst q1
    obtain ⟨news,hs⟩:=src_arr hg hl p1 off m (by omega) (fun hn=>p3 (by omega))
    refine ⟨_,A,c,news,h, ?_,hs⟩
    have:((l.drop off).take m).length=m:=by simp;omega
    rw [this]
 . exact h.elim
theorem Cells.new {cs ds:List T} {olds news:List Value} {rest:Array Value} (h1:cs.length=olds.length) (h2:ds.length=news.length) (r1: ∀(j:Nat) (u:T) (y:Value),cs[j]? =some u->olds[j]? =some y->R g u y) (r2: ∀(j:Nat) (u:T) (y:Value),ds[j]? =some u->news[j]? =some y->R g u y)
  (o1: ∀u∈olds,u.oneCell'=true) (o2: ∀u∈news,u.oneCell'=true):Cells g (cs++ds) (olds.toArray++news.toArray++rest):=by
 refine ⟨by simp;omega,fun j u hu=> ?_⟩
 have hj:j<olds.length+news.length:=by have:=(List.getElem?_eq_some_iff.1 hu).1;simp at this;omega
 by_cases e:j<olds.length
 . rw [List.getElem?_append_left (by omega)] at hu
   refine ⟨olds[j], ?_,o1 _ (List.getElem_mem e),r1 j u _ hu (List.getElem?_eq_getElem e)⟩
   rw [Array.getElem?_append_left (by simp;omega),Array.getElem?_append_left (by simpa using e)]
   simp [e]
 . rw [List.getElem?_append_right (by omega)] at hu
   have e':j-olds.length<news.length:=by omega
   refine ⟨news[j-olds.length], ?_,o2 _ (List.getElem_mem e'),r2 _ u _ (by rw [<- h1];exact hu) (List.getElem?_eq_getElem e')⟩
   rw [Array.getElem?_append_left (by simp;omega),Array.getElem?_append_right (by simp;omega)]
   simp [e']
theorem kR (hg:Good g st w) {te:TypeId} {ti:TI} (hT:TIok P te ti) {x y:Operand} {ts:Array TypeId} (ho:o.op= .call {callee:= .builtin .append,args:= #[x,y],argTypes:=ts}) {e:El} (he:ti.el=some e) {z:List T} (hz:ti.zero=some z) {l m:List (ty e)} {A:Option Addr} {c:Nat} {olds news:List Value}
  (h1:Src g w e l A olds) (n1:news.length=m.length*sz e) (n2: ∀u∈news,u.oneCell'=true) (n3: ∀(j:Nat) (u:T) (y:Value),(encs e m)[j]? =some u->news[j]? =some y->R g u y) (hc:c<l.length+m.length) (hroom:(l.length+m.length)*ti.bytes<=140737488355328)
  (hrun: ∀(ie:TypeInfo) (xz:Value),P.info? te=some ie->ie.zero=some xz->(Builtin.append_ ts o.type #[a.eval x,a.eval y]).run P w= .ok (.slice (some ⟨w.heap.size,0,none⟩) (l.length+m.length) (grownCap w (l.length+m.length) c te)) (w.drew.alloc (.cells (olds.toArray++news.toArray++Builtin.zeroCells xz.cells (grownCap w (l.length+m.length) c te- (l.length+m.length))) te)))
  {k v:Nat} {st':St} (hst: ∀i,st'[i]? =if i=k then some (some (.arr v e (l++m)))else st[i]?) (hk:k<=st.length) (hkk:(∃o,st[k]? =some (some o))∨k=st.length) (hl:st.length<=st'.length) (hnew:g.ob k v=none) (hver: ∀u oi,g.ob k u=some oi->u<=v) (hkept: ∀o,st[k]? =some (some o)-> ∃v' l',o= .arr v' e l') (hK:K (.oa e k v) st'):xy P o a g st w K X:=by
 obtain ⟨ie,xz,hi,hxz,hRz⟩:=yQ (g:=g) hT hz
 obtain ⟨ie',hi2,hi',hby,hz4⟩:=hT.info
 rw [hi] at hi2
 injection hi2 with hi2
 subst hi2
 obtain ⟨hse,hb0⟩:=hT.el e he
 have hp:=vH e
 have hzs:xz.cells.size=sz e:=by
  have:=(hz4 z hz).2
  cases hRz with | ag _ _ r1 _ _=>omega
 have h63:l.length+m.length<=maxLen:=by
  have:l.length+m.length<=(l.length+m.length)*ti.bytes:=Nat.le_mul_of_pos_right _ hb0
  simp only [maxLen];omega
 have hrun:=hrun ie xz hi hxz
 obtain ⟨gc1,gc2⟩:=yG w (l.length+m.length) c te h63
 intro K' Q' hK' _
 unfold Oper.wp
 rw [jA ho hrun]
 have hbs:(olds.toArray++news.toArray++Builtin.zeroCells xz.cells (grownCap w (l.length+m.length) c te- (l.length+m.length))).size=grownCap w (l.length+m.length) c te*sz e:=by
  simp only [Array.size_append,List.size_toArray,h1.len,n1,XY,hzs]
  rw [<- Nat.add_mul, <- Nat.add_mul]
  congr 1;omega
 have hrow:=Cells.new (rest:=Builtin.zeroCells xz.cells (grownCap w (l.length+m.length) c te- (l.length+m.length))) (by rw [qg,h1.len]) (by rw [qg,n1]) h1.val n3 h1.one n2
 rw [<- Xv] at hrow
 generalize olds.toArray++news.toArray++Builtin.zeroCells xz.cells (grownCap w (l.length+m.length) c te- (l.length+m.length))=BLK at hbs hrow ⊢
 obtain ⟨k1,k2,k3⟩:=qN (st':=st') (k:=k) (v:=v) (o':= .arr v e (l++m)) (oi:=⟨w.heap.size,l.length+m.length,grownCap w (l.length+m.length) c te⟩) (w':=w.drew.alloc (.cells BLK te)) hg hst hk hl rfl (.inl hnew) hver ⟨by simp,gc1,gc2⟩
  (fun _=> .inl (Nat.le_refl _)) rfl rfl rfl (by simp) (fun b hb _=>Below.heap_alloc w.drew _ b hb) (fun _=>⟨BLK,te,(0,0),heap_alloc_new w.drew _,fun q _ h=>absurd h.2 (Nat.not_lt_zero _),hrow,by simp only [jj];exact ⟨by omega,hT.elt e he⟩⟩) (fun o ho=>by
   obtain ⟨v',l',rfl⟩:=hkept o ho
   exact ⟨_,_,rfl⟩)
 exact hK' _ _ _ _ _ hK k1 ⟨k3,zu hkk⟩ k2 (.oa e k v ⟨w.heap.size,l.length+m.length,grownCap w (l.length+m.length) c te⟩ _ (by simp [G.set]) (fun _=>by simp) gc1 gc2)
theorem encs_rep {e:El} {y:ty e} {m j:Nat} {u:T} (h:(encs e (List.replicate m y))[j]? =some u):j<m*sz e/\(enc e y)[j%sz e]? =some u:=by
 have hp:=vH e
 have hjl:j<m*sz e:=by have:=(List.getElem?_eq_some_iff.1 h).1;rwa [qg,List.length_replicate] at this
 have hpd:j / sz e<m:=Nat.div_lt_of_lt_mul (by rw [Nat.mul_comm];exact hjl)
 have hje:j=j / sz e*sz e+j%sz e:=by rw [Nat.mul_comm];exact (Nat.div_add_mod j (sz e)).symm
 rw [hje,ja (x:=y) (by simp [hpd]) (Nat.mod_lt j hp)] at h
 exact ⟨hjl,h⟩
theorem dok_appendZ (hD:zv P D) (hg:Good g st w) (ht:RelT g n t a) {T0 T1:TypeId} {x y:Operand} (ho:o.op= .call {callee:= .builtin .append,args:= #[x,y],argTypes:= #[T0,T1]}) {te ti1:TI} {k:IntKind} (hte:jr D T0=some te) (hti1:qR D T1=some ti1) (hs1:ti1.srt= .int k) {e':El} {l:List (ty e')} {k1:IntKind} {m:Int}
  (hx:ev t x= .sl true e' l) (hy:ev t y= .int k1 m) (h:vu te st e' l m K):xy P o a g st w K X:=by
 unfold jr at hte
 split at hte
 case h_2=>cases hte
 rename_i ti hti
 split at hte
 case h_2=>cases hte
 rename_i t' hs
 have hu:=zj (hD _ _ hti) hs
 have hU:=va (hD _ _ hti1) hs1
 have hT:=hD _ _ hte
 unfold vu at h
 split at h
 case h_2=>exact h.elim
 rename_i e z he hz
 split at h
 case h_2=>exact h.elim
 rename_i y0 hy0
 split at h
 case isFalse=>exact h.elim
 rename_i he'
 subst he'
 obtain ⟨hm,hroom,hK⟩:=h
 obtain ⟨m,rfl⟩: ∃n:Nat,m=(n:Int):=⟨m.toNat,by omega⟩
 have hm:0<m:=by omega
 rw [Int.toNat_natCast] at hroom hK
 have hR:=ht.ev x
 rw [hx] at hR
 have hyv:a.eval y= .int k1 (m:Int):=vG (by have:=ht.ev y;rw [hy] at this;exact this)
 obtain ⟨ie',hi2,hi',hby,hz4⟩:=hT.info
 obtain ⟨hse,hb0⟩:=hT.el e' he
 have hp:=vH e'
 obtain ⟨ie,xz,hi,hxz,hRz⟩:=yQ (g:=g) hT hz
 rw [hi] at hi2
 injection hi2 with hi2
 subst hi2
 obtain ⟨d1,d2⟩:=dec_ok e' z y0 hy0
 cases hRz with
 | ag _ _ r1 r2 r3=>
 have hxs:xz.cells.size=sz e':=by rw [<- r1,d1]
 have h63:l.length+m<=maxLen:=by
  have:l.length+m<=(l.length+m)*te.bytes:=Nat.le_mul_of_pos_right _ hb0
  simp only [maxLen];omega
 obtain ⟨l2,A,c,olds,hl2,hxv,hsrcx⟩:=src_ok (e:=e') (K:=fun l2=>l2=l) hg (x:=a.eval x) (v:= .sl true e' l) hR (by simp [xX,zD])
 subst hl2
 obtain ⟨A',c',hs',_,_,hfull⟩:=vY hR
 rw [hxv] at hs'
 simp only [Value.slice.injEq,true_and] at hs'
 obtain ⟨rfl,rfl⟩:=hs'
 have hlen:(Builtin.zeroCells xz.cells m).toList.length=m*sz e':=by rw [jG,hxs]
 refine kR (m:=List.replicate m y0) (news:=(Builtin.zeroCells xz.cells m).toList) (A:=A) (c:=c) hg hT ho he hz hsrcx (by rw [hlen,List.length_replicate]) (fun v hv=> ?_) (fun j u v hj hv=> ?_) (by rw [hfull rfl,List.length_replicate];omega) (by rw [List.length_replicate];exact hroom) (fun ie2 xz2 hi2 hxz2=> ?_) jh (Nat.le_refl _) (.inr rfl) (by simp) (zK hg) (fun u oi hu=>by rw [zK hg] at hu;cases hu) (fun o ho=>by rw [List.getElem?_eq_none (Nat.le_refl _)] at ho;cases ho) hK
 . obtain ⟨j,hj⟩:=List.getElem?_of_mem hv
   have hjl:=(List.getElem?_eq_some_iff.1 hj).1
   rw [jG] at hjl
   rw [jF hjl] at hj
   exact r3 _ v hj
 . obtain ⟨hjl,hj⟩:=encs_rep hj
   rw [jF (by rw [hxs];exact hjl),hxs] at hv
   obtain ⟨c0,c1,c2⟩:=d2 _ u hj
   exact c2 g _ (r2 _ c0 _ c1 hv)
 . rw [hi] at hi2
   injection hi2 with hi2
   subst hi2
   rw [hxz] at hxz2
   injection hxz2 with hxz2
   subst hxz2
   rw [hxv,hyv,List.length_replicate,Array.toArray_toList]
   exact JD hu hU hi hxz A l2.length c m k1 olds (by rw [hsrcx.len,hi',hse]) (fun hn=>⟨hsrcx.none_ hn,by rw [hfull rfl];exact hsrcx.none_ hn⟩) hsrcx.cell hm (by rw [hi', <- hse];exact hp) (by rw [hfull rfl];omega) h63 (by rw [hby];exact hroom)
theorem run_make {T0 te:TypeId} {ie:TypeInfo} {xz:Value} (hu:P.underlying T0=some (.slice te)) (hi:P.info? te=some ie) (hz:ie.zero=some xz) (hsz:ie.size=xz.cells.size) (hb:0<ie.bytes) (m:Nat) (hroom:m*ie.bytes<=140737488355328):
  (Instr.makeSlice T0 (.int .i64 m) (.int .i64 m)).run P w= .ok (.slice (some ⟨w.heap.size,0,none⟩) m m) (w.alloc (.cells (Builtin.zeroCells xz.cells m) te)):=by
 have hm:m<=140737488355328:=Nat.le_trans (Nat.le_mul_of_pos_right _ hb) hroom
 have hw:IntKind.i64.wrap (m:Int)=m:=by simp [IntKind.wrap,IntKind.min,IntKind.max,IntKind.bits,IntKind.signed];omega
 have hq: ¬((ie.bytes:Int)*(m:Int) >2^48):=by
  have:((ie.bytes:Int)*(m:Int))=((m*ie.bytes:Nat):Int):=by rw [Int.natCast_mul,Int.mul_comm]
  rw [this];omega
 have hun:(underlying T0).run P w= .ok (.slice te) w:=qO (by rw [zB,hu]) w
 have hti:(typeInfo te).run P w= .ok ie w:=by simp [typeInfo,hi]
 have hsz':(sizeOf te).run P w= .ok ie.size w:=qO (by rw [jd,hi];rfl) w
 have hz':(zeroValue te).run P w= .ok xz w:=qO (by rw [xl,hi];simp [hz]) w
 have hai:(Go.asInt (.int .i64 (m:Int))).run P w= .ok (m:Int) w:=rfl
 have hneg: ¬((m:Int) <0):=by omega
 have hgt: ¬((m:Int) > (m:Int)):=by omega
 simp only [Instr.makeSlice,Sem.run_bind,hun,Result.andThen_ok,hai,Sem.run_pure,hti,hw,hneg,hq,hgt,decide_false,Bool.or_false,Bool.false_eq_true,if_false,run_askRoom,hsz',Int.toNat_natCast]
 by_cases h0:m*ie.size=0
 . rw [if_pos h0]
   have e:m=0∨xz.cells.size=0:=by rw [<- hsz];exact Nat.mul_eq_zero.1 h0
   have e0: ∀f:Nat->Value,(Array.range 0).map f= #[]:=fun f=>by
    apply Array.eq_empty_of_size_eq_zero;simp
   simp only [h0,Sem.run_bind,newRow,newObj,Builtin.zeroCells, <- hsz,e0,Sem.run_pure,Result.andThen_ok]
   rfl
 . rw [if_neg h0]
   simp [Sem.run_bind,hz',newRow,newObj,Builtin.zeroCells,hsz]
   rfl
theorem dok_make (hD:zv P D) (hg:Good g st w) (ht:RelT g n t a) {T0:TypeId} {x y:Operand} (ho:o.op= .makeSlice T0 x y) (h:WI D T0 (ev t x) (ev t y) st K):xy P o a g st w K X:=by
 unfold WI at h
 split at h
 case h_2=>exact h.elim
 rename_i te hte
 unfold jr at hte
 split at hte
 case h_2=>cases hte
 rename_i ti hti
 split at hte
 case h_2=>cases hte
 rename_i t' hs
 have hu:=zj (hD _ _ hti) hs
 have hT:=hD _ _ hte
 split at h
 case h_2=>exact h.elim
 rename_i e z he hz
 split at h
 case h_2=>exact h.elim
 rename_i y0 hy0
 split at h
 case h_2=>exact h.elim
 rename_i m c hx hy
 obtain ⟨⟨hm,rfl⟩,hroom,hK⟩:=h
 have hK:=hK _ rfl
 obtain ⟨m,rfl⟩: ∃n:Nat,c=(n:Int):=⟨c.toNat,by omega⟩
 rw [Int.toNat_natCast] at hroom hK
 have hxv:a.eval x= .int .i64 (m:Int):=vG (by have:=ht.ev x;rw [hx] at this;exact this)
 have hyv:a.eval y= .int .i64 (m:Int):=vG (by have:=ht.ev y;rw [hy] at this;exact this)
 obtain ⟨ie',hi2,hi',hby,hz4⟩:=hT.info
 obtain ⟨hse,hb0⟩:=hT.el e he
 have hp:=vH e
 obtain ⟨ie,xz,hi,hxz,hRz⟩:=yQ (g:=g) hT hz
 rw [hi] at hi2
 injection hi2 with hi2
 subst hi2
 obtain ⟨d1,d2⟩:=dec_ok e z y0 hy0
 cases hRz with
 | ag _ _ r1 r2 r3=>
 have hxs:xz.cells.size=sz e:=by rw [<- r1,d1]
 have hmax:m<=maxLen:=by
  have:m<=m*te.bytes:=Nat.le_mul_of_pos_right _ hb0
  simp only [maxLen];omega
 have hrun:(execOp a.eval o).run P w= .ok (.value (.slice (some ⟨w.heap.size,0,none⟩) m m)) (w.alloc (.cells (Builtin.zeroCells xz.cells m) t')):=by
  simp only [execOp,ho,hxv,hyv,Sem.run_bind,run_make hu hi hxz (by rw [hi',hxs,hse]) (by rw [hby];exact hb0) m (by rw [hby];exact hroom),Result.andThen_ok]
  rfl
 have hlen:(Builtin.zeroCells xz.cells m).toList.length=m*sz e:=by rw [jG,hxs]
 have hsize:(Builtin.zeroCells xz.cells m).size=m*sz e:=by rw [<- Array.length_toList];exact hlen
 have hcells:Cells g (encs e (List.replicate m y0)) (Builtin.zeroCells xz.cells m):=by
  refine ⟨by rw [qg,List.length_replicate,hsize];exact Nat.le_refl _,fun j u hj=> ?_⟩
  obtain ⟨hjl,hj⟩:=encs_rep hj
  have hv:(Builtin.zeroCells xz.cells m)[j]? =xz.cells[j%sz e]? :=by
   rw [<- Array.getElem?_toList,jF (by rw [hxs];exact hjl),hxs]
  obtain ⟨c0,c1,c2⟩:=d2 _ u hj
  have hlt:j%sz e<xz.cells.size:=by rw [hxs];exact Nat.mod_lt _ hp
  exact ⟨xz.cells[j%sz e],by rw [hv];simp [hlt],r3 _ _ (Array.getElem?_eq_getElem hlt),c2 g _ (r2 _ c0 _ c1 (Array.getElem?_eq_getElem hlt))⟩
 intro K' Q' hK' _
 unfold Oper.wp
 rw [hrun]
 obtain ⟨k1,k2,k3⟩:=qN (st':=st++[some (.arr 0 e (List.replicate m y0))]) (k:=st.length) (v:=0) (o':= .arr 0 e (List.replicate m y0)) (oi:=⟨w.heap.size,m,m⟩) (w':=w.alloc (.cells (Builtin.zeroCells xz.cells m) t')) hg jh (Nat.le_refl _) (by simp) rfl (.inl (zK hg)) (fun u oi hu=>by rw [zK hg] at hu;cases hu) ⟨by simp,Nat.le_refl _,hmax⟩
  (fun _=> .inl (Nat.le_refl _)) rfl rfl rfl (by simp) (fun b hb _=>Below.heap_alloc w _ b hb) (fun _=>⟨_,t',(0,0),heap_alloc_new w _,fun q _ h=>absurd h.2 (Nat.not_lt_zero _),hcells,by simp only [jj];exact ⟨by rw [hsize];exact Nat.le_refl _,hT.elt e he⟩⟩) (fun o ho=>by rw [List.getElem?_eq_none (Nat.le_refl _)] at ho;cases ho)
 exact hK' _ _ _ _ _ hK k1 ⟨k3,zu (.inr rfl)⟩ k2 (.oa e st.length 0 ⟨w.heap.size,m,m⟩ _ (by simp [G.set]) (fun _=>rfl) (Nat.le_refl _) hmax)
theorem J2 (hg:Good g st w) (ht:RelT g n t a) {te:TypeId} {ti:TI} (hT:TIok P te ti) {x y:Operand} {ts:Array TypeId} (ho:o.op= .call {callee:= .builtin .append,args:= #[x,y],argTypes:=ts}) {e:El} (he:ti.el=some e) {z:List T} (hz:ti.zero=some z) {m:List (ty e)} {news:List Value}
  (n1:news.length=m.length*sz e) (n2: ∀u∈news,u.oneCell'=true) (n3: ∀(j:Nat) (u:T) (y:Value),(encs e m)[j]? =some u->news[j]? =some y->R g u y)
  (hnone:m=[]-> ∀A s c,s<=c->(Builtin.append_ ts o.type #[.slice A s c,a.eval y]).run P w= .ok (.slice A s c) w)
  (hnew: ∀(ie:TypeInfo) (xz:Value),P.info? te=some ie->ie.zero=some xz-> ∀(l:List (ty e)) A c olds,Src g w e l A olds->(A=none->c=0)->c<l.length+m.length->(l.length+m.length)*ti.bytes<=140737488355328->(Builtin.append_ ts o.type #[.slice A l.length c,a.eval y]).run P w= .ok (.slice (some ⟨w.heap.size,0,none⟩) (l.length+m.length) (grownCap w (l.length+m.length) c te)) (w.drew.alloc (.cells (olds.toArray++news.toArray++Builtin.zeroCells xz.cells (grownCap w (l.length+m.length) c te- (l.length+m.length))) te)))
  (hin: ∀(w':World) (ie:TypeInfo),P.info? te=some ie-> ∀b q s c,s+m.length<=c->(storeCells ⟨b,q+s*ie.size,none⟩ news 0).run P w= .ok () w'->(Builtin.append_ ts o.type #[.slice (some ⟨b,q,none⟩) s c,a.eval y]).run P w= .ok (.slice (some ⟨b,q,none⟩) (s+m.length) c) w')
  (h:zN ti e st (ev t x) m K):xy P o a g st w K X:=by
 unfold zN at h
 obtain ⟨hse,hb0⟩:=hT.el e he
 obtain ⟨ie,hi,hi',_⟩:=hT.info
 have hR:=ht.ev x
 generalize hv:ev t x=xv at hR h
 generalize hex:a.eval x=ex at hR
 split at h
 . obtain ⟨hroom,hK⟩:=h
   cases hR with
   | nil A=>
    by_cases hm:m=[]
    . subst hm
      intro K' Q' hK' _
      unfold Oper.wp
      rw [jA (w':=w) (v:= .slice A 0 0) ho (by rw [hex];exact hnone rfl A _ _ (Nat.le_refl _))]
      obtain ⟨k1,k2,k3⟩:=qN (st':=st++[some (.arr 0 e [])]) (k:=st.length) (v:=0) (o':= .arr 0 e []) (oi:=⟨0,0,0⟩) (w':=w) hg jh (Nat.le_refl _) (by simp) rfl (.inl (zK hg)) (fun u oi hu=>by rw [zK hg] at hu;cases hu) ⟨rfl,Nat.le_refl _,Nat.zero_le _⟩
       (fun h=>absurd ⟨rfl,rfl⟩ h) rfl rfl rfl (Nat.le_refl _) (fun _ _ _=>rfl) (fun h=>absurd ⟨rfl,rfl⟩ h) (fun o ho=>by rw [List.getElem?_eq_none (Nat.le_refl _)] at ho;cases ho)
      exact hK' _ _ _ _ _ hK k1 ⟨k3,zu (.inr rfl)⟩ k2 (.oa e st.length 0 ⟨0,0,0⟩ A (by simp [G.set]) (fun h=>absurd rfl h) (Nat.le_refl _) (Nat.zero_le _))
    . have hml:0<m.length:=List.length_pos_iff.2 hm
      exact kR (l:=[]) (olds:=[]) (A:=A) (c:=0) hg hT ho he hz Src.nil n1 n2 n3 (by simpa using hml) (by simpa using hroom) (fun ie xz hi hxz=>by rw [hex];exact hnew ie xz hi hxz [] A 0 [] Src.nil (fun _=>rfl) (by simpa using hml) (by simpa using hroom)) jh (Nat.le_refl _) (.inr rfl) (by simp) (zK hg) (fun u oi hu=>by rw [zK hg] at hu;cases hu) (fun o ho=>by rw [List.getElem?_eq_none (Nat.le_refl _)] at ho;cases ho) hK
 . rename_i e' l
   split at h
   case isFalse=>exact h.elim
   rename_i he'
   subst he'
   obtain ⟨hml,hroom,hK⟩:=h
   obtain ⟨l2,A,c,olds,hl2,hxv,hsrcx⟩:=src_ok (e:=e') (K:=fun l2=>l2=l) hg (x:=ex) (v:= .sl true e' l) hR (by simp [xX,zD])
   subst hl2
   obtain ⟨A',c',hs',_,_,hfull⟩:=vY hR
   rw [hxv] at hs'
   simp only [Value.slice.injEq,true_and] at hs'
   obtain ⟨rfl,rfl⟩:=hs'
   exact kR (A:=A) (c:=c) hg hT ho he hz hsrcx n1 n2 n3 (by rw [hfull rfl];omega) hroom (fun ie xz hi hxz=>by rw [hex,hxv];exact hnew ie xz hi hxz _ A _ olds hsrcx (fun hn=>by rw [hfull rfl];exact hsrcx.none_ hn) (by rw [hfull rfl];omega) hroom) jh (Nat.le_refl _) (.inr rfl) (by simp) (zK hg) (fun u oi hu=>by rw [zK hg] at hu;cases hu) (fun o ho=>by rw [List.getElem?_eq_none (Nat.le_refl _)] at ho;cases ho) hK
 . rename_i e' k ver
   split at h
   case isFalse=>exact h.elim
   rename_i he'
   subst he'
   split at h
   case h_2=>exact h.elim
   rename_i l hl
   obtain ⟨hroom,hK⟩:=h
   have hlive:=qi hl
   have hkl:k<st.length:=(List.getElem?_eq_some_iff.1 hlive).1
   obtain ⟨l2,A,c,olds,hl2,hxv,hsrcx⟩:=src_ok (e:=e') (K:=fun l2=>l2=l) hg (x:=ex) (v:= .oa e' k ver) hR (by simp [xX,hl])
   subst hl2
   have hnewv:g.ob k (ver+1)=none:=by
    cases hh:g.ob k (ver+1)with
    | none=>rfl
    | some oi=>have:=jN hg hlive hh;simp only [obVer] at this;omega
   have hver: ∀u oi,g.ob k u=some oi->u<=ver+1:=fun u oi hh=>by have:=jN hg hlive hh;simp only [obVer] at this;omega
   cases hR with
   | oa _ _ _ oi A' p1 p2 p3 p4=>
   simp only [Value.slice.injEq] at hxv
   obtain ⟨rfl,hlen,rfl⟩:=hxv
   obtain ⟨oi',q1,q2,q3,q4,q5⟩:=hg.arr hlive
   rw [p1] at q1
   injection q1 with q1
   subst q1
   by_cases hm:m=[]
   . subst hm
     intro K' Q' hK' _
     unfold Oper.wp
     rw [jA (w':=w) (v:= .slice A' oi.len oi.cap) ho (by rw [hex];exact hnone rfl A' _ _ p3)]
     obtain ⟨k1,k2,k3⟩:=qN (st':=st.set k (some (.arr (ver+1) e' (l2++[])))) (k:=k) (v:=ver+1) (o':= .arr (ver+1) e' (l2++[])) (oi:=oi) (w':=w) hg (wb hkl) (by omega) (by simp) rfl (.inl hnewv) hver ⟨by simpa using q2,q3,q4⟩
      (fun hn=> .inr ⟨_,hlive,by
       refine ze p1 ?_
       simpa [qm] using hn⟩) rfl rfl rfl (Nat.le_refl _) (fun _ _ _=>rfl) (fun hn=>by
       obtain ⟨_,blk,E,fr,b1,b2,b3,b4⟩:=q5 (by simpa [qm] using hn)
       exact ⟨blk,E,fr,b1,b2,by simpa [qQ] using b3,b4⟩) (fun o ho=>by
       rw [hlive] at ho;simp only [Option.some.injEq] at ho;subst ho;exact ⟨_,_,rfl⟩)
     exact hK' _ _ _ _ _ hK k1 ⟨k3,zu (.inl ⟨_,hlive⟩)⟩ k2 (.oa e' k _ oi A' (by simp [G.set]) p2 p3 p4)
   . have hml:0<m.length:=List.length_pos_iff.2 hm
     have hcap0:A'=none->oi.cap=0:=fun hn=>by
      by_cases hc0:oi.cap=0
      . exact hc0
      . have:=p2 hc0;rw [hn] at this;cases this
     by_cases hc:oi.cap<l2.length+m.length
     . exact kR (A:=A') hg hT ho he hz hsrcx n1 n2 n3 hc hroom (fun ie xz hi hxz=>by rw [hex,q2];exact hnew ie xz hi hxz _ A' _ olds hsrcx hcap0 hc hroom) (wb hkl) (by omega) (.inl ⟨_,hlive⟩) (by simp) hnewv hver (fun o ho=>by
        rw [hlive] at ho;simp only [Option.some.injEq] at ho;exact ⟨_,_,ho.symm⟩) hK
     . have hc0:oi.cap≠0:=by omega
       have hA:=p2 hc0
       subst hA
       obtain ⟨hro,blk,E,fr,b1,b2,b3,b4⟩:=q5 hc0
       have hcap:(l2.length+m.length)*sz e'<=oi.cap*sz e':=Nat.mul_le_mul_right _ (by omega)
       rw [Nat.add_mul] at hcap
       obtain ⟨w',blk',c1,c2,c3,c4,c5,c6,c7,c8,c9⟩:=xV (P:=P) oi.b (0+l2.length*ie.size) news 0 w blk E fr b1 b2 (by rw [n1,hi', <- hse];omega) n2
       intro K' Q' hK' _
       unfold Oper.wp
       rw [jA ho (by rw [hex,q2];exact hin w' ie hi oi.b 0 l2.length oi.cap (by omega) c1)]
       obtain ⟨k1,k2,k3⟩:=qN (st':=st.set k (some (.arr (ver+1) e' (l2++m)))) (k:=k) (v:=ver+1) (o':= .arr (ver+1) e' (l2++m)) (oi:=⟨oi.b,l2.length+m.length,oi.cap⟩) (w':=w') hg (wb hkl) (by omega) (by simp) rfl (.inl hnewv) hver ⟨by simp,by simp only;omega,q4⟩
        (fun _=> .inr ⟨_,hlive,(ze p1 (by simp [hc0]):_=some oi.b)⟩) c7 c8 c9 (by omega) (fun b _ hb=>c5 b fun e=>hb _ hlive (by rw [ze p1 (by simp [hc0]),e])) (fun _=>⟨blk',E,fr,c2,by rw [c3];exact b2,⟨by simp only [qQ];rw [qg,List.length_append,Nat.add_mul,c3];omega,fun j u hj=>by
         simp only [qQ] at hj
         have hb:=c4 j
         simp only [Nat.zero_add,Nat.add_zero,n1,hi', <- hse] at hb
         rw [Xv] at hj
         by_cases ej:j< (encs e' l2).length
         . rw [List.getElem?_append_left ej] at hj
           rw [qg] at ej
           rw [if_neg (by omega)] at hb
           obtain ⟨z,z1,z2,z3⟩:=b3.at_ _ u hj
           exact ⟨z,by rw [hb];exact z1,z2,z3⟩
         . have hjl:=(List.getElem?_eq_some_iff.1 hj).1
           rw [List.getElem?_append_right (by omega)] at hj
           rw [qg] at ej hj
           simp only [List.length_append,qg] at hjl
           rw [if_pos (by omega)] at hb
           have hlt2:j-l2.length*sz e'<news.length:=by rw [n1];omega
           exact ⟨news[j-l2.length*sz e'],by rw [hb];exact List.getElem?_eq_getElem hlt2,n2 _ (List.getElem_mem hlt2),n3 _ u _ hj (List.getElem?_eq_getElem hlt2)⟩⟩,by rw [c3];exact b4⟩) (fun o ho=>by
         rw [hlive] at ho;simp only [Option.some.injEq] at ho;subst ho;exact ⟨_,_,rfl⟩)
       exact hK' _ _ _ _ _ hK k1 ⟨k3,zu (.inl ⟨_,hlive⟩)⟩ k2 (.oa e' k _ ⟨oi.b,l2.length+m.length,oi.cap⟩ _ (by simp [G.set]) (fun _=>rfl) (by simp only;omega) q4)
 . exact h.elim
theorem dok_append (hD:zv P D) (hg:Good g st w) (ht:RelT g n t a) {T0:TypeId} {x y:Operand} (ho:o.op= .call {callee:= .builtin .append,args:= #[x,y],argTypes:= #[T0,T0]}) {te:TI} (hte:jr D T0=some te) (hz:te.zero.isSome=true) (h:yw te st (ev t x) (ev t y) K):xy P o a g st w K X:=by
 unfold jr at hte
 split at hte
 case h_2=>cases hte
 rename_i ti hti
 split at hte
 case h_2=>cases hte
 rename_i t' hs
 have hu:=zj (hD _ _ hti) hs
 have hT:=hD _ _ hte
 obtain ⟨z,hz⟩:=Option.isSome_iff_exists.1 hz
 unfold yw at h
 split at h
 case h_2=>exact h.elim
 rename_i e he
 obtain ⟨hse,hb0⟩:=hT.el e he
 obtain ⟨i0,hi0,hi0',hby,_⟩:=hT.info
 obtain ⟨m,B,cB,news,h,hyv,hsrc⟩:=src_ok hg (ht.ev y) h
 have h:(m=[]/\JN (ev t x)=true/\K (ev t x) st)∨zN te e st (ev t x) m K:=by
  split at h
  . rename_i hf
    rw [Bool.and_eq_true] at hf
    by_cases hm:m.length=0
    . rw [decide_eq_true hm,cond_true] at h
      exact .inl ⟨List.eq_nil_of_length_eq_zero hm,hf.1,h⟩
    . rw [decide_eq_false hm,cond_false] at h
      exact .inr h
  . exact .inr h
 rcases h with ⟨hm,hf,hK⟩ | h
 . have hR:=ht.ev x
   generalize hxv:ev t x=xv at hR hf hK
   unfold JN at hf
   split at hf
   case h_2=>cases hf
   rename_i e' l
   obtain ⟨A',c,hx,hlc,_⟩:=vY hR
   refine jo hg (jA (w':=w) ho ?_) hR hK
   rw [hx,hyv,hm]
   exact xU hu hi0 A' B _ _ _ hlc
 refine J2 hg ht hT ho he hz hsrc.len hsrc.one hsrc.val (fun hm A s c hc=> ?_) (fun ie xz hi hxz l A c olds h1 hA hc hroom=> ?_) (fun w' ie hi b q s c hc hst=> ?_) h
 . rw [hyv,hm]
   exact xU hu hi0 A B _ _ _ hc
 . rw [hi0] at hi
   injection hi with hi
   subst hi
   rw [hyv]
   have h63:l.length+m.length<=maxLen:=by
    have:l.length+m.length<=(l.length+m.length)*te.bytes:=Nat.le_mul_of_pos_right _ hb0
    simp only [maxLen];omega
   exact WL (P:=P) (w:=w) (ty:=o.type) hu hi0 hxz A B l.length c m.length cB olds news (by rw [h1.len,hi0',hse]) (fun e=>⟨h1.none_ e,hA e⟩) h1.cell (by rw [hsrc.len,hi0',hse]) hsrc.none_ hsrc.cell hc h63 (by rw [hby];exact hroom)
 . rw [hi0] at hi
   injection hi with hi
   subst hi
   rw [hyv]
   cases B with
   | none=>
    have hm:=hsrc.none_ rfl
    have hn:news=[]:=List.eq_nil_of_length_eq_zero (by rw [hsrc.len,hm,Nat.zero_mul])
    subst hn
    simp only [storeCells,Sem.run_pure,Result.ok.injEq,true_and] at hst
    subst hst
    rw [hm]
    exact xU hu hi0 _ none _ _ _ (by omega)
   | some B=>exact Yl (w':=w') hu hi0 b q s c m.length cB B news (by rw [hsrc.len,hi0',hse]) (hsrc.cell B rfl) hc hst
theorem dok_appendS (hD:zv P D) (hg:Good g st w) (ht:RelT g n t a) {T0 T1:TypeId} {x y:Operand} (ho:o.op= .call {callee:= .builtin .append,args:= #[x,y],argTypes:= #[T0,T1]}) {te ti1:TI} (hte:jr D T0=some te) (hti1:qR D T1=some ti1) (hs1:ti1.srt= .string) (hz:te.zero.isSome=true) {b:ByteArray} (hyv:ev t y= .str b) (h:vB te st (ev t x) b K):xy P o a g st w K X:=by
 unfold jr at hte
 split at hte
 case h_2=>cases hte
 rename_i ti hti
 split at hte
 case h_2=>cases hte
 rename_i t' hs
 have hu:=zj (hD _ _ hti) hs
 have hu1:=Qj (hD _ _ hti1) hs1
 have hT:=hD _ _ hte
 obtain ⟨z,hz⟩:=Option.isSome_iff_exists.1 hz
 unfold vB at h
 split at h
 case h_2=>exact h.elim
 rename_i e he
 split at h
 case h_2=>exact h.elim
 rename_i f hf
 obtain ⟨hse,hb0⟩:=hT.el e he
 obtain ⟨i0,hi0,hi0',hby,_⟩:=hT.info
 have hey:a.eval y= .string b:=by
  have:=ht.ev y
  rw [hyv] at this
  generalize a.eval y=q at this
  cases this;rfl
 have hmap:=K8 hf (zV b)
 have hml:(f (zV b)).length=b.size:=by
  have:=congrArg List.length hmap
  simp only [List.length_map] at this
  rw [this]
  simp [zV]
 have henc:encs e (f (zV b))=(zV b).map (T.int .u8):=by
  unfold encs
  rw [hmap]
  induction zV b with
  | nil=>rfl
  | cons n r ih=>simpa using ih
 have hsz:(f (zV b)).length*sz e=b.size:=by rw [<- qg,henc];simp [zV]
 have hsc:(strCells b).length=b.size:=strCells_length b
 have hval: ∀(j:Nat) (u:T) (y:Value),(encs e (f (zV b)))[j]? =some u->(strCells b)[j]? =some y->R g u y:=fun j u y hu hy=>by
  rw [henc] at hu
  simp only [zV,strCells,List.getElem?_map,Option.map_eq_some_iff] at hu hy
  obtain ⟨_,⟨q,hq,rfl⟩,rfl⟩:=hu
  obtain ⟨q',hq',rfl⟩:=hy
  rw [hq] at hq'
  injection hq' with hq'
  subst hq'
  exact .int _ _
 have hs1':i0.size=1∨b.size=0:=by
  rw [hi0', <- hse]
  rw [hml] at hsz
  by_cases h0:b.size=0
  . exact .inr h0
  . exact .inl (Nat.eq_of_mul_eq_mul_left (by omega:0<b.size) (by rw [hsz,Nat.mul_one]))
 have hfc: ∀(w:World),(Builtin.firstCells i0.size b.size (.string b)).run P w= .ok (strCells b).toArray w:=fun w=>run_firstCells_string w i0.size b
 refine J2 (news:=strCells b) hg ht hT ho he hz (by rw [hsc,hsz]) (strCells_oneCell b) hval (fun hm A s c hc=> ?_) (fun ie xz hi hxz l A c olds h1 hA hc hroom=> ?_) (fun w' ie hi p q s c hc hst=> ?_) h
 . have h0:b.size=0:=by rw [<- hml,hm];rfl
   have hfc':=hfc w
   rw [h0] at hfc'
   have hnil:strCells b=[]:=List.eq_nil_of_length_eq_zero (by rw [hsc,h0])
   rw [hnil] at hfc'
   rw [hey]
   cases A<;>simp [Builtin.append_,run_underlying hu,run_underlying hu1,sizeOf,typeInfo,hi0,Builtin.lenOf,h0,hc,hfc',storeCells]
 . rw [hi0] at hi
   injection hi with hi
   subst hi
   rw [hey,hml] at *
   have h63': ¬(9223372036854775807< ((l.length:Int)+(b.size:Int))):=by
    have:l.length+b.size<=(l.length+b.size)*te.bytes:=Nat.le_mul_of_pos_right _ hb0
    omega
   have h48': ¬(281474976710656<Builtin.nextslicecap (l.length+b.size) c*i0.bytes):=by
    rw [<- hby] at hroom
    have:=growslice_fits hc hroom;omega
   have hn: ¬(l.length+b.size<=c):=by omega
   cases A with
   | some a0=>
    have hfo:=run_firstCells_some (P:=P) w.drew i0.size l.length a0 l.length c olds (by rw [h1.len,hi0',hse]) (by simpa using h1.cell a0 rfl)
    simp [Builtin.append_,run_underlying hu,run_underlying hu1,sizeOf,typeInfo,zeroValue,hi0,hxz,Builtin.lenOf,hn,h63',h48',Question.forced,hfc,hfo,newRow,grownCap]
    congr 2
    apply Array.ext'
    simp [List.append_assoc]
   | none=>
    have hl0:=h1.none_ rfl
    have hc0:=hA rfl
    subst hc0
    have holds:olds=[]:=List.eq_nil_of_length_eq_zero (by rw [h1.len,hl0,Nat.zero_mul])
    subst holds
    rw [hl0] at *
    simp only [Nat.zero_add] at *
    have h63'': ¬(9223372036854775807< (b.size:Int)):=by omega
    have hbe: ¬b=ByteArray.empty:=by
     rintro rfl
     simp at hn
    simp [Builtin.append_,run_underlying hu,run_underlying hu1,sizeOf,typeInfo,zeroValue,hi0,hxz,Builtin.lenOf,hn,h63',h63'',h48',hbe,Question.forced,hfc,newRow,grownCap,run_firstCells_none]
 . rw [hi0] at hi
   injection hi with hi
   subst hi
   rw [hey,hml] at *
   simp [Builtin.append_,run_underlying hu,run_underlying hu1,sizeOf,typeInfo,hi0,Builtin.lenOf,hc,hfc,Addr.add_lit,hst]
theorem args1 {xs:Array Operand} {l:List T} {x:T} (h:xs.toList.map (ev t)=[x]): ∃y,xs= #[y]/\ev t y=x:=by
 obtain ⟨xs⟩:=xs
 match xs,h with
 | [y],h=>exact ⟨y,rfl,by simpa using h⟩
theorem args2 {xs:Array Operand} {x x':T} (h:xs.toList.map (ev t)=[x,x']): ∃y y',xs= #[y,y']/\ev t y=x/\ev t y'=x':=by
 obtain ⟨xs⟩:=xs
 match xs,h with
 | [y,y'],h=>simp at h;exact ⟨y,y',rfl,h.1,h.2⟩
theorem lenT_ok (hg:Good g st w) {v:T} {x:Value} {K:Nat->Prop} (hR:R g v x) (h:lenT st v K): ∃m A c,K m/\x= .slice A m c:=by
 unfold lenT at h
 split at h
 . cases hR with
   | nil A=>exact ⟨0,A,0,h,rfl⟩
 . cases hR with
   | sl _ _ l A c=>exact ⟨_,A,c,h,rfl⟩
 . split at h
   case h_2=>exact h.elim
   rename_i l hl
   obtain ⟨_,_,s3⟩:=XJ hg hR
   obtain ⟨A,c,rfl,_⟩:=s3 _ _ _ l rfl hl
   exact ⟨_,A,c,h,rfl⟩
 . cases hR with
   | os _ _ _ _ m oi A c=>exact ⟨_,A,c,h,rfl⟩
 . exact h.elim
theorem R_str {s:ByteArray} {x:Value} (h:R g (.str s) x):x= .string s:=by cases h;rfl
theorem cpyL_get (b:ByteArray): ∀(i:Nat) (l:List Int) (j:Nat),(XW b i l)[j]? =(l[j]?).map fun m=>T.int .u8 (qH b (i+j) m)
 | _,[],_=>by simp [XW]
 | i,m::r,0=>by simp [XW]
 | i,m::r,j+1=>by
  simp only [XW,List.getElem?_cons_succ]
  rw [cpyL_get b (i+1) r j,show i+1+j=i+(j+1)by omega]
theorem WH (b:ByteArray): ∀(i:Nat) (l:List Int),(XW b i l).length=l.length
 | _,[]=>rfl
 | i,m::r=>by simp [XW,WH b (i+1) r]
theorem cpyL_head (b:ByteArray) (i:Nat) (l:List Int):qS (XW b i l)=false/\meHead (XW b i l)=false:=by
 cases l<;>exact ⟨rfl,rfl⟩
theorem dok_copy (hD:zv P D) (hg:Good g st w) (ht:RelT g n t a) {T0 T1:TypeId} {x y:Operand} (ho:o.op= .call {callee:= .builtin .copy,args:= #[x,y],argTypes:= #[T0,T1]}) {te:TI} (hte:jr D T0=some te) {k m:Nat} {b:ByteArray} (hxv:ev t x= .as k m) (hyv:ev t y= .str b) (h:Vo te k m b st K):xy P o a g st w K X:=by
 unfold jr at hte
 split at hte
 case h_2=>cases hte
 rename_i ti hti
 split at hte
 case h_2=>cases hte
 rename_i t' hs
 have hu:=zj (hD _ _ hti) hs
 obtain ⟨i0,hi0,hi0',_⟩:=(hD _ _ hte).info
 unfold Vo at h
 split at h
 case h_2=>exact h.elim
 rename_i cs hsz hr
 split at h
 case h_2=>exact h.elim
 rename_i l hm hl
 split at h
 case h_2=>exact h.elim
 rename_i hln
 have hln:=of_decide_eq_true hln
 have hey:a.eval y= .string b:=R_str (by have:=ht.ev y;rw [hyv] at this;exact this)
 have hex:=ht.ev x
 rw [hxv] at hex
 generalize hxe:a.eval x=xv at hex
 cases hex with
 | as _ _ oi p1=>
  obtain ⟨oi',o1,_,o3⟩:=hg.obj _ _ (qc.1 hr)
  have o1:g.ob k 0=some oi':=o1
  rw [p1] at o1
  injection o1 with o1
  subst o1
  rcases o3 with o3 | ⟨_,blk,E,fr,q1,q2,q3,q4⟩
  . cases o3.1
  simp only [xA,hm] at q1
  have q1:w.heap[oi.b]? =some (.cells blk E fr):=q1
  have hcl:cs.length=m:=by rw [xc hl,List.length_map,hln]
  have hble:m<=blk.size:=by have:=q3.le;simp only [qQ] at this;omega
  let vs:List Value:=(strCells (b.extract 0 (min b.size m)))
  have hvl:vs.length=min b.size m:=by
   show (strCells (b.extract 0 (min b.size m))).length=_
   simp [strCells]
  have hv: ∀j,j<min b.size m->vs[j]? =some (.int .u8 (qH b j 0)):=fun j hj=>by
   have hj1:j<b.size:=by omega
   have hj2:j<b.data.size:=hj1
   show (strCells (b.extract 0 (min b.size m)))[j]? =_
   have e1:(b.extract 0 (min b.size m)).data=b.data.extract 0 (min b.size m):=by simp
   have e2:b[j]? =some b[j]:=by simp [hj1]
   unfold strCells qH
   rw [e1,e2]
   simp [Array.getElem?_extract,hj,hj2]
   rfl
  obtain ⟨w',blk',a1,a2,a3,a4,a5,a6,a7,a8,a9⟩:=xV (P:=P) oi.b 0 vs 0 w blk E fr q1 q2 (by omega) (fun v hv'=>by
   obtain ⟨j,hj⟩:=List.getElem?_of_mem hv'
   have hlt:j<min b.size m:=by rw [<- hvl];exact (List.getElem?_eq_some_iff.1 hj).1
   rw [hv j hlt] at hj
   injection hj with hj
   subst hj
   rfl)
  have hrun:(execOp a.eval o).run P w= .ok (.value (.int .i64 ((min b.size m:Nat):Int))) w':=by
   have hvs:(strCells (b.extract 0 (min b.size m)))=vs:=rfl
   have hsc: ∀s:ByteArray,(s.data.map fun b=>Value.int .u8 b.toNat)=(strCells s).toArray:=fun s=>Array.toList_inj.1 (by simp [strCells])
   have hfc:(Builtin.firstCells i0.size (min b.size m) (.string b)).run P w= .ok vs.toArray w:=by
    rw [<- hvs, <- hsc]
    rfl
   have hmin:Nat.min b.size m=min b.size m:=rfl
   simp [execOp,ho,resolve,invoke,builtin,Builtin.copy_,hxe,hey,run_underlying hu,sizeOf,typeInfo,hi0,Builtin.lenOf,hmin,hfc,a1,goInt,Result.andThen]
  intro K' Q' hK' _
  unfold Oper.wp
  rw [hrun]
  have hst:=qc.1 hr
  have hkl:k<st.length:=(List.getElem?_eq_some_iff.1 hst).1
  have hn: ¬(qm (.cells cs)=true/\oi.cap=0):=by simp [qm]
  obtain ⟨f1,f2⟩:=cpyL_head b 0 l
  obtain ⟨k1,k2,k3⟩:=qN (st':=st.set k (some (.cells (XW b 0 l)))) (k:=k) (v:=0) (o':= .cells (XW b 0 l)) (oi:=oi) (w':=w') hg (wb hkl) (by omega) (by simp) rfl (.inr p1) (fun u oi' hu=>by have:=jN hg hst hu;simpa [obVer] using this) trivial
   (fun _=> .inr ⟨_,hst,ze p1 hn⟩) a7 a8 a9 (by omega) (fun b' hb' hno=>by
    refine a5 b' fun e=> ?_
    exact hno _ hst (by rw [ze p1 hn,e])) (fun _=>⟨blk',E,fr,by simp only [xA,f2,xL];exact a2,fun q hq=>q2 q (by omega),⟨by simp only [qQ,WH];omega,fun j u hu=>by
     simp only [qQ] at hu
     rw [cpyL_get,Option.map_eq_some_iff] at hu
     obtain ⟨c0,hc0,rfl⟩:=hu
     have hjl:j<l.length:=(List.getElem?_eq_some_iff.1 hc0).1
     rw [Nat.zero_add]
     by_cases hj:j<min b.size m
     . refine ⟨.int .u8 (qH b j 0), ?_,rfl, ?_⟩
       . rw [a4,if_pos (by omega)]
         exact hv j hj
       . have:qH b j c0=qH b j 0:=by
          have hj1:j<b.size:=by omega
          have e2:b[j]? =some b[j]:=by simp [hj1]
          unfold qH
          rw [e2]
         rw [this]
         exact .int _ _
     . obtain ⟨z,z1,z2,z3⟩:=q3.at_ j (.int .u8 c0) (by simp only [qQ];rw [xc hl,List.getElem?_map,hc0];rfl)
       refine ⟨z,by rw [a4,if_neg (by omega)];exact z1,z2, ?_⟩
       have:qH b j c0=c0:=by
        have e2:b[j]? =none:=by
         rw [getElem?_eq_none_iff]
         omega
        unfold qH
        rw [e2]
       rw [this]
       exact z3⟩,cellW_of f1⟩) (fun o2 ho2=>by
    rw [hst] at ho2;simp only [Option.some.injEq] at ho2;subst ho2
    exact ⟨_,rfl,by rw [WH,xc hl,List.length_map],p1⟩)
  exact hK' _ _ _ _ _ h k1 ⟨k3,zu (.inl ⟨_,hst⟩)⟩ k2 (.int _ _)
theorem dok_builtin (hD:zv P D) (hg:Good g st w) (ht:RelT g n t a) {b:Builtin} {args:Array Operand} {ts:Array TypeId} (ho:o.op= .call {callee:= .builtin b,args:=args,argTypes:=ts}) (h:zA D b ts.toList (args.toList.map (ev t)) st K):xy P o a g st w K X:=by
 unfold zA at h
 split at h
 . rename_i T0 x hts hargs
   obtain ⟨y,rfl,rfl⟩:=args1 (l:=[]) hargs
   have hts':ts= #[T0]:=xC hts
   subst hts'
   split at h
   case h_2=>exact h.elim
   rename_i ti hti
   have key:(∀s,a.eval y= .string s->ti.srt= .string->K (.int .i64 (s.size:Nat)) st->xy P o a g st w K X)/\(∀A m c e,a.eval y= .slice A m c->ti.srt= .slice e->K (.int .i64 (m:Nat)) st->xy P o a g st w K X):=by
    refine ⟨fun s e hs hK=> ?_,fun A m c e' e hs hK=> ?_⟩
    . have hu:=Qj (hD _ _ hti) hs
      exact qy hg (by simp [execOp,ho,resolve,invoke,builtin,Builtin.len_,e,qx,hu,goInt]) (.int _ _) hK
    . have hu:=zj (hD _ _ hti) hs
      exact qy hg (by simp [execOp,ho,resolve,invoke,builtin,Builtin.len_,e,qx,hu,goInt]) (.int _ _) hK
   split at h
   . rename_i hs
     split at h
     case h_2=>exact h.elim
     rename_i s hv
     exact key.1 s (R_str (by have:=ht.ev y;rw [hv] at this;exact this)) hs h
   . rename_i e' hs
     obtain ⟨m,A,c,hK,e⟩:=lenT_ok hg (ht.ev y) h
     exact key.2 A m c e' e hs hK
   . exact h.elim
 . rename_i T0 T1 x y hts hargs
   obtain ⟨x',y',rfl,rfl,rfl⟩:=args2 hargs
   have hts':ts= #[T0,T1]:=xC hts
   subst hts'
   split at h
   . rename_i hd
     have hd:=of_decide_eq_true hd
     subst hd
     split at h
     case h_2=>exact h.elim
     rename_i te hte
     split at h
     case h_2=>exact h.elim
     rename_i z hz
     exact dok_append hD hg ht ho hte (by rw [hz];rfl) h
   . split at h
     case h_2=>exact h.elim
     rename_i te ti1 hte hti1
     split at h
     . rename_i k k1 m hs1 hyv
       split at h
       case h_2=>exact h.elim
       rename_i e' l hxv
       exact dok_appendZ hD hg ht ho hte hti1 hs1 hxv hyv h
     . rename_i b hs1 hyv
       split at h
       case h_2=>exact h.elim
       rename_i z hz
       exact dok_appendS hD hg ht ho hte hti1 hs1 (by rw [hz];rfl) hyv h
     . exact h.elim
 . rename_i T0 T1 k m b hts hargs
   obtain ⟨x',y',rfl,hx',hy'⟩:=args2 hargs
   have hts':ts= #[T0,T1]:=xC hts
   subst hts'
   split at h
   case h_2=>exact h.elim
   rename_i te hte
   exact dok_copy hD hg ht ho hte hx' hy' h
 . rename_i T0 e' l hts hargs
   obtain ⟨y,rfl,hy⟩:=args1 (l:=[]) hargs
   have hts':ts= #[T0]:=xC hts
   subst hts'
   split at h
   case h_2=>exact h.elim
   rename_i ti hti
   split at h
   case h_2=>exact h.elim
   rename_i e hs
   have hu:=zj (hD _ _ hti) hs
   have hR:=ht.ev y
   rw [hy] at hR
   obtain ⟨A,c,hv,_,_,hf⟩:=vY hR
   have hc:=hf rfl
   subst hc
   exact qy hg (by simp [execOp,ho,resolve,invoke,builtin,Builtin.cap_,hv,qx,hu,goInt]) (.int _ _) h
 . rename_i T0 x hts hargs
   obtain ⟨y,rfl,rfl⟩:=args1 (l:=[]) hargs
   have hts':ts= #[T0]:=xC hts
   subst hts'
   split at h
   case h_2=>exact h.elim
   rename_i te hte
   exact dok_clear hD hg ht ho hte h
 . rename_i k p k' q hargs
   obtain ⟨x',y',rfl,h1,h2⟩:=args2 hargs
   have e1:=vG (by have:=ht.ev x';rw [h1] at this;exact this)
   have e2:=vG (by have:=ht.ev y';rw [h2] at this;exact this)
   exact qy hg (by simp [execOp,ho,resolve,invoke,builtin,Builtin.min_,Builtin.min2,e1,e2,qx]) (.int _ _) h
 . rename_i k p k' q hargs
   obtain ⟨x',y',rfl,h1,h2⟩:=args2 hargs
   have e1:=vG (by have:=ht.ev x';rw [h1] at this;exact this)
   have e2:=vG (by have:=ht.ev y';rw [h2] at this;exact this)
   exact qy hg (by simp [execOp,ho,resolve,invoke,builtin,Builtin.max_,Builtin.max2,e1,e2,qx]) (.int _ _) h
 . exact h.elim
end
end Go.Proofs.YtbglndogddddoaaGreatDoor
namespace Go.Proofs.YtbglndogddddoaaGreatDoor
open Go.RowKit
variable {P:Program} [Bd P]
def ka (e:El) (es:List MapEntry) (l:List (ty e)):Prop:=es.map (fun m=>(m.key,m.val))=l.map fun x=>(tv ((enc e x).headD .undef),tv ((enc e x).getD 1 .undef))
theorem ents_of {e:El} {k v:T} (hs:yC e=some (k,v)): ∀(es:List MapEntry) (l:List (ty e)),es.flatMap (fun m=>[m.key,m.val])=l.flatMap (fun x=>(enc e x).map tv)->ka e es l
 | [],[],_=>rfl
 | [],x::l,h=>by obtain ⟨kc,vc,h1,_⟩:=vn hs x;simp [h1] at h
 | m::es,[],h=>by simp at h
 | m::es,x::l,h=>by
  obtain ⟨kc,vc,h1,_⟩:=vn hs x
  simp only [List.flatMap_cons,h1,List.map_cons,List.map_nil,List.cons_append,List.nil_append,List.cons.injEq] at h
  obtain ⟨h2,h3,h4⟩:=h
  have:=ents_of hs es l h4
  unfold ka at this ⊢
  simp [h1,this,h2,h3]
theorem YU {e:El} {k v:T} (hs:yC e=some (k,v)): ∀(es:List MapEntry) (l:List (ty e)),ka e es l->es.flatMap (fun m=>[m.key,m.val])=l.flatMap (fun x=>(enc e x).map tv)
 | [],[],_=>rfl
 | [],x::l,h=>by simp [ka] at h
 | m::es,[],h=>by simp [ka] at h
 | m::es,x::l,h=>by
  obtain ⟨kc,vc,h1,_⟩:=vn hs x
  unfold ka at h
  simp only [List.map_cons,h1,List.cons.injEq,Prod.mk.injEq] at h
  obtain ⟨⟨h2,h3⟩,h4⟩:=h
  have:=YU hs es l h4
  simp [h1,this,h2,h3]
def VT (ks:T) (d:TypeDesc):Prop:=match ks with
 | .int k _=>d= .int k
 | .str _=>d= .string
 | _=>False
theorem bytes_beqD (a b:ByteArray):(a==b)=decide (a=b):=by
 rw [Bool.eq_iff_iff,decide_eq_true_eq]
 exact MapKept.bytes_beq a b
theorem Q8 {ks kT kc:T} {d:TypeDesc} (hd:VT ks d) (h1:zi ks kT=true) (h2:zi ks kc=true):Instr.sameNow d (tv kT) (tv kc)=some (yF kT kc):=by
 cases ks<;>cases kT<;>simp [zi] at h1<;>cases kc<;>simp [zi] at h2<;>simp only [VT] at hd<;>first | (exact hd.elim) | skip
 . subst hd;subst h1;subst h2
   simp only [tv,Instr.sameNow,if_true,yF]
   congr 1
 . subst hd
   simp only [tv,Instr.sameNow,yF,bytes_beqD]
theorem Zh {ks kT:T} {d:TypeDesc} (hd:VT ks d) (h1:zi ks kT=true):MapKept.IsKey d (tv kT):=by
 cases ks<;>cases kT<;>simp [zi] at h1<;>simp only [VT] at hd<;>first | (exact hd.elim) | skip
 . subst hd;subst h1;rfl
 . subst hd;trivial
theorem keyEq_tv {ks kT kc:T} {d:TypeDesc} (hd:VT ks d) (h1:zi ks kT=true) (h2:zi ks kc=true) (h:yF kT kc=true):tv kc=tv kT:=by
 cases ks<;>cases kT<;>simp [zi] at h1<;>cases kc<;>simp [zi] at h2<;>simp only [VT] at hd<;>first | (exact hd.elim) | skip
 . subst h1;subst h2;simp [yF] at h;simp [tv,h]
 . simp [yF] at h;simp [tv,h]
theorem qqV {e:El} {ks vs kT:T} {d:TypeDesc} (hs:yC e=some (ks,vs)) (hd:VT ks d) (hk:zi ks kT=true): ∀(l:List (ty e)) (es:List MapEntry) (i:Nat),ka e es l->
  (Instr.findNow d (tv kT) es i=some none/\v7 e kT l=none/\ ∀y,yM e kT y l=l++[y])∨
  ∃n x m,Instr.findNow d (tv kT) es i=some (some (i+n,tv ((enc e x).getD 1 .undef)))/\es[n]? =some m/\m.key=tv kT/\v7 e kT l=some x/\ ∀y,yM e kT y l=l.set n y
 | [],[],_,_=> .inl ⟨rfl,rfl,fun _=>rfl⟩
 | [],m::es,_,h=>by simp [ka] at h
 | x::l,[],_,h=>by simp [ka] at h
 | x::l,m::es,i,h=>by
  obtain ⟨kc,vc,h1,h2,h3⟩:=vn hs x
  have h':=h
  unfold ka at h'
  simp only [List.map_cons,List.cons.injEq,Prod.mk.injEq] at h'
  obtain ⟨⟨q1,q2⟩,q3⟩:=h'
  rw [h1] at q1 q2
  simp only [List.headD_cons] at q1
  have hsame:=Q8 hd hk h2
  cases hq:yF kT kc with
  | true=>
   refine .inr ⟨0,x,m, ?_,rfl,by rw [q1];exact keyEq_tv hd hk h2 hq, ?_,fun y=> ?_⟩
   . simp only [Instr.findNow,q1,hsame,hq,q2,h1,Nat.add_zero]
   . simp only [v7,h1,List.headD_cons,hq]
   . simp only [yM,h1,List.headD_cons,hq,List.set_cons_zero]
  | false=>
   rcases qqV hs hd hk l es (i+1) q3 with ⟨a1,a2,a3⟩ | ⟨n,x',m',a1,a2,a3,a4,a5⟩
   . refine .inl ⟨?_, ?_,fun y=> ?_⟩
     . simp only [Instr.findNow,q1,hsame,hq,a1]
     . simp only [v7,h1,List.headD_cons,hq,a2]
     . simp only [yM,h1,List.headD_cons,hq,a3,List.cons_append]
   . refine .inr ⟨n+1,x',m', ?_,by simpa using a2,a3, ?_,fun y=> ?_⟩
     . simp only [Instr.findNow,q1,hsame,hq,a1]
       congr 3;omega
     . simp only [v7,h1,List.headD_cons,hq,a4]
     . simp only [yM,h1,List.headD_cons,hq,a5,List.set_cons_succ]
section
variable {P:Program} [Bd P] {D:TD} {g:G P} {st:St} {w:World} {n:Nat} {t:Tm} {a:Act} {o:Oper} {K X:Kn}
theorem R_tv {s c:T} {x:Value} (h:R g c x) (hs:zi s c=true):x=tv c:=by
 cases s<;>cases c<;>simp [zi] at hs<;>cases h<;>rfl
theorem tv_R {s c:T} (hs:zi s c=true):R g c (tv c):=by
 cases s<;>cases c<;>simp [zi] at hs
 . exact .int _ _
 . exact .bool _
 . exact .str _
theorem Wl {es:Array MapEntry} {clk:Nat} (h:jl es clk=true) (k v:Value):jl (es.push {key:=k,val:=v,born:=clk}) (clk+1)=true:=by
 have h:=of_decide_eq_true h
 refine decide_eq_true ⟨?_, ?_⟩
 . rw [Array.toList_push,List.map_append,h.1,Array.size_push,List.range_succ,h.2]
   simp
 . rw [Array.size_push,h.2]
theorem qqZ {es:Array MapEntry} {clk:Nat} (h:jl es clk=true) (j:Nat) (k v:Value):jl (es.modify j fun e=>{e with key:=k,val:=v}) clk=true:=by
 have h:=of_decide_eq_true h
 refine decide_eq_true ⟨?_, ?_⟩
 . rw [Array.size_modify, <- h.1]
   apply List.ext_getElem?
   intro i
   simp only [List.getElem?_map,Array.getElem?_toList,Array.getElem?_modify]
   split
   . cases es[i]? <;>rfl
   . rfl
 . rw [Array.size_modify];exact h.2
theorem view_me {ob:Obj} {blk:Array Value} {E:TypeId} {fr:Nat×Nat} {y:Value} {v:T} (p:xL true (some ob)=some (.cells blk E fr)) (hy:blk[0]? =some y) (hR:R g v y) (hv: ∀n s b, ¬R g v (itrV b n s):=by intro n s b h;cases h): ∃es clk,ob= .map es clk/\jl es clk=true/\blk=zP es:=by
 cases ob with
 | map es clk=>
  simp only [xL] at p
  cases hs:jl es clk with
  | false=>rw [hs] at p;cases p
  | true=>
   rw [hs] at p
   simp only [cond_true,Option.some.injEq,Obj.cells.injEq] at p
   exact ⟨es,clk,rfl,hs,p.1.symm⟩
 | mapIter m n seen l=>
  cases m with
  | none=>cases p
  | some b=>
   simp only [xL] at p
   cases hs:decide (n=l)with
   | false=>rw [hs] at p;cases p
   | true=>
    rw [hs] at p
    simp only [cond_true,Option.some.injEq,Obj.cells.injEq] at p
    rw [<- p.1] at hy
    simp at hy
    subst hy
    exact absurd hR (hv _ _ _)
 | _=>cases p
theorem map_at (hg:Good g st w) {m:T} {x:Value} {e:El} {q:Nat} {l:List (ty e)} {ks vs:T} (hs:yC e=some (ks,vs)) (hR:R g m x) (h:Xk st e m=some (q,l)):
  ∃(oi:OI) (es:Array MapEntry) (clk:Nat),st[q]? =some (some (.cells [.ments e l]))/\g.ob q 0=some oi/\x= .map (some oi.b)/\w.heap[oi.b]? =some (.map es clk)/\ka e es.toList l/\jl es clk=true:=by
 unfold Xk at h
 split at h
 case h_2=>cases h
 rename_i k
 split at h
 case h_2=>cases h
 rename_i e' l' hr
 split at h
 case isFalse=>cases h
 rename_i he
 subst he
 simp only [Option.some.injEq,Prod.mk.injEq] at h
 obtain ⟨rfl,h2⟩:=h
 have h2:l'=l:=h2
 subst h2
 cases hR with
 | mp _ oi h1=>
  obtain ⟨oi',o1,_,o3⟩:=hg.obj _ _ (qc.1 hr)
  have o1:g.ob k 0=some oi':=o1
  rw [h1] at o1
  injection o1 with o1
  subst o1
  rcases o3 with o3 | ⟨_,blk,E,fr,p1,_,p3,_⟩
  . cases o3.1
  cases hv:w.heap[oi.b]? with
  | none=>rw [hv] at p1;cases p1
  | some ob=>
   rw [hv] at p1
   obtain ⟨y,y1,_,y3⟩:=p3.at_ 0 _ rfl
   obtain ⟨es,clk,rfl,hst,hbl⟩:=view_me p1 y1 y3
   have y1:blk[0]? =some y:=y1
   rw [hbl] at y1
   simp [zP] at y1
   subst y1
   have hf:flatV e' l'=(es.toList.flatMap fun e=>[e.key,e.val]).toArray:=by
    generalize (es.toList.flatMap fun e=>[e.key,e.val]).toArray=A at y3 ⊢
    cases y3
    rfl
   refine ⟨oi,es,clk,qc.1 hr,h1,rfl,hv,ents_of hs _ _ ?_,hst⟩
   unfold flatV at hf
   have:=congrArg Array.toList hf
   simpa using this.symm
theorem Zf (g:G P) (hD:zv P D) {T0:TypeId} {e:El} {ks z:T} (h:Z1 D T0=some (e,ks,z)): ∃(vs:T) (kt vt:TypeId) (d:TypeDesc) (x:Value),yC e=some (ks,vs)/\P.underlying T0=some (.map kt vt)/\P.underlying kt=some d/\VT ks d/\(∀w:World,(zeroValue vt).run P w= .ok x w)/\zi vs z=true/\x=tv z:=by
 unfold Z1 at h
 split at h
 case h_2=>cases h
 rename_i e' ti he hti
 split at h
 case h_2=>cases h
 rename_i ks' vs kt vt hsh hs
 split at h
 case h_2=>cases h
 rename_i tk tu htk htu
 split at h
 case h_2=>cases h
 rename_i z' hks hz
 split at h
 case h_2=>cases h
 rename_i hag hsz
 simp only [Option.some.injEq,Prod.mk.injEq] at h
 obtain ⟨rfl,rfl,rfl⟩:=h
 obtain ⟨d0,u1,_,u3⟩:=(hD _ _ hti).under
 rw [hs] at u3
 simp only [srtOk] at u3
 subst u3
 obtain ⟨d,k1,_,k3⟩:=(hD _ _ htk).under
 obtain ⟨i,x,z1,z2,z3⟩:=yQ (P:=P) (g:=g) (hD _ _ htu) hz
 have hone:=(hD _ _ htu).onec hag (by rw [hz];rfl) i x z1 z2
 refine ⟨vs,kt,vt,d,x,hsh,u1,k1, ?_,fun w=>qO (by rw [xl,z1];simp [z2]) w,hsz, ?_⟩
 . generalize hsr:tk.srt=sr at hks k3
   unfold keySrt at hks
   split at hks
   . have hks:=of_decide_eq_true hks
     subst hks
     exact k3
   . exact k3
   . cases hks
 . rw [YO hone] at z3
   cases z3 with
   | ag _ _ r1 r2 _=>
    exact R_tv (r2 0 _ x rfl rfl) hsz
theorem dok_makeMap (hg:Good g st w) {T0:TypeId} {e:El} (ho:o.op= .makeMap T0 none) (hK:K (.mp st.length) (st++[some (.cells [.ments e []])])):xy P o a g st w K X:=by
 have hrun:(execOp a.eval o).run P w= .ok (.value (.map (some w.heap.size))) (w.alloc (.map #[] 0)):=by
  simp only [execOp,ho,Instr.makeMap,newObj,Option.map_none,Sem.run_bind,Sem.run_pure,Result.andThen_ok]
  rfl
 intro K' Q' hK' _
 unfold Oper.wp
 rw [hrun]
 obtain ⟨k1,k2,k3⟩:=qN (st':=st++[some (.cells [.ments e []])]) (k:=st.length) (v:=0) (o':= .cells [.ments e []]) (oi:=⟨w.heap.size,0,0⟩) (w':=w.alloc (.map #[] 0)) hg jh (Nat.le_refl _) (by simp) rfl (.inl (zK hg)) (fun u oi hu=>by rw [zK hg] at hu;cases hu) trivial
  (fun _=> .inl (Nat.le_refl _)) rfl rfl rfl (by simp) (fun b hb _=>Below.heap_alloc w _ b hb) (fun _=>⟨zP #[],0,(0,0),by rw [heap_alloc_new w _];rfl,fun q _ h=>absurd h.2 (Nat.not_lt_zero _),⟨by simp [qQ,zP],fun j u hu=>by
   match j,hu with
   | 0,hu=>simp [qQ] at hu;subst hu;exact ⟨_,rfl,rfl, .me e []⟩
   | j+1,hu=>simp [qQ] at hu⟩,rfl⟩) (fun o ho=>by rw [List.getElem?_eq_none (Nat.le_refl _)] at ho;cases ho)
 exact hK' _ _ _ _ _ hK k1 ⟨k3,zu (.inr rfl)⟩ k2 (.mp _ ⟨w.heap.size,0,0⟩ (by simp [G.set]))
theorem dok_lookup (hD:zv P D) (hg:Good g st w) (ht:RelT g n t a) {T0:TypeId} {m k:Operand} {ok:Bool} (ho:o.op= .lookup T0 m k ok) (h:ww D T0 (ev t m) (ev t k) ok st fun v=>K v st):xy P o a g st w K X:=by
 unfold ww at h
 split at h
 case h_2=>exact h.elim
 rename_i e ks z hi
 split at h
 case h_2=>exact h.elim
 rename_i q l hm hk
 obtain ⟨vs,kt,vt,d,x,hsh,u1,u2,u3,u4,u5,u6⟩:=Zf g hD hi
 obtain ⟨oi,es,clk,_,_,hx,hb,hE,_⟩:=map_at hg hsh (ht.ev m) hm
 have hkv:=R_tv (ht.ev k) hk
 have hkey:=Zh u3 hk
 have hmv: ∀r:Option (ty e),R g (mval e z r) (match r with | some x=>tv ((enc e x).getD 1 .undef) | none=>tv z):=fun r=>by
  cases r with
  | none=>cases vs<;>cases z<;>simp [zi] at u5<;>simp only [mval,tv]<;>first | exact .int _ _ | exact .bool _ | exact .str _
  | some x=>
   obtain ⟨kc,vc,h1,_,h3⟩:=vn hsh x
   have e1:(enc e x).getD 1 .undef=vc:=by rw [h1];rfl
   simp only [e1]
   cases vs<;>cases z<;>simp [zi] at u5<;>cases vc<;>simp [zi] at h3<;>simp only [mval,e1,tv,tBool,tStr,tInt]
   . subst u5;subst h3;exact .int _ _
   . exact .bool _
   . exact .str _
 have hck:(Instr.checkKey es.isEmpty 10000 kt (a.eval k)).run P w= .ok () w:=by rw [hkv];exact MapKept.run_checkKey u2 hkey _ _
 have hrun:(execOp a.eval o).run P w= .ok (.value (match ok with
   | true=> .tuple #[(match v7 e (ev t k) l with | some x=>tv ((enc e x).getD 1 .undef) | none=>tv z), .bool (v7 e (ev t k) l).isSome]
   | false=>(match v7 e (ev t k) l with | some x=>tv ((enc e x).getD 1 .undef) | none=>tv z))) w:=by
  rcases qqV hsh u3 hk l es.toList 0 hE with ⟨a1,a2,_⟩ | ⟨j,y,m',a1,_,_,a4,_⟩
  . have hf:(Instr.findKey kt (a.eval k) es.toList).run P w= .ok none w:=by rw [hkv];exact MapKept.run_findKey u2 a1
    cases ok<;>simp [execOp,ho,Instr.lookup,run_underlying u1,hx,MapKept.run_getObj_map hb,hck,hf,u4,a2,u6,Result.andThen]
  . have hf:(Instr.findKey kt (a.eval k) es.toList).run P w= .ok (some (0+j,tv ((enc e y).getD 1 .undef))) w:=by rw [hkv];exact MapKept.run_findKey u2 a1
    cases ok<;>simp [execOp,ho,Instr.lookup,run_underlying u1,hx,MapKept.run_getObj_map hb,hck,hf,a4,Result.andThen]
 split at h
 . refine jo hg hrun (.tu _ _ rfl fun i c y hc hy=> ?_) h
   match i,hc,hy with
   | 0,hc,hy=>simp at hc hy;subst hc;subst hy;exact hmv _
   | 1,hc,hy=>simp at hc hy;subst hc;subst hy;exact .bool _
   | i+2,hc,hy=>simp at hc
 . exact jo hg hrun (hmv _) h
theorem wk_same {s c u:T} (h:Wk c u) (hs:zi s u=true):c=u:=by
 cases h with
 | refl=>rfl
 | sl=>cases s<;>simp [zi] at hs
 | nil=>cases s<;>simp [zi] at hs
 | fd=>cases s<;>simp [zi] at hs
theorem Qa (hD:zv P D) (hg:Good g st w) (ht:RelT g n t a) {T0:TypeId} {m k v:Operand} (ho:o.op= .mapUpdate T0 m k v∨o.op= .insert T0 m k v) (h:jb D T0 (ev t m) (ev t k) (ev t v) st fun s=>K .undef s):xy P o a g st w K X:=by
 unfold jb at h
 split at h
 case h_2=>exact h.elim
 rename_i e ks z hi
 split at h
 case h_2=>exact h.elim
 rename_i q l y hm hk hy
 obtain ⟨vs,kt,vt,d,x,hsh,u1,u2,u3,u4,u5,u6⟩:=Zf g hD hi
 obtain ⟨oi,es,clk,hst,hoi,hx,hb,hE,hsO⟩:=map_at hg hsh (ht.ev m) hm
 have hkv:=R_tv (ht.ev k) hk
 have hkey:=Zh u3 hk
 obtain ⟨kc,vc,y1,y2,y3⟩:=vn hsh y
 obtain ⟨_,hdec⟩:=WY e _ y hy
 have hkc:ev t k=kc:=by
  obtain ⟨c,c1,c2⟩:=hdec 0 kc (by rw [y1];rfl)
  simp at c1;subst c1
  exact wk_same c2 y2
 have hvc:ev t v=vc:=by
  obtain ⟨c,c1,c2⟩:=hdec 1 vc (by rw [y1];rfl)
  simp at c1;subst c1
  exact wk_same c2 y3
 have hvv:a.eval v=tv vc:=by rw [<- hvc];exact R_tv (ht.ev v) (by rw [hvc];exact y3)
 have hck:(Instr.checkKey false 10000 kt (a.eval k)).run P w= .ok () w:=by rw [hkv];exact MapKept.run_checkKey u2 hkey _ _
 have hkl:q<st.length:=(List.getElem?_eq_some_iff.1 hst).1
 have key: ∃es' clk',(execOp a.eval o).run P w= .ok .skip {w with heap:=w.heap.setIfInBounds oi.b (.map es' clk')}/\ka e es'.toList (yM e (ev t k) y l)/\jl es' clk'=true:=by
  rcases qqV hsh u3 hk l es.toList 0 hE with ⟨a1,a2,a3⟩ | ⟨j,x',m',a1,b2,b3,a4,a5⟩
  . have hf:(Instr.findKey kt (a.eval k) es.toList).run P w= .ok none w:=by rw [hkv];exact MapKept.run_findKey u2 a1
    refine ⟨es.push {key:=a.eval k,val:=a.eval v,born:=clk},clk+1, ?_, ?_,Wl hsO _ _⟩
    . rcases ho with ho | ho<;>simp [execOp,ho,Instr.mapUpdate,run_underlying u1,hx,MapKept.run_getObj_map hb,hck,hf,MapKept.run_setObj_map _ hb,Result.andThen]
    . rw [a3 y]
      unfold ka at hE ⊢
      simp [hE,y1,hkv,hkc,hvv]
  . have hf:(Instr.findKey kt (a.eval k) es.toList).run P w= .ok (some (0+j,tv ((enc e x').getD 1 .undef))) w:=by rw [hkv];exact MapKept.run_findKey u2 a1
    have hj:es[j]? =some m':=by simpa using b2
    have hstay:(Instr.keyThatStays m'.key (a.eval k)).run P w= .ok (a.eval k) w:=by
     rw [b3,hkv];exact MapKept.run_keyThatStays hkey
    refine ⟨es.modify j fun e=>{e with key:=a.eval k,val:=a.eval v},clk, ?_, ?_,qqZ hsO _ _ _⟩
    . rcases ho with ho | ho<;>simp [execOp,ho,Instr.mapUpdate,run_underlying u1,hx,MapKept.run_getObj_map hb,hck,hf,hj,hstay,MapKept.run_setObj_map _ hb,Result.andThen]
    . rw [a5 y]
      unfold ka at hE ⊢
      apply List.ext_getElem?
      intro i
      have hi:=congrArg (·[i]?) hE
      simp only [List.getElem?_map,Array.getElem?_toList,Array.getElem?_modify,List.getElem?_set] at hi ⊢
      by_cases e1:j=i
      . subst e1
        rw [if_pos rfl,hj]
        rw [hj] at hi
        have hlt:j<l.length:=by
         rcases Nat.lt_or_ge j l.length with hl | hl
         . exact hl
         . rw [List.getElem?_eq_none hl] at hi;simp at hi
        simp [hlt,y1,hkv,hkc,hvv]
      . rw [if_neg e1,if_neg e1]
        exact hi
 obtain ⟨es',clk',hrun,hE',hsO'⟩:=key
 intro K' Q' hK' _
 unfold Oper.wp
 rw [hrun]
 have hlt:oi.b<w.heap.size:=(Array.getElem?_eq_some_iff.1 hb).1
 have hn: ¬(qm (.cells [.ments e l])=true/\oi.cap=0):=by simp [qm]
 obtain ⟨k1,k2,k3⟩:=qN (st':=st.set q (some (.cells [.ments e (yM e (ev t k) y l)]))) (k:=q) (v:=0) (o':= .cells [.ments e (yM e (ev t k) y l)]) (oi:=oi) (w':={w with heap:=w.heap.setIfInBounds oi.b (.map es' clk')}) hg (wb hkl) (by omega) (by simp) rfl (.inr hoi) (fun u oi' hu=>by have:=jN hg hst hu;simpa [obVer] using this) trivial
  (fun _=> .inr ⟨_,hst,ze hoi hn⟩) rfl rfl rfl (by simp) (fun b hb' hno=>by
   have hne:oi.b≠b:=fun e1=>hno _ hst (by rw [ze hoi hn,e1])
   simp [Array.getElem?_setIfInBounds_ne hne]) (fun _=>⟨zP es',0,(0,0),by simp [hlt,xA,meHead,me1,xL,hsO'],fun q _ h=>absurd h.2 (Nat.not_lt_zero _),⟨by simp [qQ,zP],fun j u hu=>by
   match j,hu with
   | 0,hu=>
    simp [qQ] at hu
    subst hu
    refine ⟨.iface 0 (.tuple (es'.toList.flatMap fun e=>[e.key,e.val]).toArray),rfl,rfl, ?_⟩
    rw [YU hsh _ _ hE']
    exact .me e _
   | j+1,hu=>simp [qQ] at hu⟩,rfl⟩) (fun o2 ho2=>by
   rw [hst] at ho2;simp only [Option.some.injEq] at ho2;subst ho2;exact ⟨_,rfl,rfl,hoi⟩)
 exact hK' _ _ _ _ _ h k1 ⟨k3,zu (.inl ⟨_,hst⟩)⟩ k2 (.undef _)
end
end Go.Proofs.YtbglndogddddoaaGreatDoor
namespace Go.Proofs.YtbglndogddddoaaGreatDoor
open Go.RowKit
variable {P:Program} [Bd P]
def vj (b:Bool) (es:List MapEntry) (l:List (Int×ByteArray×Nat)):Prop:=es.map (fun m=>(m.key,m.val))=l.map fun p=>(fkey b p,Value.func (.func p.2.2) #[] #[])
theorem entsF_of {b:Bool}: ∀(es:List MapEntry) (l:List (Int×ByteArray×Nat)),es.flatMap (fun m=>[m.key,m.val])=l.flatMap (fun p=>[fkey b p,Value.func (.func p.2.2) #[] #[]])->vj b es l
 | [],[],_=>rfl
 | [],p::l,h=>by simp at h
 | m::es,[],h=>by simp at h
 | m::es,p::l,h=>by
  simp only [List.flatMap_cons,List.cons_append,List.nil_append,List.cons.injEq] at h
  obtain ⟨h2,h3,h4⟩:=h
  have:=entsF_of es l h4
  unfold vj at this ⊢
  simp [this,h2,h3]
theorem Yx {b:Bool}: ∀(es:List MapEntry) (l:List (Int×ByteArray×Nat)),vj b es l->es.flatMap (fun m=>[m.key,m.val])=l.flatMap (fun p=>[fkey b p,Value.func (.func p.2.2) #[] #[]])
 | [],[],_=>rfl
 | [],p::l,h=>by simp [vj] at h
 | m::es,[],h=>by simp [vj] at h
 | m::es,p::l,h=>by
  unfold vj at h
  simp only [List.map_cons,List.cons.injEq,Prod.mk.injEq] at h
  obtain ⟨⟨h2,h3⟩,h4⟩:=h
  have:=Yx es l h4
  simp [this,h2,h3]
def J1:Bool->T
 | true=> .str ⟨#[]⟩
 | false=> .int .i64 0
def Kq:Bool->Int×ByteArray×Nat->T
 | true,p=> .str p.2.1
 | false,p=> .int .i64 p.1
theorem fcell_ok (b:Bool) (p:Int×ByteArray×Nat):zi (J1 b) (Kq b p)=true/\tv (Kq b p)=fkey b p:=by
 cases b<;>simp [J1,Kq,zi,tv,fkey]
theorem Kj {b:Bool} {k:T} {p:Int×ByteArray×Nat} {c:Bool} (h:fkeyEq b k p=some c):zi (J1 b) k=true/\yF k (Kq b p)=c:=by
 cases b<;>cases k<;>simp [fkeyEq] at h
 . rename_i kk n
   cases kk<;>simp at h
   exact ⟨rfl,by simp [yF,Kq,h]⟩
 . exact ⟨rfl,by simp [yF,Kq,h]⟩
theorem fpair_ok {b:Bool} {k:T} {f:Nat} {p:Int×ByteArray×Nat} (h:fpair b k f=some p):zi (J1 b) k=true/\tv k=fkey b p/\p.2.2=f:=by
 cases b<;>cases k<;>simp [fpair] at h
 . rename_i kk n
   cases kk<;>simp at h
   subst h
   exact ⟨rfl,rfl,rfl⟩
 . subst h
   exact ⟨rfl,rfl,rfl⟩
theorem Yr {b:Bool} {kT:T} {d:TypeDesc} {K:T->Prop} (hd:VT (J1 b) d): ∀(l:List (Int×ByteArray×Nat)) (es:List MapEntry) (i:Nat),vj b es l->yr b kT K l->
  zi (J1 b) kT=true/\ ∃n p,Instr.findNow d (tv kT) es i=some (some (i+n,Value.func (.func p.2.2) #[] #[]))/\p∈l/\K (.fn p.2.2 [] [])
 | [],_,_,_,h=>h.elim
 | p::l,[],_,h,_=>by simp [vj] at h
 | p::l,m::es,i,h,hc=>by
  unfold vj at h
  simp only [List.map_cons,List.cons.injEq,Prod.mk.injEq] at h
  obtain ⟨⟨q1,q2⟩,q3⟩:=h
  unfold yr at hc
  split at hc
  case h_2=>exact hc.elim
  rename_i c he
  obtain ⟨e1,e2⟩:=Kj he
  obtain ⟨c1,c2⟩:=fcell_ok b p
  have hsame:=Q8 hd e1 c1
  rw [c2,e2] at hsame
  refine ⟨e1, ?_⟩
  cases c with
  | true=>exact ⟨0,p,by simp only [Instr.findNow,q1,hsame,q2,Nat.add_zero],List.mem_cons_self ..,hc⟩
  | false=>
   obtain ⟨_,n,p',a1,a2,a3⟩:=Yr hd l es (i+1) q3 hc
   refine ⟨n+1,p', ?_,List.mem_cons_of_mem _ a2,a3⟩
   simp only [Instr.findNow,q1,hsame,a1]
   congr 3;omega
theorem fnew_ok {b:Bool} {kT:T} {d:TypeDesc} (hd:VT (J1 b) d): ∀(l:List (Int×ByteArray×Nat)) (es:List MapEntry) (i:Nat),vj b es l->fnew b kT l=true->Instr.findNow d (tv kT) es i=some none
 | [],[],_,_,_=>rfl
 | [],m::es,_,h,_=>by simp [vj] at h
 | p::l,[],_,h,_=>by simp [vj] at h
 | p::l,m::es,i,h,hc=>by
  unfold vj at h
  simp only [List.map_cons,List.cons.injEq,Prod.mk.injEq] at h
  obtain ⟨⟨q1,q2⟩,q3⟩:=h
  unfold fnew at hc
  split at hc
  case h_2=>cases hc
  rename_i he
  obtain ⟨e1,e2⟩:=Kj he
  obtain ⟨c1,c2⟩:=fcell_ok b p
  have hsame:=Q8 hd e1 c1
  rw [c2,e2] at hsame
  simp only [Instr.findNow,q1,hsame,fnew_ok hd l es (i+1) q3 hc]
section
variable {P:Program} [Bd P] {D:TD} {g:G P} {st:St} {w:World} {n:Nat} {t:Tm} {a:Act} {o:Oper} {K X:Kn}
theorem fents_at (hg:Good g st w) {m:T} {x:Value} {b:Bool} {q:Nat} {l:List (Int×ByteArray×Nat)} (hR:R g m x) (h:Xo st m=some (q,b,l)):
  ∃(oi:OI) (es:Array MapEntry) (clk:Nat),st[q]? =some (some (.cells [.fents b l]))/\g.ob q 0=some oi/\x= .map (some oi.b)/\w.heap[oi.b]? =some (.map es clk)/\vj b es.toList l/\jl es clk=true/\ ∀p∈l,(ytab p.2.2).isNone=true:=by
 unfold Xo at h
 split at h
 case h_2=>cases h
 rename_i k
 split at h
 case h_2=>cases h
 rename_i b' l' hr
 simp only [Option.some.injEq,Prod.mk.injEq] at h
 obtain ⟨rfl,rfl,rfl⟩:=h
 cases hR with
 | mp _ oi h1=>
  obtain ⟨oi',o1,_,o3⟩:=hg.obj _ _ (qc.1 hr)
  have o1:g.ob k 0=some oi':=o1
  rw [h1] at o1
  injection o1 with o1
  subst o1
  rcases o3 with o3 | ⟨_,blk,E,fr,p1,_,p3,_⟩
  . cases o3.1
  cases hv:w.heap[oi.b]? with
  | none=>rw [hv] at p1;cases p1
  | some ob=>
   rw [hv] at p1
   obtain ⟨y,y1,_,y3⟩:=p3.at_ 0 _ rfl
   obtain ⟨es,clk,rfl,hst,hbl⟩:=view_me p1 y1 y3
   rw [hbl] at y1
   simp [zP] at y1
   subst y1
   have hf:flatF b' l'=(es.toList.flatMap fun e=>[e.key,e.val]).toArray/\ ∀p∈l',(ytab p.2.2).isNone=true:=by
    generalize (es.toList.flatMap fun e=>[e.key,e.val]).toArray=A at y3 ⊢
    cases y3 with
    | fe _ _ hy=>exact ⟨rfl,hy⟩
   refine ⟨oi,es,clk,qc.1 hr,h1,rfl,hv,entsF_of _ _ ?_,hst,hf.2⟩
   have:=congrArg Array.toList hf.1
   unfold flatF at this
   simpa using this.symm
theorem QX (hD:zv P D) {T0:TypeId} {b:Bool} (h:kB D T0=some b): ∃(kt vt:TypeId) (d:TypeDesc),P.underlying T0=some (.map kt vt)/\P.underlying kt=some d/\VT (J1 b) d:=by
 unfold kB at h
 split at h
 case h_2=>cases h
 rename_i ti _ hti
 split at h
 case h_2=>cases h
 rename_i kt vt hs
 split at h
 case h_2=>cases h
 rename_i tk htk
 obtain ⟨d0,u1,_,u3⟩:=(hD _ _ hti).under
 rw [hs] at u3
 simp only [srtOk] at u3
 subst u3
 obtain ⟨d,k1,_,k3⟩:=(hD _ _ htk).under
 refine ⟨kt,vt,d,u1,k1, ?_⟩
 split at h
 . rename_i hk
   injection h with h
   subst h
   rw [hk] at k3
   exact k3
 . rename_i hk
   injection h with h
   subst h
   rw [hk] at k3
   exact k3
 . cases h
theorem qqj (hg:Good g st w) {T0:TypeId} {b:Bool} (ho:o.op= .makeMap T0 none) (hK:K (.mp st.length) (st++[some (.cells [.fents b []])])):xy P o a g st w K X:=by
 have hrun:(execOp a.eval o).run P w= .ok (.value (.map (some w.heap.size))) (w.alloc (.map #[] 0)):=by
  simp only [execOp,ho,Instr.makeMap,newObj,Option.map_none,Sem.run_bind,Sem.run_pure,Result.andThen_ok]
  rfl
 intro K' Q' hK' _
 unfold Oper.wp
 rw [hrun]
 obtain ⟨k1,k2,k3⟩:=qN (st':=st++[some (.cells [.fents b []])]) (k:=st.length) (v:=0) (o':= .cells [.fents b []]) (oi:=⟨w.heap.size,0,0⟩) (w':=w.alloc (.map #[] 0)) hg jh (Nat.le_refl _) (by simp) rfl (.inl (zK hg)) (fun u oi hu=>by rw [zK hg] at hu;cases hu) trivial
  (fun _=> .inl (Nat.le_refl _)) rfl rfl rfl (by simp) (fun b hb _=>Below.heap_alloc w _ b hb) (fun _=>⟨zP #[],0,(0,0),by rw [heap_alloc_new w _];rfl,fun q _ h=>absurd h.2 (Nat.not_lt_zero _),⟨by simp [qQ,zP],fun j u hu=>by
   match j,hu with
   | 0,hu=>simp [qQ] at hu;subst hu;exact ⟨_,rfl,rfl, .fe b [] (fun p hp=>by cases hp)⟩
   | j+1,hu=>simp [qQ] at hu⟩,rfl⟩) (fun o ho=>by rw [List.getElem?_eq_none (Nat.le_refl _)] at ho;cases ho)
 exact hK' _ _ _ _ _ hK k1 ⟨k3,zu (.inr rfl)⟩ k2 (.mp _ ⟨w.heap.size,0,0⟩ (by simp [G.set]))
theorem dok_lookupF (hD:zv P D) (hg:Good g st w) (ht:RelT g n t a) {T0:TypeId} {m k:Operand} {ok:Bool} (ho:o.op= .lookup T0 m k ok) (h:vo D T0 (ev t m) (ev t k) ok st fun v=>K v st):xy P o a g st w K X:=by
 unfold vo at h
 split at h
 case h_2=>exact h.elim
 rename_i b q b' l hi hm
 split at h
 case h_2=>exact h.elim
 rename_i hbb
 obtain rfl:=eq_of_beq hbb
 obtain ⟨kt,vt,d,u1,u2,u3⟩:=QX hD hi
 obtain ⟨oi,es,clk,_,_,hx,hb,hE,_,hy⟩:=fents_at hg (ht.ev m) hm
 obtain ⟨hk,j,p,a1,a2,a3⟩:=Yr u3 l es.toList 0 hE h
 have hkv:=R_tv (ht.ev k) hk
 have hkey:=Zh u3 hk
 have hck:(Instr.checkKey es.isEmpty 10000 kt (a.eval k)).run P w= .ok () w:=by rw [hkv];exact MapKept.run_checkKey u2 hkey _ _
 have hf:(Instr.findKey kt (a.eval k) es.toList).run P w= .ok (some (0+j,Value.func (.func p.2.2) #[] #[])) w:=by rw [hkv];exact MapKept.run_findKey u2 a1
 refine jo hg (x:= .func (.func p.2.2) #[] #[]) ?_ (.fn p.2.2 [] [] _ _ (hy p a2) rfl rfl (by simp) (by simp)) a3
 simp [execOp,ho,Instr.lookup,run_underlying u1,hx,MapKept.run_getObj_map hb,hck,hf,Result.andThen]
theorem yS (hD:zv P D) (hg:Good g st w) (ht:RelT g n t a) {T0:TypeId} {m k v:Operand} (ho:o.op= .mapUpdate T0 m k v∨o.op= .insert T0 m k v) (h:z8 D T0 (ev t m) (ev t k) (ev t v) st fun s=>K .undef s):xy P o a g st w K X:=by
 unfold z8 at h
 split at h
 case h_2=>exact h.elim
 rename_i b q b' l f hi hm hv
 split at h
 case h_2=>exact h.elim
 rename_i p hbb hyf hnew hp
 obtain rfl:=eq_of_beq hbb
 obtain ⟨kt,vt,d,u1,u2,u3⟩:=QX hD hi
 obtain ⟨oi,es,clk,hst,hoi,hx,hb,hE,hsO,hy⟩:=fents_at hg (ht.ev m) hm
 obtain ⟨hk,hpk,hpf⟩:=fpair_ok hp
 have hkv:=R_tv (ht.ev k) hk
 have hkey:=Zh u3 hk
 have hvv:a.eval v= .func (.func f) #[] #[]:=by
  have:=ht.ev v
  rw [hv] at this
  generalize a.eval v=av at this ⊢
  cases this with
  | fn _ _ _ xs ys _ h1 h2=>
   have e1:xs= #[]:=Array.eq_empty_of_size_eq_zero h1.symm
   have e2:ys= #[]:=Array.eq_empty_of_size_eq_zero h2.symm
   rw [e1,e2]
  | yl _ _ yi l r h1=>rw [h1] at hyf;cases hyf
 have hck:(Instr.checkKey false 10000 kt (a.eval k)).run P w= .ok () w:=by rw [hkv];exact MapKept.run_checkKey u2 hkey _ _
 have hf:(Instr.findKey kt (a.eval k) es.toList).run P w= .ok none w:=by rw [hkv];exact MapKept.run_findKey u2 (fnew_ok u3 l es.toList 0 hE hnew)
 have hkl:q<st.length:=(List.getElem?_eq_some_iff.1 hst).1
 have hrun:(execOp a.eval o).run P w= .ok .skip {w with heap:=w.heap.setIfInBounds oi.b (.map (es.push {key:=a.eval k,val:=a.eval v,born:=clk}) (clk+1))}:=by
  rcases ho with ho | ho<;>simp [execOp,ho,Instr.mapUpdate,run_underlying u1,hx,MapKept.run_getObj_map hb,hck,hf,MapKept.run_setObj_map _ hb,Result.andThen]
 have hE':vj b (es.push {key:=a.eval k,val:=a.eval v,born:=clk}).toList (l++[p]):=by
  unfold vj at hE ⊢
  simp [hE,hkv,hpk,hvv,hpf]
 have hsO':=Wl hsO (a.eval k) (a.eval v)
 generalize es.push {key:=a.eval k,val:=a.eval v,born:=clk}=es' at hrun hE' hsO'
 intro K' Q' hK' _
 unfold Oper.wp
 rw [hrun]
 have hlt:oi.b<w.heap.size:=(Array.getElem?_eq_some_iff.1 hb).1
 have hn: ¬(qm (.cells [.fents b l])=true/\oi.cap=0):=by simp [qm]
 obtain ⟨k1,k2,k3⟩:=qN (st':=st.set q (some (.cells [.fents b (l++[p])]))) (k:=q) (v:=0) (o':= .cells [.fents b (l++[p])]) (oi:=oi) (w':={w with heap:=w.heap.setIfInBounds oi.b (.map es' (clk+1))}) hg (wb hkl) (by omega) (by simp) rfl (.inr hoi) (fun u oi' hu=>by have:=jN hg hst hu;simpa [obVer] using this) trivial
  (fun _=> .inr ⟨_,hst,ze hoi hn⟩) rfl rfl rfl (by simp) (fun b hb' hno=>by
   have hne:oi.b≠b:=fun e1=>hno _ hst (by rw [ze hoi hn,e1])
   simp [Array.getElem?_setIfInBounds_ne hne]) (fun _=>⟨zP es',0,(0,0),by simp [hlt,xA,meHead,me1,xL,hsO'],fun q _ h=>absurd h.2 (Nat.not_lt_zero _),⟨by simp [qQ,zP],fun j u hu=>by
   match j,hu with
   | 0,hu=>
    simp [qQ] at hu
    subst hu
    refine ⟨.iface 0 (.tuple (es'.toList.flatMap fun e=>[e.key,e.val]).toArray),rfl,rfl, ?_⟩
    rw [Yx _ _ hE']
    exact .fe b _ fun p' hp'=>by
     rcases List.mem_append.1 hp' with h1 | h1
     . exact hy p' h1
     . rw [List.mem_singleton.1 h1,hpf];exact hyf
   | j+1,hu=>simp [qQ] at hu⟩,rfl⟩) (fun o2 ho2=>by
   rw [hst] at ho2;simp only [Option.some.injEq] at ho2;subst ho2;exact ⟨_,rfl,rfl,hoi⟩)
 exact hK' _ _ _ _ _ h k1 ⟨k3,zu (.inl ⟨_,hst⟩)⟩ k2 (.undef _)
theorem ZR {e:El} {es:List MapEntry} {l:List (ty e)} (h:ka e es l):es.length=l.length:=by
 have:=congrArg List.length h
 simpa using this
theorem ents_get {e:El} {es:List MapEntry} {l:List (ty e)} (h:ka e es l) {i:Nat} {m:MapEntry} {x:ty e} (hm:es[i]? =some m) (hx:l[i]? =some x):m.key=tv ((enc e x).headD .undef)/\m.val=tv ((enc e x).getD 1 .undef):=by
 have:=congrArg (·[i]?) h
 simp only [List.getElem?_map,hm,hx,Option.map_some,Option.some.injEq,Prod.mk.injEq] at this
 exact this
def ke {α:Type} (l:List α) (o:Nat) (seen:Array Nat):List α:=((l.zipIdx o).filter fun p=> !seen.contains p.2).map (·.1)
theorem jZ {α:Type} (x:α) (l:List α) (o:Nat) (seen:Array Nat):ke (x::l) o seen=(if seen.contains o=true then [] else [x])++ke l (o+1) seen:=by
 unfold ke
 rw [List.zipIdx_cons,List.filter_cons]
 cases seen.contains o<;>simp
theorem Vs {α:Type}: ∀(l:List α) (o i:Nat) (seen:Array Nat),i<o->ke l o (seen.push i)=ke l o seen
 | [],_,_,_,_=>rfl
 | x::l,o,i,seen,h=>by
  rw [jZ,jZ,Vs l (o+1) i seen (by omega),contains_push]
  have:(o==i)=false:=by simp;omega
  rw [this,Bool.or_false]
theorem WW {α:Type}: ∀(l:List α) (o j:Nat) (seen:Array Nat) (x:α),l[j]? =some x->seen.contains (o+j)=false-> ∃p r,ke l o seen=p++x::r/\ke l o (seen.push (o+j))=p++r
 | [],_,_,_,_,h,_=>by simp at h
 | y::l,o,0,seen,x,h,hs=>by
  simp only [List.getElem?_cons_zero,Option.some.injEq] at h
  subst h
  rw [Nat.add_zero] at hs
  refine ⟨[],ke l (o+1) seen, ?_, ?_⟩
  . rw [jZ,hs];rfl
  . rw [jZ,Nat.add_zero,contains_push,Vs l (o+1) o seen (by omega)]
    simp
 | y::l,o,j+1,seen,x,h,hs=>by
  simp only [List.getElem?_cons_succ] at h
  obtain ⟨p,r,h1,h2⟩:=WW l (o+1) j seen x h (by rw [show o+1+j=o+(j+1)by omega];exact hs)
  rw [show o+1+j=o+(j+1)by omega] at h2
  refine ⟨(if seen.contains o=true then [] else [y])++p,r, ?_, ?_⟩
  . rw [jZ,h1,List.append_assoc]
  . rw [jZ,h2,contains_push,List.append_assoc]
    have:(o==o+(j+1))=false:=by simp
    rw [this,Bool.or_false]
theorem Wa {α:Type}: ∀(l:List α) (o:Nat) (seen:Array Nat),(∀j,j<l.length->seen.contains (o+j)=true)->ke l o seen=[]
 | [],_,_,_=>rfl
 | x::l,o,seen,h=>by
  have h0:=h 0 (by simp)
  rw [Nat.add_zero] at h0
  rw [jZ,h0,Wa l (o+1) seen fun j hj=>by
   have:=h (j+1) (by simpa using hj)
   rwa [show o+(j+1)=o+1+j by omega] at this]
  rfl
theorem itrV_inj {b b' n n':Nat} {s s':Array Nat} (h:itrV b n s=itrV b' n' s'):b=b'/\n=n'/\s=s':=by
 unfold itrV at h
 injection h with _ h
 injection h with h
 have h:=congrArg Array.toList h
 simp only [Array.toList_append,Array.toList_map,List.cons_append,List.nil_append,List.cons.injEq,Value.map.injEq,Option.some.injEq,Value.int.injEq,true_and] at h
 obtain ⟨h1,h2,h3⟩:=h
 refine ⟨h1,by omega, ?_⟩
 apply Array.toList_inj.1
 have: ∀a c:List Nat,a.map (fun i=>Value.int .i64 (i:Nat))=c.map (fun i=>Value.int .i64 (i:Nat))->a=c:=fun a=>by
  induction a with
  | nil=>intro c h;cases c<;>simp at h;rfl
  | cons x a ih=>
   intro c h
   cases c with
   | nil=>simp at h
   | cons y c=>
    simp only [List.map_cons,List.cons.injEq,Value.int.injEq,true_and] at h
    rw [ih c h.2,show x=y by omega]
 exact this _ _ h3
theorem view_it {ob:Obj} {blk:Array Value} {E:TypeId} {fr:Nat×Nat} {y:Value} {q:Nat} {e:El} {all left cur:List (ty e)} (p:xL true (some ob)=some (.cells blk E fr)) (hy:blk[0]? =some y) (hR:R g (.itr (some q) e all left cur) y):
  ∃oi seen,g.ob q 0=some oi/\ob= .mapIter (some oi.b) all.length seen all.length/\left=leftI all seen/\(∀x∈cur, ∃i,seen.back?=some i/\all[i]? =some x):=by
 generalize hz:y=z at hR
 cases hR with
 | it _ _ _ _ _ oi seen h1 h2 h3=>
  cases ob with
  | map es clk=>
   simp only [xL] at p
   cases hs:jl es clk with
   | false=>rw [hs] at p;cases p
   | true=>
    rw [hs] at p
    simp only [cond_true,Option.some.injEq,Obj.cells.injEq] at p
    rw [<- p.1] at hy
    simp [zP] at hy
    rw [hz] at hy
    unfold itrV at hy
    injection hy with hy
    exact absurd hy (by decide)
  | mapIter m n seen' l=>
   cases m with
   | none=>cases p
   | some b=>
    simp only [xL] at p
    cases hs:decide (n=l)with
    | false=>rw [hs] at p;cases p
    | true=>
     rw [hs] at p
     simp only [cond_true,Option.some.injEq,Obj.cells.injEq] at p
     rw [<- p.1] at hy
     simp at hy
     rw [hz] at hy
     obtain ⟨rfl,rfl,rfl⟩:=itrV_inj hy
     have:=of_decide_eq_true hs
     subst this
     exact ⟨oi,seen',h1,rfl,h2,h3⟩
  | _=>cases p
theorem itr_at (hg:Good g st w) {v:T} {x:Value} {F:(k q:Nat)->(e:El)->(all left cur l:List (ty e))->Prop} (hR:R g v x) (h:YR st v F):
  ∃(k q:Nat) (e:El) (all left cur l:List (ty e)) (oi oq:OI) (seen:Array Nat) (es:Array MapEntry) (clk:Nat) (ks vs:T),F k q e all left cur l/\st[k]? =some (some (.cells [.itr (some q) e all left cur]))/\g.ob k 0=some oi/\g.ob q 0=some oq/\x= .pointer (some ⟨oi.b,0,none⟩)/\
   w.heap[oi.b]? =some (.mapIter (some oq.b) all.length seen all.length)/\w.heap[oq.b]? =some (.map es clk)/\left=leftI all seen/\(∀x∈cur, ∃i,seen.back?=some i/\all[i]? =some x)/\ka e es.toList l/\jl es clk=true/\yC e=some (ks,vs):=by
 unfold YR at h
 split at h
 case h_2=>exact h.elim
 rename_i k
 split at h
 case h_2=>exact h.elim
 rename_i q e all left cur hr
 split at h
 case h_2=>exact h.elim
 rename_i e' l' hrq
 split at h
 case isFalse=>exact h.elim
 rename_i he
 subst he
 split at h
 case h_2=>exact h.elim
 rename_i hsome
 obtain ⟨⟨ks,vs⟩,hsh⟩:=Option.isSome_iff_exists.1 hsome
 generalize hxe:x=xv at hR
 cases hR with
 | pt _ _ oi h1=>
  obtain ⟨oi',o1,_,o3⟩:=hg.obj _ _ (qc.1 hr)
  have o1:g.ob k 0=some oi':=o1
  rw [h1] at o1
  injection o1 with o1
  subst o1
  rcases o3 with o3 | ⟨_,blk,E,fr,p1,_,p3,_⟩
  . cases o3.1
  cases hv:w.heap[oi.b]? with
  | none=>rw [hv] at p1;cases p1
  | some ob=>
   rw [hv] at p1
   obtain ⟨y,y1,_,y3⟩:=p3.at_ 0 _ rfl
   obtain ⟨oq,seen,h2,rfl,h4,h5⟩:=view_it p1 y1 y3
   have hm:Xk st e' (.mp q)=some (q,l'):=by simp [Xk,hrq,zD]
   obtain ⟨oq',es,clk,_,m2,_,m4,m5,m6⟩:=map_at hg hsh (.mp q oq h2) hm
   rw [h2] at m2
   injection m2 with m2
   subst m2
   exact ⟨k,q,e',all,left,cur,l',oi,oq,seen,es,clk,ks,vs,h,qc.1 hr,h1,h2,rfl,hv,m4,h4,h5,m5,m6,hsh⟩
theorem Q0 {es:Array MapEntry} {clk:Nat} (h:jl es clk=true):(∀(i:Nat) (m:MapEntry),es.toList[i]? =some m->m.born=i)/\clk=es.size/\(es.toList.map (·.born)).Nodup:=by
 have h:=of_decide_eq_true h
 refine ⟨fun i m hm=> ?_,h.2,by rw [h.1];exact List.nodup_range⟩
 have:=congrArg (·[i]?) h.1
 simp only [List.getElem?_map,hm,Option.map_some] at this
 have hlt:i<es.size:=by have:=(List.getElem?_eq_some_iff.1 hm).1;simpa using this
 rw [List.getElem?_range hlt] at this
 exact Option.some.inj this
theorem R_entry {e:El} {ks vs:T} (hsh:yC e=some (ks,vs)) (x:ty e) {m:MapEntry} (hk:m.key=tv ((enc e x).headD .undef)) (hv:m.val=tv ((enc e x).getD 1 .undef)) (pre:List T) (pv:List Value) (hp:pre.length=pv.length) (hR: ∀(i:Nat) (c:T) (z:Value),pre[i]? =some c->pv[i]? =some z->R g c z):R g (.tu (pre++enc e x)) (.tuple (pv++[m.key,m.val]).toArray):=by
 obtain ⟨kc,vc,h1,h2,h3⟩:=vn hsh x
 rw [h1] at hk hv ⊢
 refine .tu _ _ (by simp [hp]) fun i c z hc hz=> ?_
 simp only [List.getElem?_toArray] at hz
 by_cases hi:i<pre.length
 . rw [List.getElem?_append_left hi] at hc
   rw [List.getElem?_append_left (by omega)] at hz
   exact hR i c z hc hz
 . rw [List.getElem?_append_right (by omega)] at hc
   rw [List.getElem?_append_right (by omega), <- hp] at hz
   match i-pre.length,hc,hz with
   | 0,hc,hz=>simp at hc hz;subst hc;subst hz;rw [hk];exact tv_R h2
   | 1,hc,hz=>simp at hc hz;subst hc;subst hz;rw [hv];exact tv_R h3
   | j+2,hc,hz=>simp at hc
theorem dok_range (hD:zv P D) (hg:Good g st w) (ht:RelT g n t a) {T0:TypeId} {m:Operand} (ho:o.op= .range T0 m) (h:QI D T0 (ev t m) st K):xy P o a g st w K X:=by
 unfold QI at h
 split at h
 case h_2=>exact h.elim
 rename_i ti q hti hm
 split at h
 case h_2=>exact h.elim
 rename_i kt vt e l hs hr
 split at h
 case h_2=>exact h.elim
 rename_i hsome
 obtain ⟨⟨ks,vs⟩,hsh⟩:=Option.isSome_iff_exists.1 hsome
 obtain ⟨d0,u1,_,u3⟩:=(hD _ _ hti).under
 rw [hs] at u3
 simp only [srtOk] at u3
 subst u3
 have hR:=ht.ev m
 rw [hm] at hR
 have hma:Xk st e (.mp q)=some (q,l):=by simp [Xk,hr,zD]
 obtain ⟨oi,es,clk,hst,hoi,hx,hb,hE,hsO⟩:=map_at hg hsh hR hma
 obtain ⟨_,hclk,_⟩:=Q0 hsO
 have hlen:clk=l.length:=by rw [hclk, <- ZR hE];simp
 have hrun:(execOp a.eval o).run P w= .ok (.value (.pointer (some ⟨w.heap.size,0,none⟩))) (w.alloc (.mapIter (some oi.b) clk #[] clk)):=by
  have:=run_range_map w T0 kt vt oi.b es clk u1 hb
  simp only [execOp,ho,hx,Sem.run_bind,this,Result.andThen_ok,Sem.run_pure]
 intro K' Q' hK' _
 unfold Oper.wp
 rw [hrun]
 have hleft:l=leftI l #[]:=by
  show l=ke l 0 #[]
  have: ∀(l:List (ty e)) (o:Nat),ke l o #[]=l:=fun l=>by
   induction l with
   | nil=>intro o;rfl
   | cons x l ih=>intro o;rw [jZ,ih];simp
  rw [this]
 obtain ⟨k1,k2,k3⟩:=qN (st':=st++[some (.cells [.itr (some q) e l l []])]) (k:=st.length) (v:=0) (o':= .cells [.itr (some q) e l l []]) (oi:=⟨w.heap.size,0,0⟩) (w':=w.alloc (.mapIter (some oi.b) clk #[] clk)) hg jh (Nat.le_refl _) (by simp) rfl (.inl (zK hg)) (fun u oi hu=>by rw [zK hg] at hu;cases hu) trivial
  (fun _=> .inl (Nat.le_refl _)) rfl rfl rfl (by simp) (fun b hb _=>Below.heap_alloc w _ b hb) (fun _=>⟨#[itrV oi.b clk #[]],0,(0,0),by rw [heap_alloc_new w _];simp [xA,meHead,me1,xL],fun q _ h=>absurd h.2 (Nat.not_lt_zero _),⟨by simp [qQ],fun j u hu=>by
   match j,hu with
   | 0,hu=>
    simp [qQ] at hu
    subst hu
    refine ⟨_,rfl,rfl, ?_⟩
    rw [hlen]
    exact .it q e l l [] oi #[] hoi hleft (fun x hx=>by cases hx)
   | j+1,hu=>simp [qQ] at hu⟩,rfl⟩) (fun o ho=>by rw [List.getElem?_eq_none (Nat.le_refl _)] at ho;cases ho)
 exact hK' _ _ _ _ _ h k1 ⟨k3,zu (.inr rfl)⟩ k2 (.pt _ 0 ⟨w.heap.size,0,0⟩ (by simp [G.set]))
theorem dok_entry (hg:Good g st w) (ht:RelT g n t a) {x:Operand} (ho:o.op= .entry x) (h:Jh (ev t x) st fun v=>K v st):xy P o a g st w K X:=by
 obtain ⟨k,q,e,all,left,cur,l,oi,oq,seen,es,clk,ks,vs,hF,hst,hoi,hoq,hx,hb,hbq,hleft,hcur,hE,hsO,hsh⟩:=itr_at hg (ht.ev x) h
 split at hF
 case h_2=>exact hF.elim
 rename_i y
 obtain ⟨rfl,hK⟩:=hF
 obtain ⟨i,hback,hi⟩:=hcur y (List.mem_singleton.2 rfl)
 obtain ⟨hborn,hclk,hnd⟩:=Q0 hsO
 have hseen:seen=seen.pop.push i:=by
  rw [Array.back?_eq_getElem?] at hback
  have hpos:seen.size-1<seen.size:=(Array.getElem?_eq_some_iff.1 hback).1
  apply Array.ext_getElem?
  intro j
  rw [Array.getElem?_push,Array.size_pop]
  by_cases hj:j=seen.size-1
  . rw [if_pos hj,hj,hback]
  . rw [if_neg hj,Array.getElem?_pop]
    by_cases h2:j<seen.size-1
    . rw [if_pos h2]
    . rw [if_neg h2,Array.getElem?_eq_none (by omega)]
 have hlt:i<es.size:=by
  have h1:=(List.getElem?_eq_some_iff.1 hi).1
  have h2:=ZR hE
  simp only [Array.length_toList] at h2
  omega
 have hm:es.toList[i]? =some es[i]:=by simp [hlt]
 have hbi:=hborn i _ hm
 obtain ⟨e1,e2⟩:=ents_get hE hm hi
 have hlen:l.length=clk:=by rw [hclk, <- ZR hE];simp
 have hrun:(execOp a.eval o).run P w= .ok (.value (.tuple #[(es[i]).key,(es[i]).val])) w:=by
  have:=run_entry_at (P:=P) w oi.b oq.b l.length seen.pop es clk es[i] (by rw [hb,hbi, <- hseen,hlen]) hbq (by simp) hnd
  simp only [execOp,ho,hx,Sem.run_bind,this,Result.andThen_ok,Sem.run_pure]
 exact jo hg hrun (R_entry hsh y e1 e2 [] [] rfl (fun i c z hc=>by simp at hc)) hK
theorem dok_next (hg:Good g st w) (ht:RelT g n t a) {x:Operand} (ho:o.op= .next x false) (h:dnext (ev t x) st K):xy P o a g st w K X:=by
 obtain ⟨k,q,e,all,left,cur,l,oi,oq,seen,es,clk,ks,vs,hF,hst,hoi,hoq,hx,hb,hbq,hleft,hcur,hE,hsO,hsh⟩:=itr_at hg (ht.ev x) h
 obtain ⟨rfl,h0,h1⟩:=hF
 obtain ⟨hborn,hclk,hnd⟩:=Q0 hsO
 have hlen:l.length=es.size:=by rw [<- ZR hE];simp
 have hold: ∀m∈es.toList,m.born<l.length:=fun m hm=>by
  obtain ⟨i,hi⟩:=List.getElem?_of_mem hm
  have:=hborn i m hi
  have hlt:=(List.getElem?_eq_some_iff.1 hi).1
  simp only [Array.length_toList] at hlt
  omega
 rcases run_next_at (P:=P) w o.type oi.b oq.b l.length l.length seen es clk hb hbq hold (Nat.le_refl _)with ⟨hz,hrun⟩ | ⟨m,hm,w1,hw1,hrun⟩
 . refine jo hg (x:= .tuple #[.bool false]) ?_ (.tu _ _ rfl fun i c y hc hy=> ?_) (h0 ?_)
   . simp only [execOp,ho,hx,Sem.run_bind,hrun,Result.andThen_ok,Sem.run_pure]
   . match i,hc,hy with
     | 0,hc,hy=>simp at hc hy;subst hc;subst hy;exact .bool _
     | i+1,hc,hy=>simp at hc
   . rw [hleft]
     refine Wa l 0 seen fun j hj=> ?_
     have hj':j<es.size:=by omega
     have hmj:es.toList[j]? =some es[j]:=by simp [hj']
     have:=all_seen es seen hz es[j] (by simp)
     rw [hborn j _ hmj] at this
     rw [Nat.zero_add];exact this
 . obtain ⟨hme,hns⟩:=mem_left hm
   obtain ⟨j,hj⟩:=List.getElem?_of_mem hme
   have hbj:=hborn j m hj
   have hjl:j<l.length:=by
    have:=(List.getElem?_eq_some_iff.1 hj).1
    simp only [Array.length_toList] at this
    omega
   have hlj:l[j]? =some l[j]:=by simp [hjl]
   obtain ⟨e1,e2⟩:=ents_get hE hj hlj
   rw [hbj] at hns hrun
   obtain ⟨p,r,l1,l2⟩:=WW l 0 j seen l[j] hlj (by rw [Nat.zero_add];exact hns)
   rw [Nat.zero_add] at l2
   have hK:=h1 p l[j] r (by rw [hleft];exact l1)
   have hrun':(execOp a.eval o).run P w= .ok (.value (.tuple #[.bool true,m.key,m.val])) (Go.ChangeMaps.setBlock w1 oi.b (.mapIter (some oq.b) l.length (seen.push j) clk)):=by
    simp only [execOp,ho,hx,Sem.run_bind,hrun,Result.andThen_ok,Sem.run_pure]
   intro K' Q' hK' _
   unfold Oper.wp
   rw [hrun']
   have hkl:k<st.length:=(List.getElem?_eq_some_iff.1 hst).1
   have hlt:oi.b<w.heap.size:=(Array.getElem?_eq_some_iff.1 hb).1
   have hh:w1.heap=w.heap/\w1.os=w.os/\w1.tape=w.tape/\w1.output=w.output:=by rcases hw1 with rfl | rfl<;>exact ⟨rfl,rfl,rfl,rfl⟩
   have hn: ¬(qm (.cells [.itr (some q) e l left cur])=true/\oi.cap=0):=by simp [qm]
   have hclk':clk=l.length:=by omega
   obtain ⟨k1,k2,k3⟩:=qN (st':=st.set k (some (.cells [.itr (some q) e l (p++r) [l[j]]]))) (k:=k) (v:=0) (o':= .cells [.itr (some q) e l (p++r) [l[j]]]) (oi:=oi) (w':=Go.ChangeMaps.setBlock w1 oi.b (.mapIter (some oq.b) l.length (seen.push j) clk)) hg (wb hkl) (by omega) (by simp) rfl (.inr hoi) (fun u oi' hu=>by have:=jN hg hst hu;simpa [obVer] using this) trivial
    (fun _=> .inr ⟨_,hst,ze hoi hn⟩) hh.2.1 hh.2.2.1 hh.2.2.2 (by simp [Go.ChangeMaps.setBlock,hh.1]) (fun b hb' hno=>by
     have hne:oi.b≠b:=fun e1=>hno _ hst (by rw [ze hoi hn,e1])
     simp [Go.ChangeMaps.setBlock,hh.1,Array.getElem?_setIfInBounds_ne hne]) (fun _=>⟨#[itrV oq.b l.length (seen.push j)],0,(0,0),by simp [Go.ChangeMaps.setBlock,hh.1,hlt,xA,meHead,me1,xL,hclk'],fun q _ h=>absurd h.2 (Nat.not_lt_zero _),⟨by simp [qQ],fun i u hu=>by
      match i,hu with
      | 0,hu=>
       simp [qQ] at hu
       subst hu
       exact ⟨_,rfl,rfl, .it q e l (p++r) [l[j]] oq (seen.push j) hoq l2.symm (fun x hx=>⟨j,by simp,by rw [List.mem_singleton.1 hx];exact hlj⟩)⟩
      | i+1,hu=>simp [qQ] at hu⟩,rfl⟩) (fun o2 ho2=>by
     rw [hst] at ho2;simp only [Option.some.injEq] at ho2;subst ho2;exact ⟨_,rfl,rfl,hoi⟩)
   refine hK' _ _ _ _ _ hK k1 ⟨k3,zu (.inl ⟨_,hst⟩)⟩ k2 (R_entry hsh l[j] e1 e2 [.bool true] [.bool true] rfl fun i c z hc hz=> ?_)
   match i,hc,hz with
   | 0,hc,hz=>simp at hc hz;subst hc;subst hz;exact .bool _
   | i+1,hc,hz=>simp at hc
end
end Go.Proofs.YtbglndogddddoaaGreatDoor
namespace Go.Proofs.YtbglndogddddoaaGreatDoor
open Go.RowKit
variable {P:Program} [Bd P]
inductive Ex where
 | normal
 | exit (id:Nat)
 | goto (l:Nat)
 | ret
 | pan (v:T)
abbrev Kc:=Ex->Tm->St->Prop
def qk (P:Program) (f:FuncId):Bool:=
 (ytab f).isNone&&match P.funcs[f]? with
 | some fn=> !(fn.name== "runtime.NumGoroutine")&&fn.body.isSome
 | none=>false
structure RL (g:G P) (us:List T) (args:Array Value):Prop where
 len:us.length=args.size
 val: ∀(i:Nat) (u:T) (x:Value),us[i]? =some u->args[i]? =some x->R g u x
def WF (ro:Option Nat):Fence:={Fence.wide with round:=ro}
def RY {P:Program} (g:G P) (us:List T) (yi:YI) (r:Loop):Prop:= ∀(i:Nat) (u:T) (d:Tmp),us[i]? =some u->yi.live[i]? =some d->R g u (r.tmps.getD d Go.undef)
def yL (P:Program) (f:FuncId) (g:G P) (vs:List T) (w:World) (Z:Ending->World->Prop):Prop:=
 match ytab f with
 | none=>qk P f=true/\ ∀args,RL g vs args->Calls P f args w Z
 | some yi=> ∃(xs us:List T),vs=xs++us/\us.length=yi.live.length/\ ∀(args:Array Value) (l:Nat) (r:Loop),RL g xs args->g.fx l r->YRec P f r->RY g us yi r->
   args.size=r.params.size/\RoundIn (WF none) 0 P l r.fn ((r.params.zip args).foldl (fun t (p,v)=>t.setIfInBounds p v) r.tmps) r.assign r.body w Z
theorem yL.of {P:Program} {f:FuncId} {g:G P} {vs:List T} {w:World} {Z:Ending->World->Prop} (he:qk P f=true) (h: ∀args,RL g vs args->Calls P f args w Z):yL P f g vs w Z:=by
 have h1:=he
 unfold qk at h1
 rw [Bool.and_eq_true] at h1
 have:ytab f=none:=by simpa using h1.1
 unfold yL
 rw [this]
 exact ⟨he,h⟩
theorem yL.mono {P:Program} {f:FuncId} {g:G P} {vs:List T} {w:World} {Z Z':Ending->World->Prop} (h:yL P f g vs w Z) (hz: ∀e w',Z e w'->Z' e w'):yL P f g vs w Z':=by
 unfold yL at h ⊢
 split at h
 . exact ⟨h.1,fun args hr=>(h.2 args hr).mono hz⟩
 . obtain ⟨xs,us,h1,h3,h4⟩:=h
   exact ⟨xs,us,h1,h3,fun args l r k1 k2 k3 k4=>⟨(h4 args l r k1 k2 k3 k4).1,(h4 args l r k1 k2 k3 k4).2.mono hz⟩⟩
theorem yL.re {P:Program} {f:FuncId} {g g1:G P} {vs vs1:List T} {w:World} {Z:Ending->World->Prop} (h:yL P f g1 vs1 w Z) (hl:vs1.length=vs.length) (hv: ∀(i:Nat) (u1:T),vs1[i]? =some u1-> ∃u,vs[i]? =some u/\ ∀x,R g u x->R g1 u1 x) (hf: ∀l r,g.fx l r->g1.fx l r):yL P f g vs w Z:=by
 unfold yL at h ⊢
 split at h
 . exact ⟨h.1,fun args hr=>h.2 args ⟨hl.trans hr.len,fun i u1 x hu hx=>by
    obtain ⟨u,e1,e2⟩:=hv i u1 hu
    exact e2 x (hr.val i u x e1 hx)⟩⟩
 . rename_i yi _
   obtain ⟨xs,us,h1,h3,h4⟩:=h
   subst h1
   obtain ⟨m,h2⟩: ∃m,xs.length=m:=⟨_,rfl⟩
   have hlen:vs.length=m+yi.live.length:=by rw [<- hl];simp [h2,h3]
   refine ⟨vs.take m,vs.drop m,(List.take_append_drop _ _).symm,by simp;omega,fun args l r k1 k2 k3 k4=>h4 args l r ⟨?_,fun i u1 x hu hx=> ?_⟩ (hf _ _ k2) k3 fun i u1 d hu hd=> ?_⟩
   . have:=k1.len;simp at this;omega
   . obtain ⟨u,e1,e2⟩:=hv i u1 (by rw [List.getElem?_append_left (List.getElem?_eq_some_iff.1 hu).1];exact hu)
     have hi:i<m:=by rw [<- h2];exact (List.getElem?_eq_some_iff.1 hu).1
     exact e2 x (k1.val i u x (by rw [List.getElem?_take_of_lt hi];exact e1) hx)
   . obtain ⟨u,e1,e2⟩:=hv (m+i) u1 (by rw [List.getElem?_append_right (by omega),h2];simpa using hu)
     exact e2 _ (k4 i u d (by rw [List.getElem?_drop];exact e1) hd)
def yx (P:Program) (f:FuncId) (vs:List T) (st:St) (K X:Kn):Prop:=
 ∀(g:G P) (w:World),Good g st w->yL P f g vs w fun e w'=> ∃(g':G P) (st':St),Good g' st' w'/\GL g st g'/\(∀b0,Step b0 g st w g' st' w')/\
  match e with
  | .returned x=> ∃r,K r st'/\R g' r x
  | .panicked ch=> ∃v u,ch=[{v,recovered:=false}]/\X u st'/\R g' u v
  | .outgrown=>False
abbrev zF (P:Program) (Γ:yN):Prop:= ∀f vs st K X,Γ f vs st K X->yx P f vs st K X
def Fin (n:Nat) (t:Tm) (dst:Option Tmp) (v:T) (K:Tm->St->Prop) (s:St):Prop:=
 match dst with
 | none=>K t s
 | some d=>match decide (d<n)with
  | true=>K (put t d v) s
  | false=>False
def VB (ops:Array Oper) (g:Option (Nat×Bool)):Option (Option (Nat×Bool)):=
 match g with
 | none=>some none
 | some (j,want)=>match (ops[j]?).bind (·.dst)with
  | some d=>some (some (d,want))
  | none=>none
def wi (g:Option (Option (Nat×Bool))) (t:Tm) (A B:Tm->Prop):Prop:=
 match g with
 | some none=>A t
 | some (some (d,want))=>match get t d with
  | .bool b=>match want with
   | true=>bif b then A (put t d (.bool true))else B (put t d (.bool false))
   | false=>bif b then B (put t d (.bool true))else A (put t d (.bool false))
  | .cst (.tuple _)=>B t
  | _=>False
 | none=>False
def kZ (D:TD) (Γ:yN) (n:Nat) (ops:Array Oper):List Oper->Tm->St->(Tm->St->Prop)->(T->Tm->St->Prop)->Prop
 | [],t,s,K,_=>K t s
 | o::r,t,s,K,X=>wi (VB ops o.guard) t (fun t=>dopN D Γ o.op (ev t) s (fun v s=>Fin n t o.dst v (fun t s=>kZ D Γ n ops r t s K X) s) fun v s=>X v t s) fun t=>Fin n t o.dst (.cst Go.undef) (fun t s=>kZ D Γ n ops r t s K X) s
def exOk (g:G P) (e:Ex) (e':Exit):Prop:=
 match e,e' with
 | .normal, .normal=>True
 | .exit i, .exit j=>i=j
 | .goto i, .goto j=>i=j
 | .ret, .ret=>True
 | .pan u, .panic ch=> ∃v,ch=[{v,recovered:=false}]/\R g u v
 | _,_=>False
def Qs (n:Nat) (b0:B0) (Q:Kc) (g:G P) (st:St) (w:World) (e:Exit) (a':Act) (w':World):Prop:=
 ∃(e0:Ex) (g':G P) (t':Tm) (st':St),Q e0 t' st'/\exOk g' e0 e/\Good g' st' w'/\RelT g' n t' a'/\Step b0 g st w g' st' w'
def awp (P:Program) [Bd P] (n:Nat) (b0:B0) (c:Code) (Q:Kc) (t:Tm) (st:St):Prop:=
 ∀(ro:Option Nat),((ro=none/\Bd.strict P=false)∨zd c=true)-> ∀(g:G P) (w:World) (a:Act),Good g st w->RelT g n t a->c.wpIn (WF ro) 0 P (Qs n b0 Q g st w) a w
def DOkI (P:Program) (o:Oper) (a:Act) (g:G P) (st:St) (w:World) (K X:Kn):Prop:=
 ∀(ro:Option Nat) (K':Act->World->Prop) (Q':Exit->Act->World->Prop),
  (∀(v:T) (s':St) (x:Value) (g':G P) (w':World),K v s'->Good g' s' w'->GL g st g'->(∀b0,Step b0 g st w g' s' w')->R g' v x->K' (a.put o.dst x) w')->
  (∀(u:T) (s':St) (v:Value) (g':G P) (w':World),X u s'->Good g' s' w'->GL g st g'->(∀b0,Step b0 g st w g' s' w')->R g' u v->Q' (.panic [{v,recovered:=false}]) a w')->o.wpIn (WF ro) 0 P a w K' Q'
section
variable {P:Program} [Bd P] {D:TD} {Γ:yN} {g g':G P} {st st':St} {w w':World} {n:Nat} {b0:B0} {t:Tm} {a:Act} {o:Oper} {K X:Kn} {Q:Kc}
theorem calls_in {ro:Option Nat} {m:Nat} {f:FuncId} {args:Array Value} {w:World} {R:Ending->World->Prop} (h:Calls P f args w R):CallsIn (WF ro) m P f args w R:=
 callsIn_wide.2 h
theorem op_in {ro:Option Nat} {w:World} {K:Act->World->Prop} {Q:Exit->Act->World->Prop} (hd: ∀c,o.op≠ .defer c) (h:o.wp P a w K Q):o.wpIn (WF ro) 0 P a w K Q:=by
 refine ⟨fun _ _=>trivial, ?_⟩
 unfold Oper.wp at h
 have e:o.semAt (WF ro).round a.eval=execOp a.eval o:=Oper.semAt_eq _ _ _ hd
 rw [e]
 generalize (execOp a.eval o).run P w=r at h
 cases r with
 | ok x w'=>
  cases x
  case value=>exact h
  case skip=>exact h
  case defer=>exact h
  case enter f args=>exact ⟨fun hs=>Bool.noConfusion hs,calls_in h⟩
  case row row args=>
   refine ⟨fun hs=>Bool.noConfusion hs,fun c cs _=> ?_⟩
   obtain ⟨v,w2,r1,r2⟩:=h c cs
   exact ⟨v,w2,r1,stepsIn_wide.2 r2⟩
  all_goals exact h.elim
 | halt x w'=>cases x<;>exact h
theorem xy.toI (hd: ∀c,o.op≠ .defer c) (h:xy P o a g st w K X):DOkI P o a g st w K X:=fun _ _ _ hK hX=>op_in hd (h _ _ hK hX)
theorem dok_call (hΓ:zF P Γ) (hg:Good g st w) (ht:RelT g n t a) {f:Operand} {args:Array Operand} {ts:Array TypeId} (hop:o.op= .call {callee:= .value f,args:=args,argTypes:=ts}) {fn:FuncId} {vs:List T} {fv:T} (hR:R g fv (a.eval f)) (htg:tgt fv (args.toList.map (ev t))=some (fn,vs)) (h:Γ fn vs st K X):DOkI P o a g st w K X:=by
 have hvs:RL g (args.toList.map (ev t)) (args.map a.eval):=⟨by simp,fun i u x hu hx=>by
  simp only [List.getElem?_map,Array.getElem?_toList,Option.map_eq_some_iff] at hu
  obtain ⟨q,q1,rfl⟩:=hu
  simp only [Array.getElem?_map,q1,Option.map_some,Option.some.injEq] at hx
  subst hx
  exact ht.ev q⟩
 have hnd: ∀c,o.op≠ .defer c:=by intro c e;rw [hop] at e;cases e
 have henter: ∀xs,qk P fn=true->quiet P (callFunc fn xs)=some (.enter fn xs):=by
  intro xs he
  unfold qk at he
  rw [Bool.and_eq_true] at he
  replace he:=he.2
  cases hf:P.funcs[fn]? with
  | none=>simp [hf] at he
  | some fn'=>
   simp only [hf,Bool.and_eq_true,Bool.not_eq_true'] at he
   show quiet P (Sem.program _)=_
   simp only [quiet]
   show quiet P (match P.funcs[fn]? with | none=>_ | some fn=>_)=_
   simp only [hf,he.1,Bool.false_eq_true,if_false]
   have:fn'.body.isNone=false:=by cases hb:fn'.body<;>simp_all
   simp [this]
 generalize hef:a.eval f=ef at hR
 unfold tgt at htg
 split at htg
 case h_2=>cases htg
 rename_i f' as bs
 have hx:=hΓ _ _ _ _ _ h g w hg
 cases hR with
 | fn _ _ _ xs ys k0 k1 k2 k3 k4=>
  simp only [Option.some.injEq,Prod.mk.injEq] at htg
  obtain ⟨rfl,rfl⟩:=htg
  have hy:ytab f'=none:=by simpa using k0
  unfold yL at hx
  rw [hy] at hx
  obtain ⟨h1,h2⟩:=hx
  refine xy.toI hnd ?_
  intro K' Q' hK hX
  unfold Oper.wp
  have hrl:RL g (as++args.toList.map (ev t)++bs) (xs++args.map a.eval++ys):=⟨by simp [k1,k2],fun i u x hu hx=>by
   by_cases h1:i<as.length
   . rw [List.append_assoc,List.getElem?_append_left h1] at hu
     rw [Array.append_assoc,Array.getElem?_append_left (by omega)] at hx
     exact k3 i u x hu hx
   . rw [List.append_assoc,List.getElem?_append_right (by omega)] at hu
     rw [Array.append_assoc,Array.getElem?_append_right (by omega)] at hx
     by_cases h2:i-as.length<args.size
     . rw [List.getElem?_append_left (by simpa using h2)] at hu
       rw [Array.getElem?_append_left (by simp;omega)] at hx
       exact hvs.val _ u x hu (by rw [k1];exact hx)
     . rw [List.getElem?_append_right (by simp;omega)] at hu
       rw [Array.getElem?_append_right (by simp;omega)] at hx
       exact k4 _ u x hu (by simp at hx ⊢;rw [k1];exact hx)⟩
  have hrun:(execOp a.eval o).run P w= .ok (.enter f' (xs++args.map a.eval++ys)) w:=qO (by
   simp only [execOp,hop,resolve,hef,Deferred.ofValue,invoke,qx,qD,Option.bind_some]
   exact henter _ h1) w
  rw [hrun]
  refine (h2 _ hrl).mono fun e w1 ⟨g1,st1,k1,k2,k3,k4⟩=> ?_
  cases e with
  | returned x=>obtain ⟨r,r1,r2⟩:=k4;exact hK r st1 x g1 w1 r1 k1 k2 k3 r2
  | panicked ch=>obtain ⟨v,u,rfl,u1,u2⟩:=k4;exact hX u st1 v g1 w1 u1 k1 k2 k3 u2
  | outgrown=>exact k4.elim
 | yl _ us yi l r k1 k2 k3 k4 k5=>
  simp only [Option.some.injEq,Prod.mk.injEq,List.nil_append] at htg
  obtain ⟨rfl,rfl⟩:=htg
  unfold yL at hx
  rw [k1] at hx
  obtain ⟨xs,us',e1,e3,hy⟩:=hx
  obtain ⟨rfl,rfl⟩:=List.append_inj' e1 (by rw [k4,e3])
  obtain ⟨s1,s2⟩:=hy _ l r hvs k2 k3 k5
  intro ro K' Q' hK hX
  have hrun:(execOp a.eval o).run P w= .ok (.round l r.fn ((r.params.zip (args.map a.eval)).foldl (fun t (p,v)=>t.setIfInBounds p v) r.tmps) r.assign r.body) w:=by
   have:=run_yield (P:=P) (hg.fx l r k2) s1
   simp only [execOp,hop,resolve,hef,Deferred.ofValue,invoke,Sem.run_bind,Sem.run_pure,Result.andThen_ok]
   simpa using this
  refine ⟨fun _ _=>trivial, ?_⟩
  have e:o.semAt (WF ro).round a.eval=execOp a.eval o:=Oper.semAt_eq _ _ _ hnd
  rw [e,hrun]
  refine ⟨fun hs=>Bool.noConfusion hs,s2.mono fun e w1 ⟨g1,st1,q1,q2,q3,q4⟩=> ?_⟩
  cases e with
  | returned x=>obtain ⟨r,r1,r2⟩:=q4;exact hK r st1 x g1 w1 r1 q1 q2 q3 r2
  | panicked ch=>obtain ⟨v,u,rfl,u1,u2⟩:=q4;exact hX u st1 v g1 w1 u1 q1 q2 q3 u2
  | outgrown=>exact q4.elim
theorem dop_no_defer {K X:Kn} (h:je D Γ o.op (ev t) st K X): ∀c,o.op≠ .defer c:=by
 intro c e
 rw [e] at h
 exact h.elim
theorem wt (hD:zv P D) (hΓ:zF P Γ) (hg:Good g st w) (ht:RelT g n t a) (h:je D Γ o.op (ev t) st K X):DOkI P o a g st w K X:=by
 have hnd:=dop_no_defer h
 generalize hop:o.op=op at h
 unfold je at h
 split at h
 . exact (dok_move hg ht (.inl hop) h).toI hnd
 . exact (dok_move hg ht (.inr hop) h).toI hnd
 . rename_i c x y
   split at h
   case h_2=>exact h.elim
   rename_i b hb
   have e1:=ht.ev x
   have e2:=ht.ev y
   unfold Ww at h
   split at h
   . rename_i p q hp hq
     refine xy.toI hnd (Ws hg ht hop hb (v:= .bool (bif b then p else q)) ?_ h)
     rw [hp] at e1
     rw [hq] at e2
     cases b
     . exact e2
     . exact e1
   . cases b
     . exact (Ws hg ht hop hb e2 h).toI hnd
     . exact (Ws hg ht hop hb e1 h).toI hnd
 . split at h
   case h_2=>exact h.elim
   rename_i ti hti
   split at h
   case h_2=>exact h.elim
   rename_i z hz
   exact (dok_alloc hD hg hop hti hz h).toI hnd
 . split at h
   case h_2=>exact h.elim
   rename_i z hz
   exact (dok_box hg ht hop hz h).toI hnd
 . exact (dok_make hD hg ht hop h).toI hnd
 . split at h
   . exact (dok_makeMap hg hop h).toI hnd
   . split at h
     case h_2=>exact h.elim
     exact (qqj hg hop h).toI hnd
 . split at h
   . exact (dok_lookup hD hg ht hop h).toI hnd
   . exact (dok_lookupF hD hg ht hop h).toI hnd
 . split at h
   . exact (Qa hD hg ht (.inl hop) h).toI hnd
   . exact (yS hD hg ht (.inl hop) h).toI hnd
 . split at h
   . exact (Qa hD hg ht (.inr hop) h).toI hnd
   . exact (yS hD hg ht (.inr hop) h).toI hnd
 . exact (dok_range hD hg ht hop h).toI hnd
 . exact (dok_entry hg ht hop h).toI hnd
 . exact (Kg hD hg ht hop h).toI hnd
 . exact (VP hD hg ht hop h).toI hnd
 . split at h
   case h_2=>exact h.elim
   rename_i ti hti
   exact (dok_load hD hg ht hop hti h).toI hnd
 . split at h
   case h_2=>exact h.elim
   rename_i ti hti
   exact (dok_store hD hg ht hop hti h).toI hnd
 . rename_i x
   have hR:=ht.ev x
   generalize hv:ev t x=v at hR h
   generalize he:a.eval x=ex at hR
   split at h
   case h_5=>exact h.elim
   all_goals
    have hR':=hR
    cases hR<;>exact (qy hg (by simp only [execOp,hop,he];rfl) hR' h).toI hnd
 . rename_i op' T0 x y U
   split at h
   case h_2=>exact h.elim
   rename_i ti hti
   split at h
   . exact (dok_binNil hD hg ht hop hti rfl h).toI hnd
   . exact (dok_binIf hD hg ht hop hti rfl h).toI hnd
   . exact (dok_bin hD hg ht hop hti h).toI hnd
 . exact (dok_un hg ht hop h).toI hnd
 . exact (dok_conv hD hg ht hop h).toI hnd
 . split at h
   case h_2=>exact h.elim
   rename_i ti hti
   split at h
   case h_2=>exact h.elim
   rename_i hc
   exact (dok_makeIf hD hg ht hop hti hc h).toI hnd
 . split at h
   case h_2=>exact h.elim
   rename_i t0 v hv
   exact (dok_panic hg ht hop hv h).toI hnd
 . split at h
   . rename_i hy;exact (dok_makeFunc hg ht hy hop h).toI hnd
   . exact h.elim
 . rename_i T0 x lo hi mx
   split at h
   case h_2=>exact h.elim
   rename_i ti hti
   exact (dok_slice hD hg ht hop hti h).toI hnd
 . exact (YV hD hg ht hop h).toI hnd
 . exact (dok_field hD hg ht hop h).toI hnd
 . exact (Yp hD hg ht hop h).toI hnd
 . exact (dok_index hD hg ht hop h).toI hnd
 . split at h
   case h_2=>exact h.elim
   rename_i vs hvs
   split at h
   case h_2=>exact h.elim
   rename_i v hv
   exact (dok_extract hg ht hop hvs hv h).toI hnd
 . exact (dok_builtin hD hg ht hop h).toI hnd
 . rename_i f args ts
   split at h
   . rename_i x hx
     rw [Zq] at h
     have hR:=ht.ev f
     have hv:ev t f= .fd x:=by
      generalize ev t f=v at hx
      cases v<;>simp only [fdV,reduceCtorEq,Option.some.injEq] at hx
      subst hx;rfl
     rw [hv] at hR
     refine dok_call hΓ hg ht hop (R_fd hR) (vs:=args.toList.map (ev t)++fdCap (fdOf x).2) ?_ h
     unfold fdT
     generalize fdOf x=p
     obtain ⟨f0,o0⟩:=p
     cases o0 with
     | none=>simp [fdTn,tgt,fdCap]
     | some q=>obtain ⟨e,c⟩:=q;simp [fdTn,tgt,fdCap]
   . split at h
     case h_2=>exact h.elim
     rename_i fn vs htg
     exact dok_call hΓ hg ht hop (ht.ev f) htg h
 . exact h.elim
theorem yu (hD:zv P D) (hΓ:zF P Γ) (hg:Good g st w) (ht:RelT g n t a) (h:dopN D Γ o.op (ev t) st K X):DOkI P o a g st w K X:=by
 unfold dopN at h
 split at h
 . rename_i x hop
   exact (dok_next hg ht hop h).toI fun c e=>by rw [hop] at e;cases e
 . rename_i t0 hop
   split at h
   . exact (dok_allocA hD hg hop h).toI fun c e=>by rw [hop] at e;cases e
   . rw [<- hop] at h;exact wt hD hΓ hg ht h
 . rename_i t0 parts hop
   split at h
   . exact (dok_buildA hD hg ht hop h).toI fun c e=>by rw [hop] at e;cases e
   . rw [<- hop] at h;exact wt hD hΓ hg ht h
 . exact wt hD hΓ hg ht h
theorem RelT.fin {K:Tm->St->Prop} {v:T} {x:Value} {st0:St} (ht:RelT g n t a) (hx:R g v x) (h:Fin n t o.dst v K st0): ∃t',K t' st0/\RelT g n t' (a.put o.dst x):=by
 unfold Fin at h
 cases hd:o.dst with
 | none=>rw [hd] at h;exact ⟨t,h,ht⟩
 | some d=>
  rw [hd] at h
  simp only at h
  split at h
  . rename_i hlt
    exact ⟨_,h,ht.put (of_decide_eq_true hlt) hx⟩
  . exact h.elim
theorem RelT.know (ht:RelT g n t a) {d:Nat} {b:Bool} (h:get t d= .bool b):RelT g n (Go.Proofs.YtbglndogddddoaaGreatDoor.put t d (.bool b)) a:=
 ⟨ht.size,ht.defers,ht.once,fun i=>by
  rw [wZ]
  by_cases e:i=d
  . subst e;rw [if_pos rfl, <- h];exact ht.val i
  . rw [if_neg e];exact ht.val i⟩
theorem wanted_at {ops:Array Oper} {j d:Nat} {want:Bool} (hd:(ops[j]?).bind (·.dst)=some d) (hgd:o.guard=some (j,want)):Region.wanted o (yielded ops a.tmps)=(match a.tmps[d]? with | some (.bool b)=>(b==want) | _=>false):=by
 unfold Region.wanted yielded
 simp only [hgd,hd,Option.bind_some]
 cases a.tmps[d]? with
 | none=>rfl
 | some x=>cases x<;>first | rfl | (rename_i b;cases b<;>cases want<;>rfl)
theorem xQ {ops:Array Oper} {A B:Tm->Prop} (ht:RelT g n t a) (h:wi (VB ops o.guard) t A B):(∃t',RelT g n t' a/\A t'/\Region.wanted o (yielded ops a.tmps)=true)∨(∃t',RelT g n t' a/\B t'/\Region.wanted o (yielded ops a.tmps)=false):=by
 unfold VB at h
 cases hgd:o.guard with
 | none=>
  rw [hgd] at h
  exact .inl ⟨t,ht,h,by simp [Region.wanted,hgd]⟩
 | some p=>
  obtain ⟨j,want⟩:=p
  rw [hgd] at h
  simp only at h
  cases hd:(ops[j]?).bind (·.dst)with
  | none=>rw [hd] at h;exact h.elim
  | some d=>
   rw [hd] at h
   simp only [wi] at h
   have hv:=ht.val d
   have hw:=wanted_at (a:=a) hd hgd
   have hk:=fun b=>ht.know (d:=d) (b:=b)
   simp only [Array.getD_eq_getD_getElem?] at hv
   cases hx:a.tmps[d]? with
   | none=>
    rw [hx] at hv hw
    simp only [Option.getD_none] at hv
    generalize hgt:get t d=gv at hv h hk
    simp only [Go.undef] at hv
    split at h
    . cases hv
    . exact .inr ⟨t,ht,h,hw⟩
    . exact h.elim
   | some x=>
    rw [hx] at hv hw
    simp only [Option.getD_some] at hv
    generalize hgt:get t d=gv at hv h hk
    split at h
    . rename_i b
      cases hv
      cases want<;>cases b<;>simp only [cond_true,cond_false] at h
      . exact .inl ⟨_,hk false rfl,h,hw⟩
      . exact .inr ⟨_,hk true rfl,h,hw⟩
      . exact .inr ⟨_,hk false rfl,h,hw⟩
      . exact .inl ⟨_,hk true rfl,h,hw⟩
    . cases hv
      exact .inr ⟨t,ht,h,hw⟩
    . exact h.elim
theorem Qs.trans {e:Exit} {a':Act} {w'':World} (hs:Step b0 g st w g' st' w') (h:Qs n b0 Q g' st' w' e a' w''):Qs n b0 Q g st w e a' w'':=by
 obtain ⟨e0,g2,t2,st2,h1,h2,h3,h4,h5⟩:=h
 exact ⟨e0,g2,t2,st2,h1,h2,h3,h4,hs.trans h5⟩
theorem QG (hD:zv P D) (hΓ:zF P Γ) {ro:Option Nat} {ops:Array Oper} {Q':Exit->Act->World->Prop}: ∀(l:List Oper) (g:G P) (st:St) (w:World) (t:Tm) (a:Act),Good g st w->RelT g n t a->kZ D Γ n ops l t st (Q .normal) (fun v=>Q (.pan v))->
  (∀e a' w',Qs n b0 Q g st w e a' w'->Q' e a' w')->wpListIn (WF ro) 0 P ops Q' l a w
 | [],g,st,w,t,a,hg,ht,h,hq=>hq _ _ _ ⟨.normal,g,t,st,h,trivial,hg,ht,Step.refl⟩
 | o::r,g,st,w,t,a,hg,ht,h,hq=>by
  unfold kZ at h
  unfold wpListIn
  rcases xQ ht h with ⟨t1,ht1,h,hw⟩ | ⟨t1,ht1,h,hw⟩
  . rw [if_pos hw]
    refine yu hD hΓ hg ht1 h ro _ _ (fun v s' x g' w' hk g1 l1 s1 r1=> ?_) (fun u s' v g' w' hx g1 l1 s1 r1=>hq _ _ _ ⟨.pan u,g',t1,s',hx,⟨v,rfl,r1⟩,g1,ht1.mono l1.le,s1 b0⟩)
    obtain ⟨t2,k1,k2⟩:=(ht1.mono l1.le).fin r1 hk
    exact QG hD hΓ r g' s' w' t2 _ g1 k2 k1 fun e a' w' hl=>hq e a' w' (hl.trans (s1 b0))
  . rw [if_neg (by rw [hw];simp)]
    obtain ⟨t2,k1,k2⟩:=ht1.fin (o:=o) (R.cst Go.undef) h
    exact ⟨fun _ _=>trivial,QG hD hΓ r g st w t2 _ hg k2 k1 hq⟩
theorem VM {c:Code} {Q':Kc} (h:awp P n b0 c Q t st) (hq: ∀e t st,Q e t st->Q' e t st):awp P n b0 c Q' t st:=
 fun ro hro g w a hg ht=>wpIn_mono (h ro hro g w a hg ht) fun _ _ _ ⟨e0,g',t',st',h1,h2⟩=>⟨e0,g',t',st',hq _ _ _ h1,h2⟩
theorem awp_region (hD:zv P D) (hΓ:zF P Γ) {id:Nat} {ops:Array Oper} (h:kZ D Γ n ops ops.toList t st (Q .normal) (fun v=>Q (.pan v))):awp P n b0 (.region id ops false) Q t st:=
 fun ro hro g w a hg ht=>by
  have:=wpIn_region_lit (F:=WF ro) (n:=0) (P:=P) (id:=id) (l:=ops.toList) (Q:=Qs n b0 Q g st w) (QG hD hΓ (ops:=ops.toList.toArray) ops.toList g st w t a hg ht (by simpa using h) fun _ _ _ hl=>hl)
  simpa using this
def xt (D:Tm->St->Prop) (Q:Kc):Kc
 | .normal,t,s=>D t s
 | e,t,s=>Q e t s
def blockK (id:Nat) (Q:Kc):Kc
 | .exit i,t,s=>match decide (i=id)with
  | true=>Q .normal t s
  | false=>Q (.exit i) t s
 | e,t,s=>Q e t s
theorem awp_seq {x y:Code} (h:awp P n b0 x (xt (awp P n b0 y Q) Q) t st):awp P n b0 (.seq x y) Q t st:=by
 intro ro hro g w a hg ht
 refine wpIn_seq (wpIn_mono (h ro (hro.imp id fun e=>(by simp only [zd,Bool.and_eq_true] at e;exact e.1)) g w a hg ht) fun e a' w' hl=> ?_)
 obtain ⟨e0,g',t',st',h1,h2,h3,h4,h5⟩:=hl
 cases e0<;>cases e<;>first
  | (exact h2.elim)
  | (exact wpIn_mono (h1 ro (hro.imp id fun e=>(by simp only [zd,Bool.and_eq_true] at e;exact e.2)) g' w' a' h3 h4) fun e a'' w'' hl=>hl.trans h5)
  | (exact ⟨_,g',t',st',h1,h2,h3,h4,h5⟩)
theorem awp_skip (h:Q .normal t st):awp P n b0 .skip Q t st:=fun ro hro g w a hg ht=>wpIn_skip ⟨.normal,g,t,st,h,trivial,hg,ht,Step.refl⟩
theorem awp_ret (h:Q .ret t st):awp P n b0 .ret Q t st:=fun ro hro g w a hg ht=>wpIn_ret ⟨.ret,g,t,st,h,trivial,hg,ht,Step.refl⟩
theorem awp_exit {id:Nat} (h:Q (.exit id) t st):awp P n b0 (.exit id) Q t st:=fun ro hro g w a hg ht=>wpIn_exit ⟨.exit id,g,t,st,h,rfl,hg,ht,Step.refl⟩
theorem awp_label {id:Nat} (h:Q .normal t st):awp P n b0 (.label id) Q t st:=fun ro hro g w a hg ht=>wpIn_label ⟨.normal,g,t,st,h,trivial,hg,ht,Step.refl⟩
theorem awp_block {id:Nat} {c:Code} (h:awp P n b0 c (blockK id Q) t st):awp P n b0 (.block id c) Q t st:=by
 intro ro hro g w a hg ht
 refine wpIn_block (wpIn_mono (h ro hro g w a hg ht) fun e a' w' hl=> ?_)
 obtain ⟨e0,g',t',st',h1,h2,h3,h4,h5⟩:=hl
 cases e0<;>cases e<;>first
  | (exact h2.elim)
  | (exact ⟨_,g',t',st',h1,h2,h3,h4,h5⟩)
  | skip
 rename_i i j
 simp only [exOk] at h2
 subst h2
 simp only [blockK] at h1
 simp only [Exit.inBlock]
 by_cases e:i=id
 . rw [if_pos e]
   rw [decide_eq_true e] at h1
   exact ⟨.normal,g',t',st',h1,trivial,h3,h4,h5⟩
 . rw [if_neg e]
   rw [decide_eq_false e] at h1
   exact ⟨.exit i,g',t',st',h1,rfl,h3,h4,h5⟩
def dcond (t:Tm) (c:Operand) (A B:Tm->Prop):Prop:=
 match ev t c with
 | .bool b=>match c with
  | .tmp d=>bif b then A (put t d (.bool true))else B (put t d (.bool false))
  | _=>bif b then A t else B t
 | .ub=>A t/\B t
 | _=>False
theorem awp_cond {c:Operand} {x y:Code} (h:dcond t c (fun t=>awp P n b0 x Q t st) (fun t=>awp P n b0 y Q t st)):awp P n b0 (.cond c x y) Q t st:=by
 intro ro hro g w a hg ht
 have hA:(ro=none/\Bd.strict P=false)∨zd x=true:=hro.imp id fun e=>(by simp only [zd,Bool.and_eq_true] at e;exact e.1)
 have hB:(ro=none/\Bd.strict P=false)∨zd y=true:=hro.imp id fun e=>(by simp only [zd,Bool.and_eq_true] at e;exact e.2)
 have hR:=ht.ev c
 unfold dcond at h
 generalize hv:ev t c=v at hR h
 generalize he:a.eval c=ec at hR
 split at h
 . rename_i b
   cases hR
   split at h
   . rename_i d
     have hk:=ht.know hv
     refine wpIn_cond_split he (fun e=> ?_) (fun e=> ?_)
     . subst e;exact h ro hA g w a hg hk
     . subst e;exact h ro hB g w a hg hk
   . refine wpIn_cond_split he (fun e=> ?_) (fun e=> ?_)
     . subst e;exact h ro hA g w a hg ht
     . subst e;exact h ro hB g w a hg ht
 . cases hR
   exact wpIn_cond_split he (fun _=>h.1 ro hA g w a hg ht) (fun _=>h.2 ro hB g w a hg ht)
 . exact h.elim
end
end Go.Proofs.YtbglndogddddoaaGreatDoor
namespace Go.Proofs.YtbglndogddddoaaGreatDoor
open Go.RowKit
def isApp:Builtin->Bool
 | .append=>true
 | .clear=>true
 | .copy=>true
 | _=>false
def wrOp (mu:FuncId->Bool) (op:Op) (ρ:Operand->T):Bool:=
 match op with
 | .store .. =>true
 | .mapUpdate .. =>true
 | .insert .. =>true
 | .call {callee:= .builtin b,args:=_,argTypes:=_}=>isApp b
 | .call {callee:= .value f,args:=args,argTypes:=_}=>match fdV (ρ f)with
  | some x=>mu (fdOf x).1
  | none=>match tgt (ρ f) (args.toList.map ρ)with
   | some (g,_)=>mu g
   | none=>false
 | _=>false
def YC (w:Bool) (s:St) (F:(T->St->Prop)->Prop) (K:Kn):Prop:=
 ∃v s',K v s'/\(∀K':Kn,K' v s'->F K')/\(s'=s∨(∃o,s'=s++[some o])∨(w=true/\s'.length=s.length))
abbrev vD (mu:FuncId->Bool) (Γ:yN):Prop:= ∀f vs s K,Γ f vs s K (fun _ _=>False)->YC (mu f) s (fun K=>Γ f vs s K fun _ _=>False) K
theorem YC.same {w:Bool} {s:St} {F:(T->St->Prop)->Prop} {K:Kn} {v:T} (h:K v s) (hF: ∀K':Kn,K' v s->F K'):YC w s F K:=⟨v,s,h,hF, .inl rfl⟩
theorem YC.new {w:Bool} {s:St} {F:(T->St->Prop)->Prop} {K:Kn} {v:T} {o:Ob} (h:K v (s++[some o])) (hF: ∀K':Kn,K' v (s++[some o])->F K'):YC w s F K:=⟨v,_,h,hF, .inr (.inl ⟨o,rfl⟩)⟩
theorem YC.upd {s:St} {F:(T->St->Prop)->Prop} {K:Kn} {v:T} {k:Nat} {o:Ob} (h:K v (s.set k (some o))) (hF: ∀K':Kn,K' v (s.set k (some o))->F K'):YC true s F K:=⟨v,_,h,hF, .inr (.inr ⟨rfl,by simp⟩)⟩
def jT (F:(T->Prop)->Prop) (K:T->Prop):Prop:= ∃v,K v/\ ∀K':T->Prop,K' v->F K'
theorem jT.mk {F:(T->Prop)->Prop} {K:T->Prop} {v:T} (h:K v) (hF: ∀K':T->Prop,K' v->F K'):jT F K:=⟨v,h,hF⟩
theorem jT.lift {w:Bool} {s:St} {F:(T->Prop)->Prop} {K:Kn} (h:jT F fun v=>K v s):YC w s (fun K=>F fun v=>K v s) K:=by
 obtain ⟨v,h1,h2⟩:=h
 exact YC.same h1 fun K' h'=>h2 (fun v=>K' v s) h'
section
variable {D:TD} {K:T->Prop}
theorem vL {agg:Bool} {size:Nat} {cs:List T} {off:Nat} (h:jk agg size cs off K):jT (jk agg size cs off) K:=by
 unfold jk at h
 cases agg with
 | true=>
  simp only at h
  split at h
  . rename_i hd
    exact .mk h fun K' h'=>by simp only [jk,hd];exact h'
  . exact h.elim
 | false=>
  simp only at h
  split at h
  . rename_i u hu
    exact .mk h fun K' h'=>by simp only [jk,hu];exact h'
  . exact h.elim
theorem det_load {ti:TI} {s:St} {a:T} (h:yO ti s a K):jT (yO ti s a) K:=by
 unfold yO at h
 split at h
 . split at h
   . rename_i cs hr
     split at h
     case h_2=>exact h.elim
     rename_i hm
     obtain ⟨v,h1,h2⟩:=vL h
     exact .mk h1 fun K' h'=>by simp only [yO,hr,hm];exact h2 K' h'
   . exact h.elim
 . obtain ⟨v,h1,h2⟩:=vL h
   exact .mk h1 fun K' h'=>h2 K' h'
 . split at h
   . rename_i l hl
     split at h
     . rename_i hb
       split at h
       case h_2=>exact h.elim
       rename_i hag
       exact .mk h.2 fun K' h'=>by simp only [yO,hl,hb,hag];exact ⟨h.1,h'⟩
     rename_i hb
     obtain ⟨x,hx,h⟩:=h
     obtain ⟨v,h1,h2⟩:=vL h
     exact .mk h1 fun K' h'=>by simp only [yO,hl,hb];exact ⟨x,hx,h2 K' h'⟩
   . exact h.elim
 . exact h.elim
theorem vf {v:T} {K:Int->Prop} (h:asInt v K): ∃n,K n/\ ∀K':Int->Prop,K' n->asInt v K':=by
 obtain ⟨k,n,rfl,h⟩:=jU h
 exact ⟨n,h,fun _ h=>h⟩
theorem zg {v:Option T} {d:Int} {K:Int->Prop} (h:jR v d K): ∃n,K n/\ ∀K':Int->Prop,K' n->jR v d K':=by
 cases v with
 | none=>exact ⟨d,h,fun _ h=>h⟩
 | some v=>exact vf h
theorem det_dslice {e0:El} {s:St} {x:T} {lo hi mx:Option T} (h:xM e0 s x lo hi mx K):jT (xM e0 s x lo hi mx) K:=by
 unfold xM at h
 split at h
 . split at h
   . split at h
     . split at h
       case isFalse=>exact h.elim
       rename_i he
       obtain ⟨m,h,k1⟩:=vf h
       obtain ⟨l,h,k2⟩:=zg h
       obtain ⟨r,h,k3⟩:=vf h
       obtain ⟨q0,q1,q2,q3,h⟩:=h
       exact .mk h fun K' h'=>by simp only [xM,he,if_true];exact k1 _ (k2 _ (k3 _ ⟨q0,q1,q2,q3,h'⟩))
     . obtain ⟨m,h,k1⟩:=vf h
       obtain ⟨l,h,k2⟩:=zg h
       obtain ⟨r,h,k3⟩:=vf h
       obtain ⟨q0,q1,q2,h⟩:=h
       exact .mk h fun K' h'=>k1 _ (k2 _ (k3 _ ⟨q0,q1,q2,h'⟩))
     . exact h.elim
   . exact h.elim
 . split at h
   . split at h
     case isFalse=>exact h.elim
     rename_i full e1 xs he
     split at h
     . obtain ⟨r,h,k3⟩:=vf h
       obtain ⟨l,h,k2⟩:=zg h
       obtain ⟨q0,q1,q2,h⟩:=h
       split at h
       . cases hd:decide (r=(xs.length:Int))
         . rw [hd,cond_false] at h
           exact .mk h fun K' h'=>by simp only [xM,he,if_true];exact k3 _ (k2 _ ⟨q0,q1,q2,by rw [hd,cond_false];exact h'⟩)
         . rw [hd,cond_true] at h
           exact .mk h fun K' h'=>by simp only [xM,he,if_true];exact k3 _ (k2 _ ⟨q0,q1,q2,by rw [hd,cond_true];exact h'⟩)
       . exact .mk h fun K' h'=>by simp only [xM,he,if_true];exact k3 _ (k2 _ ⟨q0,q1,q2,h'⟩)
     . obtain ⟨l,h,k2⟩:=zg h
       obtain ⟨q0,q1,h⟩:=h
       exact .mk h fun K' h'=>by simp only [xM,he,if_true];exact k2 _ ⟨q0,q1,h'⟩
   . obtain ⟨r,h,k3⟩:=zg h
     obtain ⟨l,h,k2⟩:=zg h
     obtain ⟨q0,q1,h⟩:=h
     exact .mk h fun K' h'=>k3 _ (k2 _ ⟨q0,q1,h'⟩)
   . split at h
     case isFalse=>exact h.elim
     rename_i he
     split at h
     . rename_i xs hl
       obtain ⟨r,h,k3⟩:=zg h
       obtain ⟨l,h,k2⟩:=zg h
       obtain ⟨q0,q1,q2,h⟩:=h
       exact .mk h fun K' h'=>by simp only [xM,he,if_true,hl];exact k3 _ (k2 _ ⟨q0,q1,q2,h'⟩)
     . exact h.elim
   . split at h
     case isFalse=>exact h.elim
     rename_i he
     split at h
     case h_2=>exact h.elim
     rename_i xs hl
     obtain ⟨r,h,k3⟩:=zg h
     obtain ⟨l,h,k2⟩:=zg h
     obtain ⟨q0,q1,q2,h⟩:=h
     exact .mk h fun K' h'=>by simp only [xM,he,if_true,hl];exact k3 _ (k2 _ ⟨q0,q1,q2,h'⟩)
   . exact h.elim
theorem det_dsl {ti:TI} {t:TypeId} {s:St} {x:T} {lo hi mx:Option T} (h:dsl D ti t s x lo hi mx K):jT (dsl D ti t s x lo hi mx) K:=by
 unfold dsl at h
 split at h
 . rename_i hs
   split at h
   . rename_i b
     obtain ⟨r,h,k3⟩:=zg h
     obtain ⟨l,h,k2⟩:=zg h
     obtain ⟨q0,q1,q2,h⟩:=h
     exact .mk h fun K' h'=>by simp only [dsl,hs];exact k3 _ (k2 _ ⟨q0,q1,q2,h'⟩)
   . exact h.elim
 . rename_i e hs
   split at h
   . rename_i e0 he
     obtain ⟨v,h1,h2⟩:=det_dslice h
     exact .mk h1 fun K' h'=>by simp only [dsl,hs,he];exact h2 K' h'
   . exact h.elim
 . rename_i n e hs
   split at h
   case h_2=>exact h.elim
   rename_i ht
   exact .mk h fun K' h'=>by simp only [dsl,hs,ht];exact h'
 . exact h.elim
theorem det_nil {op:BinOp} {n:Nat} (h:XK op n K):jT (XK op n) K:=by
 unfold XK at h
 split at h
 . by_cases e:n=0
   . simp only [e,decide_true,cond_true] at h
     exact .mk h fun K' h'=>by simp only [XK,e,decide_true,cond_true];exact h'
   . simp only [e,decide_false,cond_false] at h
     exact .mk h fun K' h'=>by simp only [XK,e,decide_false,cond_false];exact h'
 . by_cases e:n=0
   . simp only [e,decide_true,cond_true] at h
     exact .mk h fun K' h'=>by simp only [XK,e,decide_true,cond_true];exact h'
   . simp only [e,decide_false,cond_false] at h
     exact .mk h fun K' h'=>by simp only [XK,e,decide_false,cond_false];exact h'
 . exact h.elim
theorem det_binNil {op:BinOp} {ti:TI} {s:St} {x:T} (h:vX op ti s x K):jT (vX op ti s x) K:=by
 unfold vX at h
 split at h
 case h_2=>exact h.elim
 rename_i e hs
 split at h
 . obtain ⟨v,h1,h2⟩:=det_nil h
   exact .mk h1 fun K' h'=>by simp only [vX,hs];exact h2 K' h'
 . obtain ⟨v,h1,h2⟩:=det_nil h
   exact .mk h1 fun K' h'=>by simp only [vX,hs];exact h2 K' h'
 . split at h
   . rename_i l hl
     obtain ⟨v,h1,h2⟩:=det_nil h
     exact .mk h1 fun K' h'=>by simp only [vX,hs,hl];exact h2 K' h'
   . exact h.elim
 . exact h.elim
theorem det_bin {op:BinOp} {ti:TI} {x y:T} (h:JC op ti x y K):jT (JC op ti x y) K:=by
 unfold JC at h
 split at h
 . rename_i k p k' q
   split at h
   . exact .mk h.2 fun K' h'=>⟨h.1,h'⟩
   . exact .mk h.2 fun K' h'=>⟨h.1,h'⟩
   . rename_i hs1 hs2
     split at h
     case h_2=>exact h.elim
     rename_i hk
     cases op
     case shl=>exact absurd rfl hs1
     case shr=>exact absurd rfl hs2
     case quo=>exact .mk h.2 fun K' h'=>by simp only [JC,hk];exact ⟨h.1,h'⟩
     case rem=>exact .mk h.2 fun K' h'=>by simp only [JC,hk];exact ⟨h.1,h'⟩
     all_goals exact .mk h fun K' h'=>by simp only [JC,hk];exact h'
 . split at h
   . rename_i hs;exact .mk h fun K' h'=>by simp only [JC,hs];exact h'
   . rename_i hs;exact .mk h fun K' h'=>by simp only [JC,hs];exact h'
   . exact h.elim
 . split at h
   . exact .mk h.2 fun K' h'=>⟨h.1,h'⟩
   . exact .mk h fun K' h'=>h'
   . exact .mk h fun K' h'=>h'
   . exact .mk h fun K' h'=>h'
   . exact .mk h fun K' h'=>h'
   . exact .mk h fun K' h'=>h'
   . exact .mk h fun K' h'=>h'
   . exact h.elim
 . split at h
   . rename_i n b hn hb
     split at h
     . rename_i hl;exact .mk h fun K' h'=>by simp only [JC,hn,hb,hl];exact h'
     . exact h.elim
   . rename_i n b hn hb
     split at h
     . rename_i hl;exact .mk h fun K' h'=>by simp only [JC,hn,hb,hl];exact h'
     . exact h.elim
   . exact h.elim
 . exact h.elim
theorem det_un {op:UnOp} {x:T} (h:dun op x K):jT (dun op x) K:=by
 unfold dun at h
 split at h
 . exact .mk h fun K' h'=>h'
 . exact .mk h fun K' h'=>h'
 . exact .mk h fun K' h'=>h'
 . exact h.elim
theorem Yn {t:TypeId} {x:T} {f:Nat} (h:jz D t x f K):jT (jz D t x f) K:=by
 unfold jz at h
 split at h
 case h_2=>exact h.elim
 rename_i off te hf
 split at h
 . exact h.elim
 rename_i m hm
 split at h
 . exact .mk h fun K' h'=>by simp only [jz,hf,hm];exact h'
 . exact .mk h fun K' h'=>by simp only [jz,hf,hm];exact h'
 . exact .mk h fun K' h'=>by simp only [jz,hf,hm];exact h'
 . exact h.elim
theorem det_field {t:TypeId} {x:T} {f:Nat} (h:Qh D t x f K):jT (Qh D t x f) K:=by
 unfold Qh at h
 split at h
 case h_2=>exact h.elim
 rename_i off te hf
 split at h
 . obtain ⟨v,h1,h2⟩:=vL h
   exact .mk h1 fun K' h'=>by simp only [Qh,hf];exact h2 K' h'
 . exact h.elim
theorem Yd {t:TypeId} {s:St} {x i:T} (h:zo D t s x i K):jT (zo D t s x i) K:=by
 unfold zo at h
 split at h
 case h_2=>exact h.elim
 split at h
 . split at h
   case isFalse=>exact h.elim
   rename_i hk
   obtain ⟨h0,u,hu,h⟩:=h
   exact .mk h fun K' h'=>by simp only [zo,hk,if_true];exact ⟨h0,u,hu,h'⟩
 . split at h
   case isFalse=>exact h.elim
   rename_i hk
   split at h
   case h_2=>exact h.elim
   rename_i l hl
   exact .mk h.2.2 fun K' h'=>by simp only [zo,hk,if_true,hl];exact ⟨h.1,h.2.1,h'⟩
 . split at h
   case isFalse=>exact h.elim
   rename_i hk
   split at h
   case h_2=>exact h.elim
   rename_i l hl
   exact .mk h.2.2 fun K' h'=>by simp only [zo,hk,if_true,hl];exact ⟨h.1,h.2.1,h'⟩
 . split at h
   case h_2=>exact h.elim
   rename_i ti hti
   split at h
   case h_2=>exact h.elim
   rename_i m e hs
   split at h
   case h_2=>exact h.elim
   rename_i te hte
   exact .mk h.2.2 fun K' h'=>by simp only [zo,hti,hs,hte];exact ⟨h.1,h.2.1,h'⟩
 . split at h
   case h_2=>exact h.elim
   rename_i ti hti
   split at h
   case h_2=>exact h.elim
   rename_i m e hs
   split at h
   case h_2=>exact h.elim
   rename_i te hte
   split at h
   case h_2=>exact h.elim
   rename_i e' hel
   split at h
   case isFalse=>exact h.elim
   rename_i hee
   exact .mk h.2.2 fun K' h'=>by simp only [zo,hti,hs,hte,hel,hee,if_true];exact ⟨h.1,h.2.1,h'⟩
 . exact h.elim
theorem det_index {t:TypeId} {x i:T} (h:wW D t x i K):jT (wW D t x i) K:=by
 unfold wW at h
 split at h
 case h_2=>exact h.elim
 split at h
 case h_2=>exact h.elim
 rename_i ti hti
 split at h
 . rename_i s hs
   obtain ⟨h0,b,hb,h⟩:=h
   exact .mk h fun K' h'=>by simp only [wW,hti,hs];exact ⟨h0,b,hb,h'⟩
 . rename_i m e cs hs
   split at h
   case h_2=>exact h.elim
   rename_i te hte
   split at h
   . rename_i l hl
     obtain ⟨h0,hlt,s,hs',hK⟩:=h
     exact .mk hK fun K' h'=>by simp only [wW,hti,hs,hte,hl];exact ⟨h0,hlt,s,hs',h'⟩
   . rename_i hl
     split at h
     . rename_i l hi
       obtain ⟨h0,hlt,s,hs',hK⟩:=h
       exact .mk hK fun K' h'=>by simp only [wW,hti,hs,hte,hl,hi];exact ⟨h0,hlt,s,hs',h'⟩
     . rename_i hi
       obtain ⟨v,h1,h2⟩:=vL h.2.2
       exact .mk h1 fun K' h'=>by simp only [wW,hti,hs,hte,hl,hi];exact ⟨h.1,h.2.1,h2 K' h'⟩
 . exact h.elim
theorem det_build {t:TypeId} {ps:List (Nat×T)} (h:wa D t ps K):jT (wa D t ps) K:=by
 unfold wa at h
 split at h
 case h_2=>exact h.elim
 rename_i ti hti
 split at h
 case h_2=>exact h.elim
 rename_i z pl hag hz hpl
 split at h
 case h_2=>exact h.elim
 rename_i cs hcs
 exact .mk h fun K' h'=>by simp only [wa,hti,hag,hz,hpl,hcs];exact h'
theorem WS {t:TypeId} {len:Nat} {ps:List (Nat×T)} (h:zU D t len ps K):jT (zU D t len ps) K:=by
 unfold zU at h
 split at h
 . split at h
   case h_2=>exact h.elim
   rename_i hti
   split at h
   case h_2=>exact h.elim
   rename_i hs
   exact .mk h fun K' h'=>by simp only [zU,hti,hs];exact h'
 . split at h
   case h_2=>exact h.elim
   rename_i ti hti
   split at h
   case h_2=>exact h.elim
   rename_i te' hs
   split at h
   case h_2=>exact h.elim
   rename_i te hte
   split at h
   case h_2=>exact h.elim
   rename_i z e hz he
   split at h
   case h_2=>exact h.elim
   rename_i hle
   split at h
   case h_2=>exact h.elim
   rename_i cs hcs
   split at h
   case h_2=>exact h.elim
   rename_i l hl
   exact .mk h fun K' h'=>by simp only [zU,hti,hs,hte,hz,he,hle,hcs,hl];exact h'
theorem det_elems {s:St} {e:El} {v:T} {K:List (ty e)->Prop} (h:xX s e v K): ∃l,K l/\ ∀K':List (ty e)->Prop,K' l->xX s e v K':=by
 unfold xX at h
 split at h
 . exact ⟨_,h,fun _ h=>h⟩
 . split at h
   case isFalse=>exact h.elim
   rename_i he
   exact ⟨_,h,fun K' h'=>by simp only [xX,he];exact h'⟩
 . split at h
   case isFalse=>exact h.elim
   rename_i he
   split at h
   case h_2=>exact h.elim
   rename_i l hl
   exact ⟨_,h,fun K' h'=>by simp only [xX,he,if_true,hl];exact h'⟩
 . split at h
   case isFalse=>exact h.elim
   rename_i he
   split at h
   case h_2=>exact h.elim
   rename_i l hl
   exact ⟨_,h,fun K' h'=>by simp only [xX,he,if_true,hl];exact h'⟩
 . exact h.elim
theorem kE {ti:TI} {e:El} {s:St} {x:T} {m:List (ty e)} {K:Kn} (h:zN ti e s x m K):YC true s (zN ti e s x m) K:=by
 unfold zN at h
 split at h
 . exact .new h.2 fun K' h'=>⟨h.1,h'⟩
 . split at h
   case isFalse=>exact h.elim
   rename_i he'
   exact .new h.2.2 fun K' h'=>by simp only [zN,he'];exact ⟨h.1,h.2.1,h'⟩
 . split at h
   case isFalse=>exact h.elim
   rename_i he'
   split at h
   case h_2=>exact h.elim
   rename_i l hl
   exact .upd h.2 fun K' h'=>by simp only [zN,he',if_true,hl];exact ⟨h.1,h'⟩
 . exact h.elim
theorem det_append {ti:TI} {s:St} {x y:T} {K:Kn} (h:yw ti s x y K):YC true s (yw ti s x y) K:=by
 unfold yw at h
 split at h
 case h_2=>exact h.elim
 rename_i e he
 obtain ⟨m,h,k1⟩:=det_elems h
 obtain ⟨v,s',h1,h2,h3⟩:YC true s (fun K=>match JN x&& !JN y with
  | true=>bif decide (m.length=0)then K x s else zN ti e s x m K
  | false=>zN ti e s x m K) K:=by
  split at h
  . rename_i hf
    by_cases hm:m.length=0
    . rw [decide_eq_true hm,cond_true] at h
      exact .same h fun K' h'=>by simp only [hf,decide_eq_true hm,cond_true];exact h'
    . rw [decide_eq_false hm,cond_false] at h
      obtain ⟨v,s',h1,h2,h3⟩:=kE h
      exact ⟨v,s',h1,fun K' h'=>by simp only [hf,decide_eq_false hm,cond_false];exact h2 K' h',h3⟩
  . rename_i hf
    obtain ⟨v,s',h1,h2,h3⟩:=kE h
    exact ⟨v,s',h1,fun K' h'=>by simp only [hf];exact h2 K' h',h3⟩
 exact ⟨v,s',h1,fun K' h'=>by simp only [yw,he];exact k1 _ (h2 K' h'),h3⟩
theorem det_appendS {ti:TI} {s:St} {x:T} {b:ByteArray} {K:Kn} (h:vB ti s x b K):YC true s (vB ti s x b) K:=by
 unfold vB at h
 split at h
 case h_2=>exact h.elim
 rename_i e he
 split at h
 case h_2=>exact h.elim
 rename_i f hf
 obtain ⟨v,s',h1,h2,h3⟩:=kE h
 exact ⟨v,s',h1,fun K' h'=>by simp only [vB,he,hf];exact h2 K' h',h3⟩
theorem det_appendZ {te:TI} {s:St} {e':El} {l:List (ty e')} {n:Int} {K:Kn} (h:vu te s e' l n K):YC true s (vu te s e' l n) K:=by
 unfold vu at h
 split at h
 case h_2=>exact h.elim
 rename_i e z he hz
 split at h
 case h_2=>exact h.elim
 rename_i y hy
 split at h
 case isFalse=>exact h.elim
 rename_i he'
 exact .new h.2.2 fun K' h'=>by simp only [vu,he,hz,hy,he'];exact ⟨h.1,h.2.1,h'⟩
theorem det_make {w:Bool} {T0:TypeId} {x y:T} {s:St} {K:Kn} (h:WI D T0 x y s K):YC w s (WI D T0 x y s) K:=by
 unfold WI at h
 split at h
 case h_2=>exact h.elim
 rename_i te hte
 split at h
 case h_2=>exact h.elim
 rename_i e z he hz
 split at h
 case h_2=>exact h.elim
 rename_i y0 hy
 split at h
 case h_2=>exact h.elim
 rename_i n c
 exact .new (h.2.2 _ rfl) fun K' h'=>by simp only [WI,hte,he,hz,hy];exact ⟨h.1,h.2.1,fun l hl=>by subst hl;exact h'⟩
theorem det_lookup {t:TypeId} {m k:T} {ok:Bool} {s:St} {K:T->Prop} (h:ww D t m k ok s K):jT (ww D t m k ok s) K:=by
 unfold ww at h
 split at h
 case h_2=>exact h.elim
 rename_i e ks z hi
 split at h
 case h_2=>exact h.elim
 rename_i q l hm hk
 split at h
 . exact .mk h fun K' h'=>by simp only [ww,hi,hm,hk];exact h'
 . exact .mk h fun K' h'=>by simp only [ww,hi,hm,hk];exact h'
theorem Wp {b:Bool} {k:T}: ∀{l:List (Int×ByteArray×Nat)} {K:T->Prop},yr b k K l->jT (fun K=>yr b k K l) K
 | [],_,h=>h.elim
 | p::r,K,h=>by
  unfold yr at h
  split at h
  case h_2=>exact h.elim
  rename_i c hc
  cases c with
  | true=>exact .mk h fun K' h'=>by simp only [yr,hc,cond_true];exact h'
  | false=>
   obtain ⟨v,h1,h2⟩:=Wp (l:=r) h
   exact .mk h1 fun K' h'=>by simp only [yr,hc,cond_false];exact h2 K' h'
theorem det_lookupF {t:TypeId} {m k:T} {ok:Bool} {s:St} {K:T->Prop} (h:vo D t m k ok s K):jT (vo D t m k ok s) K:=by
 unfold vo at h
 split at h
 case h_2=>exact h.elim
 rename_i b q b' l hi hm
 split at h
 case h_2=>exact h.elim
 rename_i hbb
 obtain ⟨v,h1,h2⟩:=Wp h
 exact .mk h1 fun K' h'=>by simp only [vo,hi,hm,hbb];exact h2 K' h'
theorem kQ {t:TypeId} {m k v:T} {s:St} {K:St->Prop} (h:z8 D t m k v s K): ∃k0 o,K (s.set k0 (some o))/\ ∀K':St->Prop,K' (s.set k0 (some o))->z8 D t m k v s K':=by
 unfold z8 at h
 split at h
 case h_2=>exact h.elim
 rename_i b q b' l f hi hm
 split at h
 case h_2=>exact h.elim
 rename_i p h1 h2 h3 h4
 exact ⟨_,_,h,fun K' h'=>by simp only [z8,hi,hm,h1,h2,h3,h4];exact h'⟩
theorem det_range {t:TypeId} {m:T} {s:St} {K:Kn} (h:QI D t m s K): ∃v o,K v (s++[some o])/\ ∀K':Kn,K' v (s++[some o])->QI D t m s K':=by
 unfold QI at h
 split at h
 case h_2=>exact h.elim
 rename_i ti q hti
 split at h
 case h_2=>exact h.elim
 rename_i kt vt e l hs hr
 split at h
 case h_2=>exact h.elim
 rename_i hsome
 exact ⟨_,_,h,fun K' h'=>by simp only [QI,hti,hs,hr,hsome];exact h'⟩
theorem det_entry {v:T} {s:St} {K:T->Prop} (h:Jh v s K):jT (Jh v s) K:=by
 unfold Jh YR at h
 split at h
 case h_2=>exact h.elim
 rename_i k
 split at h
 case h_2=>exact h.elim
 rename_i q e all left cur hr
 split at h
 case h_2=>exact h.elim
 rename_i e' l hq
 split at h
 case isFalse=>exact h.elim
 rename_i he
 split at h
 case h_2=>exact h.elim
 rename_i hs
 dsimp only at h
 split at h
 case h_2=>exact h.elim
 rename_i x
 exact .mk h.2 fun K' h'=>by simp only [Jh,YR,hr,hq,he,hs,dif_pos];exact ⟨h.1,h'⟩
theorem QY {t:TypeId} {m k v:T} {s:St} {K:St->Prop} (h:jb D t m k v s K): ∃k0 o,K (s.set k0 (some o))/\ ∀K':St->Prop,K' (s.set k0 (some o))->jb D t m k v s K':=by
 unfold jb at h
 split at h
 case h_2=>exact h.elim
 rename_i e ks z hi
 split at h
 case h_2=>exact h.elim
 rename_i q l y hm hk hy
 exact ⟨_,_,h,fun K' h'=>by simp only [jb,hi,hm,hk,hy];exact h'⟩
theorem det_lenT {s:St} {v:T} {K:Nat->Prop} (h:lenT s v K): ∃n,K n/\ ∀K':Nat->Prop,K' n->lenT s v K':=by
 unfold lenT at h
 split at h
 . exact ⟨_,h,fun _ h=>h⟩
 . exact ⟨_,h,fun _ h=>h⟩
 . split at h
   case h_2=>exact h.elim
   rename_i l hl
   exact ⟨_,h,fun K' h'=>by simp only [lenT,hl];exact h'⟩
 . exact ⟨_,h,fun _ h=>h⟩
 . exact h.elim
theorem det_store {ti:TI} {s:St} {a v:T} {K:St->Prop} (h:yK ti s a v K): ∃k o,K (s.set k (some o))/\ ∀K':St->Prop,K' (s.set k (some o))->yK ti s a v K':=by
 unfold yK at h
 split at h
 case h_1=>
  rename_i e' l' hal
  unfold Xi at h
  split at h
  case h_2=>exact h.elim
  split at h
  case isFalse=>exact h.elim
  rename_i he
  split at h
  case h_2=>exact h.elim
  rename_i l hl
  exact ⟨_,_,h.2,fun K' h'=>by simp only [yK,hal,Xi,he,dif_pos,hl];exact ⟨h.1,h'⟩⟩
 rename_i hal
 split at h
 case h_2=>exact h.elim
 rename_i xs hxs
 split at h
 case h_2=>exact h.elim
 rename_i hlen
 split at h
 . split at h
   case h_2=>exact h.elim
   rename_i cs hr
   split at h
   case h_2=>exact h.elim
   rename_i hoff
   exact ⟨_,_,h,fun K' h'=>by simp only [yK,hal,hxs,hlen,hr,hoff];exact h'⟩
 . split at h
   case h_2=>exact h.elim
   rename_i l hl
   obtain ⟨z,hz,h⟩:=h
   split at h
   case h_2=>exact h.elim
   rename_i hj
   split at h
   case h_2=>exact h.elim
   rename_i u hu
   exact ⟨_,_,h,fun K' h'=>by simp only [yK,hal,hxs,hlen,hl];exact ⟨z,hz,by simp only [hj,hu];exact h'⟩⟩
 . exact h.elim
theorem det_clear {te:TI} {s:St} {x:T} {K:St->Prop} (h:yd te s x K): ∃s',K s'/\(∀K':St->Prop,K' s'->yd te s x K')/\s'.length=s.length:=by
 unfold yd at h
 split at h
 case h_2=>exact h.elim
 rename_i e z he hz
 split at h
 case h_2=>exact h.elim
 rename_i y hy
 split at h
 . exact ⟨s,h,fun K' h'=>by simp only [yd,he,hz,hy];exact h',rfl⟩
 . split at h
   case isFalse=>exact h.elim
   rename_i hk
   split at h
   case h_2=>exact h.elim
   rename_i l hl
   exact ⟨_,h,fun K' h'=>by simp only [yd,he,hz,hy,hk,if_true,hl];exact h',by simp⟩
 . split at h
   case isFalse=>exact h.elim
   rename_i hk
   split at h
   case h_2=>exact h.elim
   rename_i l hl
   exact ⟨_,h,fun K' h'=>by simp only [yd,he,hz,hy,hk,if_true,hl];exact h',by simp⟩
 . exact h.elim
theorem det_copy {te:TI} {k m:Nat} {b:ByteArray} {s:St} {K:Kn} (h:Vo te k m b s K): ∃v o,K v (s.set k (some o))/\ ∀K':Kn,K' v (s.set k (some o))->Vo te k m b s K':=by
 unfold Vo at h
 split at h
 case h_2=>exact h.elim
 rename_i cs hsz hr
 split at h
 case h_2=>exact h.elim
 rename_i l hm hl
 split at h
 case h_2=>exact h.elim
 rename_i hn
 exact ⟨_,_,h,fun K' h'=>by simp only [Vo,hsz,hr,hm,hl,hn];exact h'⟩
theorem det_builtin {b:Builtin} {ts:List TypeId} {vs:List T} {s:St} {K:Kn} (h:zA D b ts vs s K):YC (isApp b) s (zA D b ts vs s) K:=by
 unfold zA at h
 split at h
 . split at h
   case h_2=>exact h.elim
   rename_i ti hti
   split at h
   . rename_i hs
     split at h
     case h_2=>exact h.elim
     exact .same h fun K' h'=>by simp only [zA,hti,hs];exact h'
   . rename_i e hs
     obtain ⟨n,h,k⟩:=det_lenT h
     exact .same h fun K' h'=>by simp only [zA,hti,hs];exact k _ h'
   . exact h.elim
 . split at h
   . rename_i hd
     split at h
     case h_2=>exact h.elim
     rename_i te hte
     split at h
     case h_2=>exact h.elim
     rename_i z hz
     obtain ⟨v,s',h1,h2,h3⟩:=det_append h
     exact ⟨v,s',h1,fun K' h'=>by simp only [zA,hd,hte,hz];exact h2 K' h',h3⟩
   . rename_i hd
     split at h
     case h_2=>exact h.elim
     rename_i te ti1 hte hti1
     split at h
     . rename_i hs1
       split at h
       case h_2=>exact h.elim
       obtain ⟨v,s',h1,h2,h3⟩:=det_appendZ h
       exact ⟨v,s',h1,fun K' h'=>by simp only [zA,hd,hte,hti1,hs1];exact h2 K' h',h3⟩
     . rename_i hs1
       split at h
       case h_2=>exact h.elim
       rename_i z hz
       obtain ⟨v,s',h1,h2,h3⟩:=det_appendS h
       exact ⟨v,s',h1,fun K' h'=>by simp only [zA,hd,hte,hti1,hs1,hz];exact h2 K' h',h3⟩
     . exact h.elim
 . split at h
   case h_2=>exact h.elim
   rename_i te hte
   obtain ⟨v,o,h1,h2⟩:=det_copy h
   exact .upd h1 fun K' h'=>by simp only [zA,hte];exact h2 _ h'
 . split at h
   case h_2=>exact h.elim
   rename_i ti hti
   split at h
   case h_2=>exact h.elim
   rename_i hs
   exact .same h fun K' h'=>by simp only [zA,hti,hs];exact h'
 . split at h
   case h_2=>exact h.elim
   rename_i te hte
   obtain ⟨s',h1,h2,h3⟩:=det_clear h
   exact ⟨.undef,s',h1,fun K' h'=>by simp only [zA,hte];exact h2 _ h', .inr (.inr ⟨rfl,h3⟩)⟩
 . exact .same h fun K' h'=>h'
 . exact .same h fun K' h'=>h'
 . exact h.elim
theorem det_conv {a b:TypeId} {s:St} {x:T} {K:Kn} {w:Bool} (h:wO D a b s x K):YC w s (wO D a b s x) K:=by
 unfold wO at h
 split at h
 case h_2=>exact h.elim
 rename_i ta tb ha hb
 split at h
 . rename_i hs;exact .same h fun K' h'=>by simp only [wO,ha,hb,hs];exact h'
 . rename_i hs1 hs2;exact .same h fun K' h'=>by simp only [wO,ha,hb,hs1,hs2];exact h'
 . rename_i hs1 hs2
   split at h
   case h_2=>exact h.elim
   rename_i te hte
   split at h
   case h_2=>exact h.elim
   rename_i e hs hel
   split at h
   case h_2=>exact h.elim
   rename_i f hf
   exact .new h.2 fun K' h'=>by simp only [wO,ha,hb,hs1,hs2,hte,hs,hel,hf];exact ⟨h.1,h'⟩
 . rename_i hs1 hs2
   split at h
   case h_2=>exact h.elim
   rename_i te hte
   split at h
   case h_2=>exact h.elim
   rename_i f l hs hf hl
   exact .same h fun K' h'=>by simp only [wO,ha,hb,hs1,hs2,hte,hs,hf,hl];exact h'
 . rename_i hs1 hs2
   split at h
   case h_2=>exact h.elim
   rename_i te hte
   split at h
   case h_2=>exact h.elim
   rename_i f hs hf
   exact .same h fun K' h'=>by simp only [wO,ha,hb,hs1,hs2,hte,hs,hf];exact h'
 . rename_i hs1 hs2
   split at h
   case h_2=>exact h.elim
   rename_i te hte
   split at h
   case h_2=>exact h.elim
   rename_i f l hs hf hl
   exact .same h fun K' h'=>by simp only [wO,ha,hb,hs1,hs2,hte,hs,hf,hl];exact h'
 . rename_i hs1 hs2
   split at h
   case h_2=>exact h.elim
   rename_i cs te hr hte
   split at h
   case h_2=>exact h.elim
   rename_i l hm hs hl
   split at h
   case h_2=>exact h.elim
   rename_i hd
   exact .same h fun K' h'=>by simp only [wO,ha,hb,hs1,hs2,hte,hs,hr,hm,hl,hd];exact h'
 . exact h.elim
theorem det_binIf {op:BinOp} {ti:TI} {x:T} (h:Q6 op ti x K):jT (Q6 op ti x) K:=by
 unfold Q6 at h
 split at h
 case h_2=>exact h.elim
 rename_i hs
 split at h
 case h_5=>exact h.elim
 all_goals exact .mk h fun K' h'=>by simp only [Q6,hs];exact h'
theorem det_pick {x:Bool} {p q:T} (h:Ww x p q K):jT (Ww x p q) K:=by
 unfold Ww at h
 split at h
 . exact .mk h fun K' h'=>h'
 . rename_i hn
   have key: ∀K':T->Prop,(bif x then K' p else K' q)->Ww x p q K':=fun K' h'=>by
    unfold Ww
    split
    . exact (hn _ _ rfl rfl).elim
    . exact h'
   cases x
   . exact .mk h (key · )
   . exact .mk h (key · )
theorem det_op {Γ:yN} {mu:FuncId->Bool} (hΓ:vD mu Γ) {op:Op} {ρ:Operand->T} {s:St} {K:Kn} (h:je D Γ op ρ s K fun _ _=>False):YC (wrOp mu op ρ) s (fun K=>je D Γ op ρ s K fun _ _=>False) K:=by
 unfold je at h
 split at h
 . exact .same h fun K' h'=>h'
 . exact .same h fun K' h'=>h'
 . split at h
   case h_2=>exact h.elim
   rename_i b hb
   obtain ⟨v,h1,h2⟩:=det_pick h
   exact .same h1 fun K' h'=>by simp only [je,hb];exact h2 _ h'
 . split at h
   case h_2=>exact h.elim
   rename_i ti hti
   split at h
   case h_2=>exact h.elim
   rename_i z hz
   exact .new h fun K' h'=>by simp only [je,hti,hz];exact h'
 . split at h
   case h_2=>exact h.elim
   rename_i z hz
   exact .new h fun K' h'=>by simp only [je,hz];exact h'
 . exact det_make h
 . split at h
   . rename_i hm
     exact .new h fun K' h'=>by simp only [je,hm];exact h'
   . rename_i hm
     split at h
     case h_2=>exact h.elim
     rename_i hf
     exact .new h fun K' h'=>by simp only [je,hm,hf];exact h'
 . split at h
   . rename_i hs
     obtain ⟨v,h1,h2⟩:=det_lookup h
     exact .same h1 fun K' h'=>by simp only [je,hs];exact h2 _ h'
   . rename_i hs
     obtain ⟨v,h1,h2⟩:=det_lookupF h
     exact .same h1 fun K' h'=>by simp only [je,hs];exact h2 _ h'
 . split at h
   . rename_i hs
     obtain ⟨k,o,h1,h2⟩:=QY h
     exact .upd h1 fun K' h'=>by simp only [je,hs];exact h2 (fun s=>K' .undef s) h'
   . rename_i hs
     obtain ⟨k,o,h1,h2⟩:=kQ h
     exact .upd h1 fun K' h'=>by simp only [je,hs];exact h2 (fun s=>K' .undef s) h'
 . split at h
   . rename_i hs
     obtain ⟨k,o,h1,h2⟩:=QY h
     exact .upd h1 fun K' h'=>by simp only [je,hs];exact h2 (fun s=>K' .undef s) h'
   . rename_i hs
     obtain ⟨k,o,h1,h2⟩:=kQ h
     exact .upd h1 fun K' h'=>by simp only [je,hs];exact h2 (fun s=>K' .undef s) h'
 . obtain ⟨v,o,h1,h2⟩:=det_range h
   exact .new h1 h2
 . obtain ⟨v,h1,h2⟩:=det_entry h
   exact .same h1 fun K' h'=>h2 (fun v=>K' v s) h'
 . exact jT.lift (det_build h)
 . exact jT.lift (WS h)
 . split at h
   case h_2=>exact h.elim
   rename_i ti hti
   obtain ⟨v,h1,h2⟩:=det_load h
   exact .same h1 fun K' h'=>by simp only [je,hti];exact h2 _ h'
 . split at h
   case h_2=>exact h.elim
   rename_i ti hti
   obtain ⟨k,o,h1,h2⟩:=det_store h
   exact .upd h1 fun K' h'=>by simp only [je,hti];exact h2 (fun s=>K' .undef s) h'
 . split at h
   case h_5=>exact h.elim
   all_goals
    rename_i hv
    exact .same h fun K' h'=>by simp only [je,hv];exact h'
 . split at h
   case h_2=>exact h.elim
   rename_i ti hti
   split at h
   . obtain ⟨v,h1,h2⟩:=det_binNil h
     exact .same h1 fun K' h'=>by simp only [je,hti];exact h2 _ h'
   . obtain ⟨v,h1,h2⟩:=det_binIf h
     exact .same h1 fun K' h'=>by simp only [je,hti];exact h2 _ h'
   . rename_i hn hn2
     obtain ⟨v,h1,h2⟩:=det_bin h
     exact .same h1 fun K' h'=>by
      simp only [je,hti]
      exact h2 (fun v=>K' v s) h'
 . exact jT.lift (det_un h)
 . exact det_conv h
 . split at h
   case h_2=>exact h.elim
   rename_i ti hti
   split at h
   case h_2=>exact h.elim
   rename_i hc
   exact .same h fun K' h'=>by simp only [je,hti,hc];exact h'
 . split at h
   . exact h.elim
   . exact h.elim
 . split at h
   . rename_i hy
     exact .same h fun K' h'=>by simp only [je,hy];exact h'
   . exact h.elim
 . split at h
   case h_2=>exact h.elim
   rename_i ti hti
   obtain ⟨v,h1,h2⟩:=det_dsl h
   exact .same h1 fun K' h'=>by simp only [je,hti];exact h2 _ h'
 . exact jT.lift (Yn h)
 . exact jT.lift (det_field h)
 . exact jT.lift (Yd h)
 . exact jT.lift (det_index h)
 . split at h
   case h_2=>exact h.elim
   rename_i vs hvs
   split at h
   case h_2=>exact h.elim
   rename_i v hv
   exact .same h fun K' h'=>by simp only [je,hvs,hv];exact h'
 . exact det_builtin h
 . split at h
   . rename_i x hx
     rw [Zq] at h
     obtain ⟨v,s',h1,h2,h3⟩:=hΓ _ _ _ _ h
     exact ⟨v,s',h1,fun K' h'=>by simp only [je,hx];rw [Zq];exact h2 _ h',by simp only [wrOp,hx];exact h3⟩
   . rename_i hx
     split at h
     case h_2=>exact h.elim
     rename_i g vs hg
     obtain ⟨v,s',h1,h2,h3⟩:=hΓ _ _ _ _ h
     exact ⟨v,s',h1,fun K' h'=>by simp only [je,hx,hg];exact h2 _ h',by simp only [wrOp,hx,hg];exact h3⟩
 . exact h.elim
end
end Go.Proofs.YtbglndogddddoaaGreatDoor
namespace Go.Proofs.YtbglndogddddoaaGreatDoor
open Go.RowKit
variable {P:Program}
def qB (m:Nat):Nat->St->St
 | _,[]=>[]
 | k,o::r=>(match m.testBit k with
  | true=>o
  | false=>none)::qB m (k+1) r
def back (m:Nat):Nat->St->St->St
 | _,[],_=>[]
 | _,s,[]=>s
 | k,o::r,o'::r'=>(match m.testBit k with
  | true=>o'
  | false=>o)::back m (k+1) r r'
mutual
def xT (n p:Nat):T->T
 | .oa e k ver=> .oa e (if k=n then p else k) ver
 | .os e k ver off c=> .os e (if k=n then p else k) ver off c
 | .pt k off=> .pt (if k=n then p else k) off
 | .mp k=> .mp (if k=n then p else k)
 | .itr (some k) e all left cur=> .itr (some (if k=n then p else k)) e all left cur
 | .as k c=> .as (if k=n then p else k) c
 | .pe e k ver i j=> .pe e (if k=n then p else k) ver i j
 | .ag cs=> .ag (vP n p cs)
 | .tu cs=> .tu (vP n p cs)
 | .fn f xs ys=> .fn f (vP n p xs) (vP n p ys)
 | .ic t v=> .ic t (xT n p v)
 | v=>v
def vP (n p:Nat):List T->List T
 | []=>[]
 | v::r=>xT n p v::vP n p r
end
theorem fixL_me {n p:Nat} {cs:List T}:meHead (vP n p cs)=meHead cs:=by
 cases cs with
 | nil=>rfl
 | cons v r=>
  cases v
  case itr k _ _ _ _=>cases k<;>rfl
  all_goals rfl
theorem fixL_head {n p:Nat} {cs:List T} (h:qS (vP n p cs)=true):qS cs=true:=by
 cases cs with
 | nil=>simp [vP,qS] at h
 | cons v r=>
  cases v
  case itr k _ _ _ _=>cases k<;>(simp only [vP,xT] at h;exact h)
  all_goals first | rfl | (simp only [vP,xT] at h;exact h)
def xa (n p:Nat):Ob->Ob
 | .cells cs=> .cells (vP n p cs)
 | o=>o
theorem qU {m:Nat}: ∀{s:St} {k:Nat},(qB m k s).length=s.length
 | [],_=>rfl
 | _::r,k=>by simp [qB,qU (s:=r)]
theorem zc {m:Nat}: ∀{s:St} {k i:Nat},(qB m k s)[i]? =(s[i]?).map fun o=>if m.testBit (k+i)=true then o else none
 | [],_,_=>by simp [qB]
 | o::r,k,0=>by
  simp only [qB,List.getElem?_cons_zero,Option.map_some,Nat.add_zero]
  cases m.testBit k<;>rfl
 | o::r,k,i+1=>by
  simp only [qB,List.getElem?_cons_succ]
  rw [zc,show k+1+i=k+(i+1)by omega]
theorem jK {m:Nat}: ∀{s s':St} {k:Nat},(back m k s s').length=s.length
 | [],_,_=>by simp [back]
 | _::r,[],k=>by simp [back]
 | _::r,_::r',k=>by simp [back,jK (s:=r)]
theorem jE {m:Nat}: ∀{s s':St} {k i:Nat},s'.length=s.length->(back m k s s')[i]? =if m.testBit (k+i)=true then s'[i]? else s[i]?
 | [],s',_,_,h=>by
  have:s'=[]:=List.eq_nil_of_length_eq_zero h
  subst this
  simp [back]
 | _::r,[],_,_,h=>by simp at h
 | o::r,o'::r',k,0,h=>by
  simp only [back,List.getElem?_cons_zero,Nat.add_zero]
  cases m.testBit k<;>simp
 | o::r,o'::r',k,i+1,h=>by
  simp only [back,List.getElem?_cons_succ]
  rw [jE (by simpa using h),show k+1+i=k+(i+1)by omega]
theorem YD {m:Nat} {s:St}:back m 0 s (qB m 0 s)=s:=by
 refine List.ext_getElem? fun i=> ?_
 rw [jE qU,zc]
 split
 . rename_i h
   cases s[i]? with
   | none=>rfl
   | some o=>simp [h]
 . rfl
theorem jJ {n p:Nat}: ∀{l:List T},(vP n p l).length=l.length
 | []=>rfl
 | _::r=>by simp [vP,jJ (l:=r)]
theorem kD {n p:Nat}: ∀{l:List T} {i:Nat},(vP n p l)[i]? =(l[i]?).map (xT n p)
 | [],_=>by simp [vP]
 | _::_,0=>by simp [vP]
 | _::r,i+1=>by simp only [vP,List.getElem?_cons_succ];exact kD
theorem Jv {n p:Nat} {l:List T} (h: ∀(i:Nat) (c:T),l[i]? =some c->xT n p c=c):vP n p l=l:=by
 refine List.ext_getElem? fun i=> ?_
 rw [kD]
 cases hc:l[i]? with
 | none=>rfl
 | some c=>simp [h i c hc]
section
variable {g g':G P} {s s':St} {w w':World} {m n p:Nat}
theorem fix_id (hn: ∀v,g.ob n v=none) {u:T} {x:Value} (h:R g u x):xT n p u=u:=by
 induction h with
 | oa e k ver oi A h1=>
  have:k≠n:=by rintro rfl;rw [hn] at h1;cases h1
  simp [xT,this]
 | os e k ver off c oi A c' h1=>
  have:k≠n:=by rintro rfl;rw [hn] at h1;cases h1
  simp [xT,this]
 | pt k off oi h1=>
  have:k≠n:=by rintro rfl;rw [hn] at h1;cases h1
  simp [xT,this]
 | mp k oi h1=>
  have:k≠n:=by rintro rfl;rw [hn] at h1;cases h1
  simp [xT,this]
 | as k c oi h1=>
  have:k≠n:=by rintro rfl;rw [hn] at h1;cases h1
  simp [xT,this]
 | it q e all left cur oi seen h1=>
  have:q≠n:=by rintro rfl;rw [hn] at h1;cases h1
  simp [xT,this]
 | pe e k ver i j oi h1=>
  have:k≠n:=by rintro rfl;rw [hn] at h1;cases h1
  simp [xT,this]
 | ag cs xs h1 _ _ ih=>
  simp only [xT]
  rw [Jv fun i c hc=>by
   have hi:i<xs.size:=by rw [<- h1];exact (List.getElem?_eq_some_iff.1 hc).1
   exact ih i c _ hc (Array.getElem?_eq_getElem hi)]
 | tu cs xs h1 _ ih=>
  simp only [xT]
  rw [Jv fun i c hc=>by
   have hi:i<xs.size:=by rw [<- h1];exact (List.getElem?_eq_some_iff.1 hc).1
   exact ih i c _ hc (Array.getElem?_eq_getElem hi)]
 | fn f as bs xs ys h0 h1 h2 _ _ ih1 ih2=>
  simp only [xT]
  rw [Jv (l:=as) fun i c hc=>by
   have hi:i<xs.size:=by rw [<- h1];exact (List.getElem?_eq_some_iff.1 hc).1
   exact ih1 i c _ hc (Array.getElem?_eq_getElem hi),Jv (l:=bs) fun i c hc=>by
   have hi:i<ys.size:=by rw [<- h2];exact (List.getElem?_eq_some_iff.1 hc).1
   exact ih2 i c _ hc (Array.getElem?_eq_getElem hi)]
 | ic t v x _ ih=>simp only [xT,ih]
 | yl f us yi l r _ _ _ h4 _ ih=>
  simp only [xT]
  rw [Jv (l:=us) fun i c hc=>by
   have hi:i<yi.live.length:=by rw [<- h4];exact (List.getElem?_eq_some_iff.1 hc).1
   exact ih i c _ hc (List.getElem?_eq_getElem hi)]
  rfl
 | _=>rfl
def G.move (g:G P) (n p:Nat):G P:={g with ob:=fun k v=>if k=p then g.ob n v else if k=n then none else g.ob k v}
theorem ZF {l:List T} {ys:Array Value} {p:T->Value->Prop} {n q:Nat} (h: ∀(i:Nat) (c:T) (x:Value),l[i]? =some c->ys[i]? =some x->p (xT n q c) x): ∀(i:Nat) (c:T) (x:Value),(vP n q l)[i]? =some c->ys[i]? =some x->p c x:=fun i c x hc hx=>by
 rw [kD,Option.map_eq_some_iff] at hc
 obtain ⟨c0,c1,rfl⟩:=hc
 exact h i c0 x c1 hx
theorem fix_R (hp: ∀v,g.ob p v=none) (hne:p≠n) {u:T} {x:Value} (h:R g u x):R (g.move n p) (xT n p u) x:=by
 have key: ∀k v oi,g.ob k v=some oi->(g.move n p).ob (if k=n then p else k) v=some oi:=by
  intro k v oi h
  by_cases e:k=n
  . subst e;simp [G.move,h]
  . have:k≠p:=by rintro rfl;rw [hp] at h;cases h
    simp [G.move,e,this,h]
 induction h with
 | undef x=>exact .undef x
 | int k n=>exact .int k n
 | bool b=>exact .bool b
 | str s=>exact .str s
 | cst v=>exact .cst v
 | ub b=>exact .ub b
 | fp=>exact .fp
 | mp k oi h1=>exact .mp _ oi (key _ _ _ h1)
 | as k c oi h1=>exact .as _ c oi (key _ _ _ h1)
 | me e l=>exact .me e l
 | fe b l h=>exact .fe b l h
 | it q e all left cur oi seen h1 h2 h3=>exact .it _ e all left cur oi seen (key _ _ _ h1) h2 h3
 | iz e all left cur v h=>exact .iz e all left cur v h
 | nil A=>exact .nil A
 | sl full e l A c h1 h2 h3 h4=>exact .sl full e l A c h1 h2 h3 h4
 | oa e k ver oi A h1 h2 h3 h4=>exact .oa e _ ver oi A (key _ _ _ h1) h2 h3 h4
 | os e k ver off n oi A c h1 h2 h3 h4 h5 h6=>exact .os e _ ver off n oi A c (key _ _ _ h1) h2 h3 h4 h5 h6
 | pt k off oi h1=>exact .pt _ off oi (key _ _ _ h1)
 | pe e k ver i j oi h1 h2=>exact .pe e _ ver i j oi (key _ _ _ h1) h2
 | pr e x j b off cs h1 h2=>exact .pr e x j b off cs h1 h2
 | ag cs xs h1 _ h3 ih=>exact .ag _ xs (by rw [jJ];exact h1) (ZF ih) h3
 | tu cs xs h1 _ ih=>exact .tu _ xs (by rw [jJ];exact h1) (ZF ih)
 | fn f as bs xs ys h0 h1 h2 _ _ ih1 ih2=>exact .fn f (vP _ p as) (vP _ p bs) xs ys h0 (by rw [jJ];exact h1) (by rw [jJ];exact h2) (ZF ih1) (ZF ih2)
 | ic t v x _ ih=>exact .ic t _ x ih
 | yl f us yi l r h1 h2 h3 h4 _ ih=>exact .yl f (vP _ p us) yi l r h1 h2 h3 (by rw [jJ];exact h4) fun i c d hc hd=>by rw [kD,Option.map_eq_some_iff] at hc;obtain ⟨c0,c1,rfl⟩:=hc;exact ih i c0 d c1 hd
 | fd0 x f h=>exact .fd0 x f h
 | fd1 x f e c b off cs h h1 h2=>exact .fd1 x f e c b off cs h h1 h2
 | al e l xs h1 h2 h3 _=>exact .al e l xs h1 (fun i c x hc hx=>(h2 i c x hc hx).pure (zW c (List.mem_of_getElem? hc)) fun _ _ h=>h) h3
theorem j3 {k:Nat} {o:Ob} (h:(qB m 0 s)[k]? =some (some o)):s[k]? =some (some o)/\m.testBit k=true:=by
 rw [zc,Option.map_eq_some_iff] at h
 obtain ⟨o',h1,h2⟩:=h
 rw [Nat.zero_add] at h2
 split at h2
 . rename_i hb;subst h2;exact ⟨h1,hb⟩
 . cases h2
theorem mask_none {k:Nat} (h:s[k]? ≠none) (hb:m.testBit k=false):(qB m 0 s)[k]? =some none:=by
 rw [zc,Nat.zero_add,hb]
 cases hs:s[k]? with
 | none=>exact absurd hs h
 | some o=>simp
theorem Kb (hg:Good g s w):Good g (qB m 0 s) w:=
 ⟨hg.ro,fun k o h=>hg.obj k o (j3 h).1,fun k k' o o' b h1 h2 h3 h4=>hg.inj k k' o o' b (j3 h1).1 (j3 h2).1 h3 h4,fun k v oi h=>by
  obtain ⟨h1,h2⟩:=hg.old k v oi h
  exact ⟨by rw [qU];exact h1,fun o ho=>h2 o (j3 ho).1⟩,hg.fx,hg.dm,hg.laid⟩
theorem wn {b:Nat} (h:Own g (qB m 0 s) b):Own g s b:=by
 obtain ⟨k,o,h1,h2⟩:=h
 exact ⟨k,o,(j3 h1).1,h2⟩
theorem wQ (hg:Good g s w) (hs: ∀b0,Step b0 g (qB m 0 s) w g' s' w') (hl:GL g (qB m 0 s) g') {k:Nat} {o:Ob} (h:s[k]? =some (some o)) (hb:m.testBit k=false):
  (∀v,g'.ob k v=g.ob k v)/\ ∃oi,g.ob k (obVer o)=some oi/\obFits o oi/\((qm o=true/\oi.cap=0)∨((∀cs0, ¬g'.ro oi.b cs0)/\ ∃(blk:Array Value) (E:TypeId) (fr:Nat×Nat),xL (xA o) w'.heap[oi.b]? =some (.cells blk E fr)/\(∀q,q<blk.size-> ¬(fr.1<=q/\q<fr.2))/\Cells g (qQ o) blk/\jj o oi E blk.size)):=by
 refine ⟨fun v=>hl.hid k v (mask_none (by rw [h];simp) hb), ?_⟩
 obtain ⟨oi,h1,h2,h3⟩:=hg.obj k o h
 refine ⟨oi,h1,h2, ?_⟩
 by_cases hn:qm o=true/\oi.cap=0
 . exact .inl hn
 rcases h3 with h3 | ⟨h3,blk,E,fr,h4,h5,h6,h7⟩
 . exact .inl h3
 have hblk:obBlk g k o=some oi.b:=by unfold obBlk;rw [h1];simp only;rw [if_neg hn]
 have hno: ¬Own g (qB m 0 s) oi.b:=by
  rintro ⟨k',o',a1,a2⟩
  obtain ⟨a3,a4⟩:=j3 a1
  have:=hg.inj k k' o o' oi.b h a3 hblk a2
  subst this
  rw [hb] at a4;cases a4
 have hlt:=v6 h4
 refine .inr ⟨?_,blk,E,fr,by rw [(hs ⟨0,0⟩).block _ hlt hno];exact h4,h5,h6,h7⟩
 intro cs hr
 . rcases (hs ⟨0,0⟩).new _ _ hr with h8 | h8 | h8
   . exact h3 _ h8
   . exact absurd h8 hno
   . omega
theorem Js (hg:Good g s w) (hg':Good g' s' w') (hs: ∀b0,Step b0 g (qB m 0 s) w g' s' w') (hl:GL g (qB m 0 s) g') (hlen:s'.length=s.length):
  Good g' (back m 0 s s') w'/\(∀b0,Step b0 g s w g' (back m 0 s s') w')/\GL g s g':=by
 have hget: ∀k,(back m 0 s s')[k]? =if m.testBit k=true then s'[k]? else s[k]? :=fun k=>by rw [jE hlen,Nat.zero_add]
 have hcase: ∀k o,(back m 0 s s')[k]? =some (some o)->(m.testBit k=true/\s'[k]? =some (some o))∨(m.testBit k=false/\s[k]? =some (some o)):=fun k o h=>by
  rw [hget] at h
  split at h
  . rename_i hb;exact .inl ⟨hb,h⟩
  . rename_i hb;exact .inr ⟨by simpa using hb,h⟩
 have hblkH: ∀k o,m.testBit k=false->s[k]? =some (some o)->obBlk g' k o=obBlk g k o:=fun k o hb h=>by
  unfold obBlk;rw [(wQ hg hs hl h hb).1]
 have hcross: ∀k o k' o' b,m.testBit k=false->s[k]? =some (some o)->obBlk g k o=some b->s'[k']? =some (some o')->obBlk g' k' o'=some b->False:=by
  intro k o k' o' b hb h hob h' hob'
  rcases (hs ⟨0,0⟩).own b ⟨k',o',h',hob'⟩with ⟨k2,o2,a1,a2⟩ | h1
  . obtain ⟨a3,a4⟩:=j3 a1
    have:=hg.inj k k2 o o2 b h a3 hob a2
    subst this
    rw [hb] at a4;cases a4
  . have:=hg.lt_own ⟨k,o,h,hob⟩;omega
 refine ⟨⟨hg'.ro,fun k o h=> ?_,fun k k' o o' b h h' hb hb'=> ?_,fun k v oi h=> ?_,hg'.fx,hg'.dm,hg'.laid⟩,fun b0=>⟨(hs ⟨0,0⟩).os,(hs ⟨0,0⟩).tape,(hs ⟨0,0⟩).output,(hs ⟨0,0⟩).size,fun b hb hno=>(hs ⟨0,0⟩).block b hb fun ho=>hno (wn ho),(hs ⟨0,0⟩).ro,fun b hb=> ?_,fun b cs hb=> ?_,fun k _ o ho=> ?_,fun k _ ver e l ho=> ?_,(hs ⟨0,0⟩).fx,(hs ⟨0,0⟩).dm,(hs ⟨0,0⟩).dmn⟩,⟨hl.le,fun k u hk=> ?_⟩⟩
 . rcases hcase k o h with ⟨_,h1⟩ | ⟨h0,h1⟩
   . exact hg'.obj k o h1
   . obtain ⟨e,oi,a1,a2,a3⟩:=wQ hg hs hl h1 h0
     refine ⟨oi,by rw [e];exact a1,a2, ?_⟩
     rcases a3 with a3 | ⟨a3,blk,E,fr,a4,a5,a6,a7⟩
     . exact .inl a3
     . exact .inr ⟨a3,blk,E,fr,a4,a5,a6.mono hl.le,a7⟩
 . rcases hcase k o h with ⟨_,h1⟩ | ⟨h0,h1⟩<;>rcases hcase k' o' h' with ⟨_,h2⟩ | ⟨h0',h2⟩
   . exact hg'.inj k k' o o' b h1 h2 hb hb'
   . rw [hblkH k' o' h0' h2] at hb'
     exact (hcross k' o' k o b h0' h2 hb' h1 hb).elim
   . rw [hblkH k o h0 h1] at hb
     exact (hcross k o k' o' b h0 h1 hb h2 hb').elim
   . rw [hblkH k o h0 h1] at hb
     rw [hblkH k' o' h0' h2] at hb'
     exact hg.inj k k' o o' b h1 h2 hb hb'
 . obtain ⟨h1,h2⟩:=hg'.old k v oi h
   refine ⟨by rw [jK, <- hlen];exact h1,fun o ho=> ?_⟩
   rcases hcase k o ho with ⟨_,h3⟩ | ⟨h0,h3⟩
   . exact h2 o h3
   . rw [(wQ hg hs hl h3 h0).1] at h
     exact (hg.old k v oi h).2 o h3
 . obtain ⟨k,o,h,hob⟩:=hb
   rcases hcase k o h with ⟨_,h1⟩ | ⟨h0,h1⟩
   . exact ((hs ⟨0,0⟩).own b ⟨k,o,h1,hob⟩).imp wn id
   . rw [hblkH k o h0 h1] at hob
     exact .inl ⟨k,o,h1,hob⟩
 . rcases (hs ⟨0,0⟩).new b cs hb with h1 | h1 | h1
   . exact .inl h1
   . exact .inr (.inl (wn h1))
   . exact .inr (.inr h1)
 . by_cases hb:m.testBit k=true
   . have hk:=(hs ⟨k+1,k+1⟩).kept k (Nat.lt_succ_self k) o (by rw [zc,ho,Nat.zero_add];simp [hb])
     cases o with
     | cells cs=>
      obtain ⟨cs',a1,a2⟩:=hk
      exact ⟨cs',by rw [hget,if_pos hb];exact a1,a2⟩
     | arr ver e l=>
      obtain ⟨ver',l',a1⟩:=hk
      exact ⟨ver',l',by rw [hget,if_pos hb];exact a1⟩
   . have hb':m.testBit k=false:=by simpa using hb
     cases o with
     | cells cs=>exact ⟨cs,by rw [hget,if_neg hb];exact ho,rfl,(wQ hg hs hl ho hb').1 0⟩
     | arr ver e l=>exact ⟨ver,l,by rw [hget,if_neg hb];exact ho⟩
 . by_cases hb:m.testBit k=true
   . obtain ⟨ver',l',a1,a2⟩:=(hs ⟨k+1,k+1⟩).fixd k (Nat.lt_succ_self k) ver e l (by rw [zc,ho,Nat.zero_add];simp [hb])
     exact ⟨ver',l',by rw [hget,if_pos hb];exact a1,a2⟩
   . have hb':m.testBit k=false:=by simpa using hb
     exact ⟨ver,l,by rw [hget,if_neg hb];exact ho,fun e0=>⟨e0,(wQ hg hs hl ho hb').1 0⟩⟩
 . refine hl.hid k u ?_
   rw [zc,hk]
   simp
theorem good_new (hg:Good g s w) {o:Ob} (hg':Good g' (qB m 0 s++[some o]) w') (hs: ∀b0,Step b0 g (qB m 0 s) w g' (qB m 0 s++[some o]) w') (hl:GL g (qB m 0 s) g') (hp:s[p]? =some none) (hpg: ∀v,g.ob p v=none):
  Good (g'.move s.length p) (s.set p (some (xa s.length p o))) w'/\(∀b0,Step b0 g s w (g'.move s.length p) (s.set p (some (xa s.length p o))) w')/\g.le (g'.move s.length p)/\
  (∀(k u:Nat),s[k]? =some none->k≠p->(g'.move s.length p).ob k u=g.ob k u)/\ ∀v x,R g' v x->R (g'.move s.length p) (xT s.length p v) x:=by
 have hpl:p<s.length:=(List.getElem?_eq_some_iff.1 hp).1
 have hml:(qB m 0 s).length=s.length:=qU
 have hpg': ∀v,g'.ob p v=none:=fun v=>by
  rw [hl.hid p v (by rw [zc,hp];simp)];exact hpg v
 have hng: ∀v,g.ob s.length v=none:=fun v=>by
  cases h:g.ob s.length v with
  | none=>rfl
  | some oi=>have:=(hg.old _ _ _ h).1;omega
 have hfix: ∀v x,R g' v x->R (g'.move s.length p) (xT s.length p v) x:=fun v x h=>fix_R hpg' (by omega) h
 have hle:g.le (g'.move s.length p):=⟨hl.le.ro,fun k v oi h=>by
  have h1:k≠p:=by rintro rfl;rw [hpg] at h;cases h
  have h2:k≠s.length:=by have:=(hg.old _ _ _ h).1;omega
  simp only [G.move,if_neg h1,if_neg h2]
  exact hl.le.ob _ _ _ h,hl.le.fx,hl.le.dm⟩
 have hob: ∀k v,k<s.length->k≠p->(g'.move s.length p).ob k v=g'.ob k v:=fun k v h1 h2=>by
  simp only [G.move,if_neg h2];rw [if_neg (by omega)]
 have hobp: ∀v,(g'.move s.length p).ob p v=g'.ob s.length v:=fun v=>by simp [G.move]
 have hget: ∀k,(s.set p (some (xa s.length p o)))[k]? =if k=p then some (some (xa s.length p o))else s[k]? :=fun k=>by
  rw [List.getElem?_set]
  by_cases e:p=k
  . subst e;simp [hpl]
  . rw [if_neg e,if_neg (Ne.symm e)]
 have hnew:(qB m 0 s++[some o])[s.length]? =some (some o):=by
  rw [List.getElem?_append_right (by omega),hml];simp
 have hvis: ∀k o2,s[k]? =some (some o2)->m.testBit k=true->(qB m 0 s++[some o])[k]? =some (some o2):=fun k o2 h hb=>by
  have hk:=(List.getElem?_eq_some_iff.1 h).1
  rw [List.getElem?_append_left (by omega),zc,h,Nat.zero_add]
  simp [hb]
 have hfo:obVer (xa s.length p o)=obVer o/\qm (xa s.length p o)=qm o/\xA (xa s.length p o)=xA o/\(∀oi,obFits o oi->obFits (xa s.length p o) oi)/\ ∀oi E n,jj o oi E n->jj (xa s.length p o) oi E n:=by
  cases o<;>exact ⟨rfl,rfl,(by first | rfl | exact fixL_me),fun _ h=>h,fun _ _ _ h=>by first | exact h | exact wU fixL_head h⟩
 have hcell: ∀blk,Cells g' (qQ o) blk->Cells (g'.move s.length p) (qQ (xa s.length p o)) blk:=fun blk h=>by
  cases o with
  | cells cs=>
   refine ⟨by simp only [xa,qQ,jJ];exact h.le,fun j u hj=> ?_⟩
   simp only [xa,qQ,kD,Option.map_eq_some_iff] at hj
   obtain ⟨c,c1,rfl⟩:=hj
   obtain ⟨x,x1,x2,x3⟩:=h.at_ j c c1
   exact ⟨x,x1,x2,hfix _ _ x3⟩
  | arr ver e l=>exact h.pure zW fun _ _ h=>h
 have hblkp:obBlk (g'.move s.length p) p (xa s.length p o)=obBlk g' s.length o:=by
  unfold obBlk;rw [hobp,hfo.1,hfo.2.1]
 have hblkV: ∀k o2,k<s.length->k≠p->obBlk (g'.move s.length p) k o2=obBlk g' k o2:=fun k o2 h1 h2=>by unfold obBlk;rw [hob k _ h1 h2]
 have hblkH: ∀k o2,m.testBit k=false->s[k]? =some (some o2)->obBlk g' k o2=obBlk g k o2:=fun k o hb h=>by
  unfold obBlk;rw [(wQ hg hs hl h hb).1]
 have hcross: ∀k o2 k' o' b,m.testBit k=false->s[k]? =some (some o2)->obBlk g k o2=some b->(qB m 0 s++[some o])[k']? =some (some o')->obBlk g' k' o'=some b->False:=by
  intro k o k' o' b hb h hob h' hob'
  rcases (hs ⟨0,0⟩).own b ⟨k',o',h',hob'⟩with ⟨k2,o2,a1,a2⟩ | h1
  . obtain ⟨a3,a4⟩:=j3 a1
    have:=hg.inj k k2 _ o2 b h a3 hob a2
    subst this
    rw [hb] at a4;cases a4
  . have:=hg.lt_own ⟨k,_,h,hob⟩;omega
 -- every object of the new store, in the old worlds
 have hcase: ∀k o2,(s.set p (some (xa s.length p o)))[k]? =some (some o2)->(k=p/\o2=xa s.length p o)∨(k≠p/\k<s.length/\s[k]? =some (some o2)/\(m.testBit k=true/\(qB m 0 s++[some o])[k]? =some (some o2)∨m.testBit k=false)):=fun k o2 h=>by
  rw [hget] at h
  split at h
  . rename_i e;simp only [Option.some.injEq] at h;exact .inl ⟨e,h.symm⟩
  . rename_i e
    refine .inr ⟨e,(List.getElem?_eq_some_iff.1 h).1,h, ?_⟩
    cases hb:m.testBit k with
    | true=>exact .inl ⟨rfl,hvis k o2 h hb⟩
    | false=>exact .inr rfl
 have hany: ∀k o2 b,(s.set p (some (xa s.length p o)))[k]? =some (some o2)->obBlk (g'.move s.length p) k o2=some b->
   (∃k' o',(qB m 0 s++[some o])[k']? =some (some o')/\obBlk g' k' o'=some b/\(k=p/\k'=s.length∨k≠p/\k'=k/\k<s.length))∨(m.testBit k=false/\s[k]? =some (some o2)/\obBlk g k o2=some b):=fun k o2 b h hb=>by
  rcases hcase k o2 h with ⟨rfl,rfl⟩ | ⟨h1,h2,h3,h4 | h4⟩
  . rw [hblkp] at hb
    exact .inl ⟨_,o,hnew,hb, .inl ⟨rfl,rfl⟩⟩
  . rw [hblkV k o2 h2 h1] at hb
    exact .inl ⟨k,o2,h4.2,hb, .inr ⟨h1,rfl,h2⟩⟩
  . rw [hblkV k o2 h2 h1,hblkH k o2 h4 h3] at hb
    exact .inr ⟨h4,h3,hb⟩
 refine ⟨⟨fun b cs h=> ?_,fun k o2 h=> ?_,fun k k' o1 o2 b h1 h2 h3 h4=> ?_,fun k v oi h=> ?_,hg'.fx,hg'.dm,hg'.laid⟩,fun b0=>⟨(hs ⟨0,0⟩).os,(hs ⟨0,0⟩).tape,(hs ⟨0,0⟩).output,(hs ⟨0,0⟩).size,fun b hb hno=>(hs ⟨0,0⟩).block b hb fun ho=>hno (wn ho),(hs ⟨0,0⟩).ro,fun b hb=> ?_,fun b cs hb=> ?_,fun k _ o2 ho=> ?_,fun k _ ver e l ho=> ?_,(hs ⟨0,0⟩).fx,(hs ⟨0,0⟩).dm,(hs ⟨0,0⟩).dmn⟩,hle,fun k u hk hne=> ?_,hfix⟩
 . obtain ⟨blk,E,fr,p2,p3⟩:=hg'.ro b cs h
   exact ⟨blk,E,fr,p2,p3.pure fun _ _ h=>h⟩
 . rcases hcase k o2 h with ⟨rfl,rfl⟩ | ⟨h1,h2,h3,h4 | h4⟩
   . obtain ⟨oi,a1,a2,a3⟩:=hg'.obj _ o hnew
     refine ⟨oi,by rw [hobp,hfo.1];exact a1,hfo.2.2.2.1 oi a2, ?_⟩
     unfold obRow
     rw [hfo.2.1,hfo.2.2.1]
     rcases a3 with a3 | ⟨a3,blk,E,fr,a4,a5,a6,a7⟩
     . exact .inl a3
     . exact .inr ⟨a3,blk,E,fr,a4,a5,hcell blk a6,hfo.2.2.2.2 oi _ _ a7⟩
   . obtain ⟨oi,a1,a2,a3⟩:=hg'.obj k o2 h4.2
     refine ⟨oi,by rw [hob k _ h2 h1];exact a1,a2, ?_⟩
     by_cases hn:qm o2=true/\oi.cap=0
     . exact .inl hn
     rcases a3 with a3 | ⟨a3,blk,E,fr,a4,a5,a6,a7⟩
     . exact .inl a3
     refine .inr ⟨a3,blk,E,fr,a4,a5,⟨a6.le,fun j u hj=> ?_⟩,a7⟩
     obtain ⟨x,x1,x2,x3⟩:=a6.at_ j u hj
     refine ⟨x,x1,x2, ?_⟩
     -- what the object held before says nothing of the new one
     obtain ⟨oi',b1,_,b3⟩:=hg.obj k o2 h3
     have heq:oi'=oi:=by
      have:=hl.le.ob _ _ _ b1
      rw [a1] at this
      exact (Option.some.inj this).symm
     subst heq
     rcases b3 with b3 | ⟨_,blk0,_,_,_,_,b6,_⟩
     . exact absurd b3 hn
     obtain ⟨x0,_,_,y3⟩:=b6.at_ j u hj
     have:=hfix u x x3
     rw [fix_id hng y3] at this
     exact this
   . obtain ⟨e,oi,a1,a2,a3⟩:=wQ hg hs hl h3 h4
     refine ⟨oi,by rw [hob k _ h2 h1,e];exact a1,a2, ?_⟩
     rcases a3 with a3 | ⟨a3,blk,E,fr,a4,a5,a6,a7⟩
     . exact .inl a3
     . exact .inr ⟨a3,blk,E,fr,a4,a5,a6.mono hle,a7⟩
 . rcases hany k o1 b h1 h3 with ⟨k1,p1,q1,q2,q3⟩ | ⟨q1,q2,q3⟩<;>rcases hany k' o2 b h2 h4 with ⟨k2,p2,r1,r2,r3⟩ | ⟨r1,r2,r3⟩
   . have:=hg'.inj k1 k2 p1 p2 b q1 r1 q2 r2
     omega
   . exact (hcross k' o2 k1 p1 b r1 r2 r3 q1 q2).elim
   . exact (hcross k o1 k2 p2 b q1 q2 q3 r1 r2).elim
   . exact hg.inj k k' o1 o2 b q2 r2 q3 r3
 . have hlen:(qB m 0 s++[some o]).length=s.length+1:=by simp [hml]
   simp only [G.move] at h
   split at h
   . rename_i e
     subst e
     refine ⟨by simp [hpl],fun o2 ho2=> ?_⟩
     rw [hget,if_pos rfl] at ho2
     simp only [Option.some.injEq] at ho2
     subst ho2
     rw [hfo.1]
     exact (hg'.old _ v oi h).2 o hnew
   . rename_i e
     split at h
     . cases h
     . rename_i e2
       obtain ⟨h1,h2⟩:=hg'.old k v oi h
       refine ⟨by rw [List.length_set];omega,fun o2 ho2=> ?_⟩
       rcases hcase k o2 ho2 with ⟨rfl,_⟩ | ⟨_,_,h5,h6 | h6⟩
       . exact absurd rfl e
       . exact h2 o2 h6.2
       . rw [(wQ hg hs hl h5 h6).1] at h
         exact (hg.old k v oi h).2 o2 h5
 . obtain ⟨k,o2,h,hob2⟩:=hb
   rcases hany k o2 b h hob2 with ⟨k1,p1,q1,q2,_⟩ | ⟨_,q2,q3⟩
   . exact ((hs ⟨0,0⟩).own b ⟨k1,p1,q1,q2⟩).imp wn id
   . exact .inl ⟨k,o2,q2,q3⟩
 . rcases (hs ⟨0,0⟩).new b cs hb with h1 | h1 | h1
   . exact .inl h1
   . exact .inr (.inl (wn h1))
   . exact .inr (.inr h1)
 . have hne:k≠p:=by rintro rfl;rw [hp] at ho;cases ho
   have hkl:=(List.getElem?_eq_some_iff.1 ho).1
   cases o2 with
   | cells cs=>
    refine ⟨cs,by rw [hget,if_neg hne];exact ho,rfl, ?_⟩
    rw [hob k 0 hkl hne]
    obtain ⟨oi,h1,_⟩:=hg.obj k _ ho
    have h1:g.ob k 0=some oi:=h1
    rw [h1]
    exact hl.le.ob _ _ _ h1
   | arr ver e l=>exact ⟨ver,l,by rw [hget,if_neg hne];exact ho⟩
 . have hne:k≠p:=by rintro rfl;rw [hp] at ho;cases ho
   have hkl:=(List.getElem?_eq_some_iff.1 ho).1
   refine ⟨ver,l,by rw [hget,if_neg hne];exact ho,fun e0=>⟨e0, ?_⟩⟩
   subst e0
   rw [hob k 0 hkl hne]
   obtain ⟨oi,h1,_⟩:=hg.obj k _ ho
   have h1:g.ob k 0=some oi:=h1
   rw [h1]
   exact hl.le.ob _ _ _ h1
 . rw [hob k u (List.getElem?_eq_some_iff.1 hk).1 hne]
   exact hl.hid k u (by rw [zc,hk];simp)
end
end Go.Proofs.YtbglndogddddoaaGreatDoor
namespace Go.Proofs.YtbglndogddddoaaGreatDoor
open Go.RowKit
structure Row where
 vis:Nat
 wr:Bool
 own:Option Nat
def evF (τ:Nat->T):Operand->T
 | .tmp i=>τ i
 | .const v=>tval v
 | .global g=> .cst (.pointer (some ⟨g,0,none⟩))
 | .func f=>fnT f
theorem ev_evF (t:Tm):ev t=evF (get t):=by funext x;cases x<;>rfl
def vi (τ:Nat->T) (dst:Option Tmp) (v:T):Nat->T:=
 match dst with
 | none=>τ
 | some d=>fun i=>if i=d then v else τ i
def gdF (ops:Array Oper) (g:Option (Nat×Bool)) (τ:Nat->T):Option Bool:=
 match VB ops g with
 | some none=>some true
 | some (some (d,want))=>match τ d with
  | .bool b=>some (b==want)
  | .cst (.tuple _)=>some false
  | _=>none
 | none=>none
abbrev noX:Kn:=fun _ _=>False
def Eff (D:TD) (Γ:yN) (row:Row) (op:Op) (τ:Nat->T) (s:St) (v:T) (s1:St):Prop:=
 ∃v' s',(∀K:Kn,K v' s'->je D Γ op (evF τ) (qB row.vis 0 s) K noX)/\
  ((s'=qB row.vis 0 s/\v=v'/\s1=s)∨(row.wr=true/\s'.length=s.length/\v=v'/\s1=back row.vis 0 s s')∨
   ∃o p,s'=qB row.vis 0 s++[some o]/\row.own=some p/\v=xT s.length p v'/\s1=s.set p (some (xa s.length p o)))
def Stp (D:TD) (Γ:yN) (n:Nat) (ops:Array Oper) (tab:List Row) (i:Nat) (τ:Nat->T) (s:St) (τ':Nat->T) (s':St):Prop:=
 ∃o row,ops[i]? =some o/\tab[i]? =some row/\(∀d,o.dst=some d->d<n)/\((gdF ops o.guard τ=some true/\ ∃v,Eff D Γ row o.op τ s v s'/\τ'=vi τ o.dst v)∨(gdF ops o.guard τ=some false/\τ'=vi τ o.dst (.cst Go.undef)/\s'=s))
def YQ (D:TD) (Γ:yN) (n:Nat) (ops:Array Oper) (tab:List Row):List Nat->(Nat->T)->St->(Nat->T)->St->Prop
 | [],τ,s,τ',s'=>τ=τ'/\s=s'
 | i::r,τ,s,τ',s'=> ∃τ1 s1,Stp D Γ n ops tab i τ s τ1 s1/\YQ D Γ n ops tab r τ1 s1 τ' s'
theorem evF_set {τ:Nat->T} {dst:Option Tmp} {v:T} {x:Operand} (h: ∀d,dst=some d->x≠ .tmp d):evF (vi τ dst v) x=evF τ x:=by
 cases dst with
 | none=>rfl
 | some d=>
  cases x with
  | tmp i=>
   have:i≠d:=fun e=>h d rfl (by rw [e])
   simp [evF,vi,this]
  | _=>rfl
theorem map_ev {ρ ρ':Operand->T} {l:List Operand} (h: ∀x∈l,ρ x=ρ' x):l.map ρ=l.map ρ':=List.map_congr_left h
theorem dop_ev {D:TD} {Γ:yN} {op:Op} {ρ ρ':Operand->T} {s:St} {K X:Kn} (h: ∀x∈op.operands,ρ x=ρ' x):je D Γ op ρ s K X=je D Γ op ρ' s K X:=by
 cases op<;>try rfl
 case move x=>simp only [je];rw [h x (by simp [Op.operands])]
 case assign x=>simp only [je];rw [h x (by simp [Op.operands])]
 case pick c x y=>simp only [je];rw [h c (by simp [Op.operands]),h x (by simp [Op.operands]),h y (by simp [Op.operands])]
 case box T x=>simp only [je];rw [h x (by simp [Op.operands])]
 case build T ps=>
  simp only [je]
  rw [show (ps.toList.map fun p=>(p.1,ρ p.2))=ps.toList.map fun p=>(p.1,ρ' p.2) from List.map_congr_left fun p hp=>by rw [h p.2 (by simp only [Op.operands];simp;exact ⟨p.1,by simpa using hp⟩)]]
 case buildSlice T n ps=>
  simp only [je]
  rw [show (ps.toList.map fun p=>(p.1,ρ p.2))=ps.toList.map fun p=>(p.1,ρ' p.2) from List.map_congr_left fun p hp=>by rw [h p.2 (by simp only [Op.operands];simp;exact ⟨p.1,by simpa using hp⟩)]]
 case load T x=>simp only [je];rw [h x (by simp [Op.operands])]
 case store T x y=>simp only [je];rw [h x (by simp [Op.operands]),h y (by simp [Op.operands])]
 case nilCheck x=>simp only [je];rw [h x (by simp [Op.operands])]
 case binOp op T x y U=>simp only [je];rw [h x (by simp [Op.operands]),h y (by simp [Op.operands])]
 case unOp op T x=>simp only [je];rw [h x (by simp [Op.operands])]
 case convert s d x=>simp only [je];rw [h x (by simp [Op.operands])]
 case makeInterface T x=>simp only [je];rw [h x (by simp [Op.operands])]
 case panic x=>simp only [je];rw [h x (by simp [Op.operands])]
 case makeFunc f xs ys=>
  cases f<;>simp only [je]
  rw [map_ev (l:=xs.toList) fun x hx=>h x (by simp [Op.operands];exact .inl (by simpa using hx)),map_ev (l:=ys.toList) fun x hx=>h x (by simp [Op.operands];exact .inr (by simpa using hx))]
 case slice T x lo hi mx=>
  simp only [je]
  have h1:lo.map ρ=lo.map ρ':=by cases lo<;>simp;exact h _ (by simp [Op.operands])
  have h2:hi.map ρ=hi.map ρ':=by cases hi<;>simp;exact h _ (by simp [Op.operands])
  have h3:mx.map ρ=mx.map ρ':=by cases mx<;>simp;exact h _ (by simp [Op.operands])
  rw [h x (by simp [Op.operands]),h1,h2,h3]
 case fieldAddr s x f=>simp only [je];rw [h x (by simp [Op.operands])]
 case field s x f=>simp only [je];rw [h x (by simp [Op.operands])]
 try case makeMap T r=>cases r<;>simp only [je]
 try case lookup T m k ok=>simp only [je];rw [h m (by simp [Op.operands]),h k (by simp [Op.operands])]
 try case range T m=>simp only [je];rw [h m (by simp [Op.operands])]
 try case entry x=>simp only [je];rw [h x (by simp [Op.operands])]
 try case mapUpdate T m k v=>simp only [je];rw [h m (by simp [Op.operands]),h k (by simp [Op.operands]),h v (by simp [Op.operands])]
 try case insert T m k v=>simp only [je];rw [h m (by simp [Op.operands]),h k (by simp [Op.operands]),h v (by simp [Op.operands])]
 case makeSlice T x y=>simp only [je];rw [h x (by simp [Op.operands]),h y (by simp [Op.operands])]
 case indexAddr T x y=>simp only [je];rw [h x (by simp [Op.operands]),h y (by simp [Op.operands])]
 case index T x y=>simp only [je];rw [h x (by simp [Op.operands]),h y (by simp [Op.operands])]
 case extract x i=>simp only [je];rw [h x (by simp [Op.operands])]
 case call c=>
  obtain ⟨callee,args,ts⟩:=c
  have hargs:args.toList.map ρ=args.toList.map ρ':=map_ev fun x hx=>h x (by simp [Op.operands,Call.operands];exact .inr (by simpa using hx))
  cases callee with
  | value f=>simp only [je];rw [hargs,h f (by simp [Op.operands,Call.operands])]
  | builtin b=>simp only [je];rw [hargs]
  | _=>rfl
def QV (ops:Array Oper) (x y:Oper) (p q:Row):Bool:=
 (match x.dst with | some d=> !(y.looksAt ops).contains d&&y.dst != some d | none=>true)&&
 (match y.dst with | some d=> !(x.looksAt ops).contains d | none=>true)&&
 (match p.own with | some a=> !q.vis.testBit a | none=>true)&&
 (match q.own with | some a=> !p.vis.testBit a | none=>true)&&
 (match p.own,q.own with | some a,some b=>a != b | _,_=>true)&&
 (!(p.wr||q.wr)||p.vis&&& q.vis==0)
section
variable {D:TD} {Γ:yN} {n:Nat} {ops:Array Oper} {tab:List Row}
theorem looks_op {o:Oper} {d:Tmp} (h:d ∉ o.looksAt ops): ∀x∈o.op.operands,x≠ .tmp d:=by
 intro x hx e
 subst e
 apply h
 unfold Oper.looksAt
 rw [List.mem_append]
 left
 rw [List.mem_filterMap]
 exact ⟨.tmp d,by simpa using hx,rfl⟩
theorem xH {o:Oper} {dst:Option Tmp} {τ:Nat->T} {v:T} (h: ∀d,dst=some d->d ∉ o.looksAt ops):gdF ops o.guard (vi τ dst v)=gdF ops o.guard τ:=by
 cases dst with
 | none=>rfl
 | some d=>
  have h:=h d rfl
  unfold gdF VB
  cases hg:o.guard with
  | none=>rfl
  | some p=>
   obtain ⟨j,want⟩:=p
   simp only
   cases hd:(ops[j]?).bind (·.dst)with
   | none=>rfl
   | some e=>
    have:e≠d:=fun e'=>h (by
     unfold Oper.looksAt
     rw [List.mem_append]
     right
     simp [hg,hd,e'])
    simp [vi,this]
theorem w0 {o:Oper} {dst:Option Tmp} {τ:Nat->T} {v:T} (h: ∀d,dst=some d->d ∉ o.looksAt ops): ∀x∈o.op.operands,evF (vi τ dst v) x=evF τ x:=
 fun x hx=>evF_set fun d hd=>looks_op (h d hd) x hx
theorem Yq {row:Row} {op:Op} {τ τ':Nat->T} {s s':St} {v:T} (h:Eff D Γ row op τ s v s') (he: ∀x∈op.operands,evF τ' x=evF τ x):Eff D Γ row op τ' s v s':=by
 obtain ⟨v',s1,h1,h2⟩:=h
 exact ⟨v',s1,fun K hK=>by rw [dop_ev he];exact h1 K hK,h2⟩
theorem vK {τ:Nat->T} {x y:Option Tmp} {v u:T} (h: ∀d,x=some d->y≠some d):vi (vi τ x v) y u=vi (vi τ y u) x v:=by
 cases x with
 | none=>rfl
 | some d=>
  cases y with
  | none=>rfl
  | some e=>
   have hne:e≠d:=fun e'=>h d rfl (by rw [e'])
   funext i
   simp only [vi]
   by_cases h1:i=e
   . subst h1;simp [hne]
   . simp [h1]
theorem QC {x y:Oper} {p q:Row} (h:QV ops x y p q=true):(∀d,x.dst=some d->d ∉ y.looksAt ops)/\(∀d,x.dst=some d->y.dst≠some d)/\(∀d,y.dst=some d->d ∉ x.looksAt ops)/\
  (∀a,p.own=some a->q.vis.testBit a=false)/\(∀a,q.own=some a->p.vis.testBit a=false)/\(∀a b,p.own=some a->q.own=some b->a≠b)/\(p.wr=true∨q.wr=true-> ∀i,p.vis.testBit i=true->q.vis.testBit i=true->False):=by
 simp only [QV,Bool.and_eq_true] at h
 obtain ⟨⟨⟨⟨⟨h1,h2⟩,h3⟩,h4⟩,h5⟩,h6⟩:=h
 refine ⟨fun d hd=> ?_,fun d hd=> ?_,fun d hd=> ?_,fun a ha=> ?_,fun a ha=> ?_,fun a b ha hb=> ?_,fun hw i hi hj=> ?_⟩
 . simp [hd] at h1;exact h1.1
 . simp [hd] at h1;exact h1.2
 . simp [hd] at h2;exact h2
 . simpa [ha] using h3
 . simpa [ha] using h4
 . simpa [ha,hb] using h5
 . have h6:p.vis&&& q.vis=0:=by rcases hw with hw | hw<;>simpa [hw] using h6
   have:=Nat.testBit_and p.vis q.vis i
   rw [h6,hi,hj] at this
   simp at this
theorem Zn {m k:Nat} {s:St} {o:Option Ob} (h:m.testBit k=false):qB m 0 (s.set k o)=qB m 0 s:=by
 refine List.ext_getElem? fun i=> ?_
 rw [zc,zc,List.getElem?_set]
 by_cases e:k=i
 . subst e
   simp only [if_true,Nat.zero_add,h,Bool.false_eq_true,if_false]
   by_cases hl:k<s.length
   . rw [if_pos hl,List.getElem?_eq_getElem hl];rfl
   . rw [if_neg hl,List.getElem?_eq_none (by omega)]
 . rw [if_neg e]
theorem yz {m m':Nat} {s s':St} (hl:s'.length=s.length) (h: ∀i,m.testBit i=true->m'.testBit i=true->False):qB m 0 (back m' 0 s s')=qB m 0 s:=by
 refine List.ext_getElem? fun i=> ?_
 rw [zc,zc,jE hl,Nat.zero_add]
 by_cases hb:m'.testBit i=true
 . have hmi:m.testBit i=false:=by cases hb':m.testBit i with | true=>exact (h i hb' hb).elim | false=>rfl
   simp only [hb,if_true,hmi,Bool.false_eq_true,if_false]
   by_cases hi:i<s.length
   . rw [List.getElem?_eq_getElem hi,List.getElem?_eq_getElem (by omega)];rfl
   . rw [List.getElem?_eq_none (by omega),List.getElem?_eq_none (by omega)]
 . rw [if_neg hb]
theorem back_set {m k:Nat} {s s':St} {o:Option Ob} (hl:s'.length=s.length) (h:m.testBit k=false):back m 0 (s.set k o) s'=(back m 0 s s').set k o:=by
 refine List.ext_getElem? fun i=> ?_
 rw [jE (by simpa using hl),List.getElem?_set,List.getElem?_set,jE hl,jK,Nat.zero_add]
 by_cases e:k=i
 . subst e;simp [h]
 . simp [e]
theorem back_back {m m':Nat} {s s' s'':St} (hl:s'.length=s.length) (hl':s''.length=s.length) (h: ∀i,m.testBit i=true->m'.testBit i=true->False):back m 0 (back m' 0 s s') s''=back m' 0 (back m 0 s s'') s':=by
 refine List.ext_getElem? fun i=> ?_
 rw [jE (by rw [jK];exact hl'),jE hl,jE (by rw [jK];exact hl),jE hl',Nat.zero_add]
 by_cases h1:m.testBit i=true<;>by_cases h2:m'.testBit i=true
 . exact (h i h1 h2).elim
 . simp [h1,h2]
 . simp [h1,h2]
 . simp [h1,h2]
theorem wT {row:Row} {op:Op} {τ:Nat->T} {s s1:St} {v:T} (h:Eff D Γ row op τ s v s1):
  (s1=s/\ ∀st,qB row.vis 0 st=qB row.vis 0 s->Eff D Γ row op τ st v st)∨
  (∃p o,row.own=some p/\s1=s.set p o/\ ∀st,qB row.vis 0 st=qB row.vis 0 s->Eff D Γ row op τ st v (st.set p o))∨
  (∃s',row.wr=true/\s'.length=s.length/\s1=back row.vis 0 s s'/\ ∀st,qB row.vis 0 st=qB row.vis 0 s->Eff D Γ row op τ st v (back row.vis 0 st s')):=by
 obtain ⟨v',s',h1,h2⟩:=h
 have hlen: ∀st,qB row.vis 0 st=qB row.vis 0 s->st.length=s.length:=fun st h=>by
  have:=congrArg List.length h
  rwa [qU,qU] at this
 rcases h2 with ⟨rfl,rfl,rfl⟩ | ⟨a1,a2,rfl,rfl⟩ | ⟨o,p,rfl,a2,rfl,rfl⟩
 . exact .inl ⟨rfl,fun st hst=>⟨v,_,fun K hK=>by rw [hst];exact h1 K hK, .inl ⟨hst.symm,rfl,rfl⟩⟩⟩
 . exact .inr (.inr ⟨s',a1,a2,rfl,fun st hst=>⟨v,s',fun K hK=>by rw [hst];exact h1 K hK, .inr (.inl ⟨a1,by rw [hlen st hst];exact a2,rfl,rfl⟩)⟩⟩)
 . exact .inr (.inl ⟨p,_,a2,rfl,fun st hst=>⟨v',_,fun K hK=>by rw [hst];exact h1 K hK, .inr (.inr ⟨o,p,by rw [hst],a2,by rw [hlen st hst],by rw [hlen st hst]⟩)⟩⟩)
theorem Eff_swap {x y:Oper} {p q:Row} {τ:Nat->T} {s s1 s2:St} {v u:T} (hi:QV ops x y p q=true) (h1:Eff D Γ p x.op τ s v s1) (h2:Eff D Γ q y.op τ s1 u s2):
  ∃s1',Eff D Γ q y.op τ s u s1'/\Eff D Γ p x.op τ s1' v s2:=by
 obtain ⟨_,_,_,i4,i5,i6,i7⟩:=QC hi
 rcases wT h1 with ⟨rfl,a⟩ | ⟨pa,oa,a1,rfl,a⟩ | ⟨sa,a1,a2,rfl,a⟩
 . rcases wT h2 with ⟨rfl,b⟩ | ⟨pb,ob,b1,rfl,b⟩ | ⟨sb,b1,b2,rfl,b⟩
   . exact ⟨_,h2,h1⟩
   . exact ⟨_,h2,a _ (Zn (i5 pb b1))⟩
   . exact ⟨_,h2,a _ (yz b2 (i7 (.inr b1)))⟩
 . have hm:qB q.vis 0 s=qB q.vis 0 (s.set pa oa):=(Zn (i4 pa a1)).symm
   rcases wT h2 with ⟨rfl,b⟩ | ⟨pb,ob,b1,rfl,b⟩ | ⟨sb,b1,b2,rfl,b⟩
   . exact ⟨s,b s hm,h1⟩
   . refine ⟨_,b s hm, ?_⟩
     rw [List.set_comm _ _ (i6 pa pb a1 b1)]
     exact a _ (Zn (i5 pb b1))
   . refine ⟨_,b s hm, ?_⟩
     have b2':sb.length=s.length:=by simpa using b2
     rw [back_set b2' (i4 pa a1)]
     exact a _ (yz b2' (i7 (.inr b1)))
 . have hd:=i7 (.inl a1)
   have hd': ∀i,q.vis.testBit i=true->p.vis.testBit i=true->False:=fun i h1 h2=>hd i h2 h1
   have hm:qB q.vis 0 s=qB q.vis 0 (back p.vis 0 s sa):=(yz a2 hd').symm
   rcases wT h2 with ⟨rfl,b⟩ | ⟨pb,ob,b1,rfl,b⟩ | ⟨sb,b1,b2,rfl,b⟩
   . exact ⟨s,b s hm,h1⟩
   . refine ⟨_,b s hm, ?_⟩
     rw [<- back_set a2 (i5 pb b1)]
     exact a _ (Zn (i5 pb b1))
   . rw [jK] at b2
     refine ⟨_,b s hm, ?_⟩
     rw [back_back a2 b2 hd']
     exact a _ (yz b2 hd)
theorem Stp_swap {i j:Nat} {τ τ1 τ2:Nat->T} {s s1 s2:St} (hi: ∀x y p q,ops[j]? =some x->ops[i]? =some y->tab[j]? =some p->tab[i]? =some q->QV ops x y p q=true)
  (h1:Stp D Γ n ops tab j τ s τ1 s1) (h2:Stp D Γ n ops tab i τ1 s1 τ2 s2): ∃τ1' s1',Stp D Γ n ops tab i τ s τ1' s1'/\Stp D Γ n ops tab j τ1' s1' τ2 s2:=by
 obtain ⟨x,p,x1,x2,x3,x4⟩:=h1
 obtain ⟨y,q,y1,y2,y3,y4⟩:=h2
 have hind:=hi x y p q x1 y1 x2 y2
 obtain ⟨i1,i2,i3,_⟩:=QC hind
 rcases x4 with ⟨gx,v,ex,rfl⟩ | ⟨gx,rfl,rfl⟩
 . rw [xH i1] at y4
   rcases y4 with ⟨gy,u,ey,rfl⟩ | ⟨gy,rfl,rfl⟩
   . have ey':=Yq ey (τ':=τ) fun z hz=>(w0 i1 z hz).symm
     obtain ⟨st1',e1,e2⟩:=Eff_swap hind ex ey'
     exact ⟨_,st1',⟨y,q,y1,y2,y3, .inl ⟨gy,u,e1,rfl⟩⟩,⟨x,p,x1,x2,x3, .inl ⟨by rw [xH i3];exact gx,v,Yq e2 (w0 i3),vK i2⟩⟩⟩
   . exact ⟨_,s,⟨y,q,y1,y2,y3, .inr ⟨gy,rfl,rfl⟩⟩,⟨x,p,x1,x2,x3, .inl ⟨by rw [xH i3];exact gx,v,Yq ex (w0 i3),vK i2⟩⟩⟩
 . rw [xH i1] at y4
   rcases y4 with ⟨gy,u,ey,rfl⟩ | ⟨gy,rfl,rfl⟩
   . have ey':=Yq ey (τ':=τ) fun z hz=>(w0 i1 z hz).symm
     exact ⟨_,s2,⟨y,q,y1,y2,y3, .inl ⟨gy,u,ey',rfl⟩⟩,⟨x,p,x1,x2,x3, .inr ⟨by rw [xH i3];exact gx,vK i2,rfl⟩⟩⟩
   . exact ⟨_,_,⟨y,q,y1,y2,y3, .inr ⟨gy,rfl,rfl⟩⟩,⟨x,p,x1,x2,x3, .inr ⟨by rw [xH i3];exact gx,vK i2,rfl⟩⟩⟩
theorem Wi {i:Nat} {r2:List Nat}: ∀(r1:List Nat) {τ τ':Nat->T} {s s':St},(∀j∈r1, ∀x y p q,ops[j]? =some x->ops[i]? =some y->tab[j]? =some p->tab[i]? =some q->QV ops x y p q=true)->
  YQ D Γ n ops tab (r1++i::r2) τ s τ' s'-> ∃τ1 s1,Stp D Γ n ops tab i τ s τ1 s1/\YQ D Γ n ops tab (r1++r2) τ1 s1 τ' s'
 | [],_,_,_,_,_,h=>h
 | j::r1,τ,τ',s,s',hi,h=>by
  obtain ⟨τ1,st1,h1,h2⟩:=h
  obtain ⟨τ2,st2,h3,h4⟩:=Wi r1 (fun j hj=>hi j (by simp [hj])) h2
  obtain ⟨τ3,st3,h5,h6⟩:=Stp_swap (hi j (by simp)) h1 h3
  exact ⟨τ3,st3,h5,τ2,st2,h6,h4⟩
end
end Go.Proofs.YtbglndogddddoaaGreatDoor
