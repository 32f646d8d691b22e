import Derived.Sort.LoopGhostIn
import Derived.LoopNIn
import Derived.RangeFuncLeaves
import Derived.RangeFuncRecord
import Derived.Test.YtbglndogddddoaaGreatDoorGD2
set_option linter.unusedVariables false
set_option linter.unusedSimpArgs false
set_option linter.unusedSectionVars false
namespace Go.Proofs.YtbglndogddddoaaGreatDoor
section
open Go.RowKit
variable {P:Program} [Bd P]
mutual
def qeJ:T->Nat
 | .oa _ k _=>1 <<<k
 | .os _ k _ _ _=>1 <<<k
 | .pt k _=>1 <<<k
 | .mp k=>1 <<<k
 | .itr (some k) .. =>1 <<<k
 | .as k _=>1 <<<k
 | .pe _ k _ _ _=>1 <<<k
 | .ag cs=>qq8 cs
 | .tu cs=>qq8 cs
 | .fn _ xs ys=>qq8 xs||| qq8 ys
 | .ic _ v=>qeJ v
 | _=>0
def qq8:List T->Nat
 | []=>0
 | v::r=>qeJ v||| qq8 r
end
def qsV:Option Ob->Nat
 | some (.cells cs)=>qq8 cs
 | _=>0
def qjt:Nat->St->Nat->Nat
 | _,[],m=>m
 | k,o::r,m=>match m.testBit k with
  | true=>qjt (k+1) r (m||| qsV o)
  | false=>qjt (k+1) r m
def qWb (ρ:Operand->T):List Operand->Nat
 | []=>0
 | x::r=>qeJ (ρ x)||| qWb ρ r
def yn (op:Op) (ρ:Operand->T) (s:St):Nat:=
 match op with
 | .call _=>qjt 0 s (qjt 0 s (qWb ρ op.operands.toList))
 | .store _ a _=>qeJ (ρ a)
 | .move _=>0
 | .assign _=>0
 | .build .. =>0
 | .box .. =>0
 | _=>qWb ρ op.operands.toList
def qZR:Op->Bool
 | .alloc _=>true
 | .box .. =>true
 | .makeSlice .. =>true
 | .makeMap .. =>true
 | .range .. =>true
 | .call {callee:= .builtin b,args:=_,argTypes:=_}=>qWG b
 | .call _=>true
 | _=>false
def qzJ (mu:FuncId->Bool) (op:Op) (ρ:Operand->T) (s:St) (p:Nat):Row:=
 ⟨yn op ρ s,qvz mu op ρ,match qZR op with | true=>some p | false=>none⟩
def Vj (row:Row) (s:St) (v:T) (s':St) (K:Kn):Prop:=
 match decide (s'.length=s.length)with
 | true=>K v (back row.vis 0 s s')
 | false=>match row.own,rd s' s.length with
  | some p,some o=>K (vR s.length p v) (s.set p (some (vk s.length p o)))
  | _,_=>False
def orr (W:List Nat):List Edge->Nat
 | []=>0
 | e::r=>match Region.binds .any e with
  | true=>(W.getD e.on 0||| 1 <<<e.on)||| orr W r
  | false=>orr W r
def qqI:List Oper->List Nat->List Nat
 | [],W=>W
 | o::r,W=>qqI r (W++[orr W o.after.toList])
def qVg (top:Nat):Nat->List Row->Bool
 | _,[]=>true
 | b,r::l=>match r.own with
  | some p=>Nat.ble b p&&(Nat.blt p top&&qVg top (p+1) l)
  | none=>qVg top b l
def qgy (ops:Array Oper) (tab:List Row) (W:List Nat):Bool:=
 (List.range ops.size).all fun i=>match ops[i]?,W[i]? with
  | some y,some b=>y.after.all (fun e=> !Region.binds .any e||Nat.blt e.on i)&&(orr W y.after.toList==b)&&(match tab[i]? with
   | some q=>(List.range i).all fun j=>b.testBit j||(match ops[j]?,tab[j]? with
    | some x,some p=>Ze ops x y p q
    | _,_=>false)
   | none=>(List.range i).all fun j=>b.testBit j)
  | _,_=>false
def vL (ops:Array Oper) (base top:Nat) (tab:List Row):Bool:=
 Nat.ble tab.length ops.size&&qVg top base tab&&qgy ops tab (qqI ops.toList [])
def xn (ops:Array Oper) (listed:Array Bool):Prop:=
 ∀(j:Nat) (o:Oper),ops[j]? =some o->listed.getD j false=true-> ∀e∈o.after,Region.binds .any e=true->listed.getD e.on false=true
theorem xn.set {ops:Array Oper} {listed:Array Bool} (hc:xn ops listed) {j:Nat} (hj:j∈Region.ready .any ops listed):xn ops (listed.setIfInBounds j true):=by
 intro k o ho hk e he hb;obtain ⟨_,oj,hoj,hall⟩:=mem_ready.1 hj;by_cases hjk:j=k
 . subst hjk;rw [hoj] at ho;injection ho with ho;subst ho;exact getD_set_true (hall e he hb)
 . have hk':listed.getD k false=true:=by
    simpa [Ja6,hjk] using hk
   exact getD_set_true (hc k o ho hk' e he hb)
theorem qxQ {W:List Nat} {j:Nat}: ∀{l:List Edge},(orr W l).testBit j=true-> ∃e∈l,Region.binds .any e=true/\(e.on=j∨(W.getD e.on 0).testBit j=true)
 | [],h=>by simp [orr] at h
 | e::r,h=>by
  simp only [orr] at h;split at h
  . rename_i hb;rw [Nat.testBit_or,Nat.testBit_or] at h;simp only [Bool.or_eq_true] at h;rcases h with (h | h) | h
    . exact ⟨e,by simp,hb,.inr h⟩
    . refine ⟨e,by simp,hb,.inl ?_⟩
      rw [Nat.one_shiftLeft,Nat.testBit_two_pow] at h;exact Jac h
    . obtain ⟨e',h1,h2⟩:=qxQ h;exact ⟨e',by simp [h1],h2⟩
  . obtain ⟨e',h1,h2⟩:=qxQ h;exact ⟨e',by simp [h1],h2⟩
theorem yg {ops:Array Oper} {listed:Array Bool} {W:List Nat} (hc:xn ops listed) (hW: ∀(i:Nat) (y:Oper),ops[i]? =some y->(∀e∈y.after,Region.binds .any e=true->e.on<i)/\W[i]? =some (orr W y.after.toList)): ∀(i:Nat) (y:Oper) (j:Nat),ops[i]? =some y->(∀e∈y.after,Region.binds .any e=true->listed.getD e.on false=true)->
  (orr W y.after.toList).testBit j=true->listed.getD j false=true:=by
 intro i;induction i using Nat.strongRecOn with
 | ind i ih=>
  intro y j hy hall h;obtain ⟨e,he,hb,h⟩:=qxQ h;have he':e∈y.after:=by simpa using he
  have hl:=hall e he' hb;rcases h with rfl | h
  . exact hl
  . have hlt:=(hW i y hy).1 e he' hb;have hoe:ops[e.on]? =some (ops[e.on]'(by have:=(Jar.1 hy).1;omega)):=Jaw _
    have hw:=(hW _ _ hoe).2;rw [Jbq,hw,Option.getD_some] at h;exact ih e.on hlt _ j hoe (hc _ _ hoe hl) h
theorem Wg {top:Nat}: ∀{tab:List Row} {b:Nat},qVg top b tab=true->(∀(i:Nat) (r:Row) (p:Nat),tab[i]? =some r->r.own=some p->b<=p/\p<top)/\ ∀(i j:Nat) (r q:Row) (p:Nat),tab[i]? =some r->tab[j]? =some q->r.own=some p->q.own=some p->i=j
 | [],_,_=>⟨fun i r p h=>by simp at h,fun i j r q p h=>by simp at h⟩
 | a::l,b,h=>by
  simp only [qVg] at h;cases ho:a.own with
  | none=>
   rw [ho] at h;obtain ⟨h1,h2⟩:=Wg h;refine ⟨fun i r p hi hr=> ?_,fun i j r q p hi hj hr hq=> ?_⟩
   . cases i with
     | zero=>simp at hi;subst hi;rw [ho] at hr;cases hr
     | succ i=>exact h1 i r p (by simpa using hi) hr
   . cases i with
     | zero=>simp at hi;subst hi;rw [ho] at hr;cases hr
     | succ i=>cases j with
      | zero=>simp at hj;subst hj;rw [ho] at hq;cases hq
      | succ j=>rw [h2 i j r q p (by simpa using hi) (by simpa using hj) hr hq]
  | some k=>
   rw [ho] at h;simp only [Jaq] at h;obtain ⟨h3,h4,h⟩:=h;have h3:b<=k:=Jag h3;have h4:k<top:=Jag h4;obtain ⟨h1,h2⟩:=Wg h;refine ⟨fun i r p hi hr=> ?_,fun i j r q p hi hj hr hq=> ?_⟩
   . cases i with
     | zero=>simp at hi;subst hi;rw [ho] at hr;injection hr with hr;omega
     | succ i=>have:=h1 i r p (by simpa using hi) hr;omega
   . cases i with
     | zero=>cases j with
      | zero=>rfl
      | succ j=>
       simp at hi;subst hi;rw [ho] at hr;injection hr with hr;have:=(h1 j q p (by simpa using hj) hq).1
       omega
     | succ i=>cases j with
      | zero=>
       simp at hj;subst hj;rw [ho] at hq;injection hq with hq;have:=(h1 i r p (by simpa using hi) hr).1
       omega
      | succ j=>rw [h2 i j r q p (by simpa using hi) (by simpa using hj) hr hq]
def Yh (D:TD) (Γ:Qy) (mu:FuncId->Bool) (n:Nat) (ops:Array Oper) (base top:Nat):List Oper->Nat->List Row->Tm->St->(Tm->St->Prop)->Prop
 | [],_,acc,t,s,K=>match vL ops base top acc.reverse with
  | true=>K t s
  | false=>False
 | o::r,c,acc,t,s,K=>yb (Ys ops o.guard) t
  (fun t=>jT D Γ o.op (ev t) (qI (yn o.op (ev t) s) 0 s) (fun v s'=>Vj (qzJ mu o.op (ev t) s c) s v s' fun v s1=>Fin n t o.dst v (fun t2 s2=>Yh D Γ mu n ops base top r (match qZR o.op with | true=>c+1 | false=>c) (qzJ mu o.op (ev t) s c::acc) t2 s2 K) s1) noX)
  fun t=>Fin n t o.dst (.cst Go.undef) (fun t s=>Yh D Γ mu n ops base top r (match qZR o.op with | true=>c+1 | false=>c) (⟨0,false,none⟩::acc) t s K) s
def J7 (D:TD) (Γ:Qy) (n:Nat) (ops:Array Oper):List Oper->List Row->Tm->St->(List Row->Tm->St->Prop)->Prop
 | [],acc,t,s,K=>K acc t s
 | o::r,acc,t,s,K=>yb (Ys ops o.guard) t
  (fun t=>jT D Γ o.op (ev t) (qI (yn o.op (ev t) s) 0 s) (fun v s'=>Vj ⟨yn o.op (ev t) s,qvz (fun _=>false) o.op (ev t),none⟩ s v s' fun v s1=>Fin n t o.dst v (fun t2 s2=>J7 D Γ n ops r (acc++[⟨yn o.op (ev t) s,qvz (fun _=>false) o.op (ev t),none⟩]) t2 s2 K) s1) noX)
  fun t=>Fin n t o.dst (.cst Go.undef) (fun t s=>J7 D Γ n ops r (acc++[⟨0,false,none⟩]) t s K) s
def Wm:List Row->Bool
 | []=>true
 | r::l=>match r.wr with
  | true=>false
  | false=>Wm l
def qk5 (ops:Array Oper) (ci:Nat) (tab:List Row) (W:List Nat):Bool:=
 (List.range ops.size).all fun i=>match ops[i]?,W[i]? with
  | some y,some b=>y.after.all (fun e=> !Region.binds .any e||Nat.blt e.on i)&&(orr W y.after.toList==b)&&(match Nat.ble i ci with
   | true=>match tab[i]? with
    | some q=>(List.range i).all fun j=>b.testBit j||(match ops[j]?,tab[j]? with
     | some x,some p=>Ze ops x y p q
     | _,_=>false)
    | none=>false
   | false=>b.testBit ci)
  | _,_=>false
def wz (o:Oper) (t:Tm) (s:St):Row:=⟨yn o.op (ev t) s,true,none⟩
def qiI (D:TD) (Γ Γ':Qy) (n:Nat) (ops:Array Oper) (ci m:Nat) (t:Tm) (s:St) (K:Tm->St->Prop) (X:T->Tm->St->Prop):Prop:=
 J7 D Γ n ops (ops.toList.take ci) [] t s fun acc t s=>match ops[ci]? with
  | some o=>match o.guard,Wm acc,qk5 ops ci (acc++[wz o t s]) (qqI ops.toList [])with
   | none,true,true=>jT D Γ' o.op (ev t) (qI (yn o.op (ev t) s) 0 s)
    (fun v s'=>match decide (s'.length=s.length)with
     | true=>Fin n t o.dst v (fun t2 s2=>J7 D Γ n ops ((ops.toList.drop (ci+1)).take (m- (ci+1))) (acc++[wz o t s]) t2 s2 fun tab t s=>match vL ops 0 0 tab with
      | true=>Qk D Γ' n ops (ops.toList.drop m) t s K X
      | false=>False) (back (yn o.op (ev t) s) 0 s s')
     | false=>False)
    fun u s'=>match decide (s'.length=s.length)with
     | true=> ∀t':Tm,X u t' (back (yn o.op (ev t) s) 0 s s')
     | false=>False
   | _,_,_=>False
  | none=>False
section
variable {P:Program} [Bd P] {D:TD} {Γ:Qy} {mu:FuncId->Bool} {g g':G P} {s st st':St} {w w':World} {n base top:Nat} {b0:B0} {t:Tm} {a:Act} {ops:Array Oper} {tab:List Row}
theorem Xn {d:Nat} {v:T} (h:get t d=v):get (put t d v)=get t:=by
 funext i
 rw [yj];by_cases e:i=d
 . subst e;rw [if_pos rfl,h]
 . rw [if_neg e]
theorem J3 {o:Oper} {A B:Tm->Prop} (h:yb (Ys ops o.guard) t A B): ∃t1,get t1=get t/\((gdF ops o.guard (get t)=some true/\A t1)∨(gdF ops o.guard (get t)=some false/\B t1)):=by
 unfold gdF;unfold yb at h;split at h
 . rename_i hg;exact ⟨t,rfl,.inl ⟨by first | rw [hg] | rfl,h⟩⟩
 . rename_i d want hg;try rw [hg]
   try simp only
   split at h
   . rename_i b hb;try rw [hb]
     cases want<;>cases b<;>simp only [Jae,Jaf] at h
     . exact ⟨_,Xn hb,.inl ⟨rfl,h⟩⟩
     . exact ⟨_,Xn hb,.inr ⟨rfl,h⟩⟩
     . exact ⟨_,Xn hb,.inr ⟨rfl,h⟩⟩
     . exact ⟨_,Xn hb,.inl ⟨rfl,h⟩⟩
   . rename_i vs hb;try rw [hb]
     exact ⟨t,rfl,.inr ⟨rfl,h⟩⟩
   . exact h.elim
 . exact h.elim
theorem QQ {dst:Option Tmp} {v:T} {K:Tm->St->Prop} (h:Fin n t dst v K s): ∃t',K t' s/\get t'=wu (get t) dst v/\ ∀d,dst=some d->d<n:=by
 unfold Fin at h;cases dst with
 | none=>exact ⟨t,h,rfl,by simp⟩
 | some d=>
  simp only at h;split at h
  . rename_i hd;exact ⟨_,h,by funext i;rw [yj];rfl,by rintro _ ⟨⟩;exact Jac hd⟩
  . exact h.elim
theorem Kj (hΓ:wl mu Γ) {op:Op} {row:Row} {K:Kn} (hw:row.wr=qvz mu op (ev t)) (h:jT D Γ op (ev t) (qI row.vis 0 s) (fun v s'=>Vj row s v s' K) noX): ∃v s1,Eff D Γ row op (get t) s v s1/\K v s1:=by
 obtain ⟨v',s',h1,h2,h3⟩:=qny hΓ h;rw [qxD] at h2;rcases h3 with rfl | ⟨o,rfl⟩ | ⟨h3,h4⟩
 . unfold Vj at h1;rw [zZ,Jaa rfl,qq6] at h1;exact ⟨v',s,⟨v',_,h2,.inl ⟨rfl,rfl,rfl⟩⟩,h1⟩
 . unfold Vj at h1;rw [Jab (by simp [zZ])] at h1
   simp only at h1;split at h1
   . rename_i p o' hp ho;have:(qI row.vis 0 s++[some o])[s.length]? =some (some o):=by rw [Jas (by rw [zZ];exact Jam _),zZ];simp
     rw [qc.2 this] at ho;simp only [Jah] at ho;subst ho;exact ⟨_,_,⟨v',_,h2,.inr (.inr ⟨o,p,rfl,hp,rfl,rfl⟩)⟩,h1⟩
   . exact h1.elim
 . rw [zZ] at h4;unfold Vj at h1;rw [Jaa h4] at h1;exact ⟨v',_,⟨v',s',h2,.inr (.inl ⟨by rw [hw];exact h3,h4,rfl,rfl⟩)⟩,h1⟩
theorem Ja (hΓ:wl mu Γ): ∀(l:List Oper) (c:Nat) (acc:List Row) (t:Tm) (s:St) (K:Tm->St->Prop),(∀(j:Nat) (o:Oper),l[j]? =some o->ops[acc.length+j]? =some o)->Yh D Γ mu n ops base top l c acc t s K->
  ∃rows t' s',rows.length=l.length/\vL ops base top (acc.reverse++rows)=true/\K t' s'/\Run D Γ n ops (acc.reverse++rows) (List.range' acc.length l.length) (get t) s (get t') s'
 | [],c,acc,t,s,K,_,h=>by
  simp only [Yh] at h;split at h
  . rename_i hd;exact ⟨[],t,s,rfl,by simpa using hd,h,by simp [Run]⟩
  . exact h.elim
 | o::r,c,acc,t,s,K,ho,h=>by
  have h0:ops[acc.length]? =some o:=by simpa using ho 0 o rfl
  have next: ∀(row:Row) c' t1 s1,Yh D Γ mu n ops base top r c' (row::acc) t1 s1 K-> ∃rows t' s',rows.length=r.length/\vL ops base top (acc.reverse++(row::rows))=true/\K t' s'/\Run D Γ n ops (acc.reverse++(row::rows)) (List.range' (acc.length+1) r.length) (get t1) s1 (get t') s':=fun row c' t1 s1 h1=>by
   obtain ⟨rows,t',s',k0,k1,k2,k3⟩:=Ja hΓ r c' (row::acc) t1 s1 K (fun j o hj=>by
    have:=ho (j+1) o (by simpa using hj)
    rwa [show acc.length+(j+1)=(row::acc).length+j by simp;omega] at this) h1
   simp only [List.reverse_cons,Jat,List.singleton_append,Jaj] at k1 k3;exact ⟨rows,t',s',k0,k1,k2,k3⟩
  have hrow: ∀(row:Row) rows,(acc.reverse++(row::rows))[acc.length]? =some row:=fun row rows=>by
   rw [Jas (by simp)];simp
  simp only [Yh] at h;obtain ⟨t1,e1,h⟩:=J3 h;rw [Jaj,List.range'_succ];rcases h with ⟨hb,h⟩ | ⟨hb,h⟩
  . obtain ⟨v,s1,h1,h2⟩:=Kj (row:=qzJ mu o.op (ev t1) s c) hΓ rfl h;obtain ⟨t2,k1,k2,k3⟩:=QQ h2;obtain ⟨rows,t',s',q0,q1,q2,q3⟩:=next (qzJ mu o.op (ev t1) s c) _ _ _ k1;refine ⟨qzJ mu o.op (ev t1) s c::rows,t',s',by simp [q0],q1,q2,get t2,s1,⟨o,qzJ mu o.op (ev t1) s c,h0,hrow _ _,k3,.inl ⟨hb,v, ?_, ?_⟩⟩,q3⟩
    . rw [<- e1];exact h1
    . rw [k2,e1]
  . obtain ⟨t2,k1,k2,k3⟩:=QQ h;obtain ⟨rows,t',s',q0,q1,q2,q3⟩:=next _ _ _ _ k1;exact ⟨_::rows,t',s',by simp [q0],q1,q2,get t2,s,⟨o,_,h0,hrow _ _,k3,.inr ⟨hb,by rw [k2,e1],rfl⟩⟩,q3⟩
def qcl (g:G P) (s:St) (p:Nat):Prop:=s[p]? =some none/\ ∀v,g.ob p v=none
theorem RelT.dst {o:Oper} {v:T} {x:Value} (ht:RelT g n t a) (hx:R g v x) (hd: ∀d,o.dst=some d->d<n): ∃t',get t'=wu (get t) o.dst v/\RelT g n t' (a.put o.dst x):=by
 cases h:o.dst with
 | none=>exact ⟨t,rfl,ht⟩
 | some d=>exact ⟨Go.Proofs.YtbglndogddddoaaGreatDoor.put t d v,by funext i;rw [yj];rfl,ht.put (hd d h) hx⟩
theorem Vy {o:Oper} {b:Bool} (ht:RelT g n t a) (h:gdF ops o.guard (get t)=some b):Region.wanted o (yielded ops a.tmps)=b:=by
 have:yb (Ys ops o.guard) t (fun _=>b=true) (fun _=>b=false):=by
  unfold gdF at h;unfold yb;cases hg:Ys ops o.guard with
  | none=>rw [hg] at h;cases h
  | some x=>
   rw [hg] at h;cases x with
   | none=>
    simp only [Jah] at h;exact h.symm
   | some p=>
    obtain ⟨d,want⟩:=p;simp only at h ⊢;generalize get t d=gv at h ⊢;split at h
    . rename_i b';simp only [Jah] at h;subst h;cases want<;>cases b'<;>simp
    . simp only [Jah] at h;exact h.symm
    . cases h
 rcases xL ht this with ⟨_,_,e,hw⟩ | ⟨_,_,e,hw⟩
 . rw [hw,e]
 . rw [hw,e]
theorem qzD (hD:zY P D) (hΓ:jV P Γ) {ro:Option Nat} {Q:Exit->Act->World->Prop} {K:Act->World->Prop} {i:Nat} {τ':Nat->T} (hg:Good g st w) (ht:RelT g n t a) (h:Stp D Γ n ops tab i (get t) st τ' st') (hown: ∀row p,tab[i]? =some row->row.own=some p->qcl g st p)
  (hK: ∀g' t' w' a',get t'=τ'->Good g' st' w'->RelT g' n t' a'->g.le g'->(∀b0,Step b0 g st w g' st' w')->(∀k,qcl g st k->(∀row,tab[i]? =some row->row.own≠some k)->qcl g' st' k)->K a' w'):wpOpIn (WF ro) 0 P ops Q i K a w:=by
 obtain ⟨o,row,h1,hrow,h3,h4⟩:=h;unfold wpOpIn;simp only [h1];rcases h4 with ⟨hb,v,he,rfl⟩ | ⟨hb,rfl,rfl⟩
 . rw [if_pos (Vy ht hb)];obtain ⟨v',s',k1,k2⟩:=he;rw [<- qxD] at k1;refine yP hD hΓ (qzc hg) ht (k1 (fun v s=>v=v'/\s=s') ⟨rfl,rfl⟩) ro K Q (fun v2 s2 x g2 w2 hk g2ok l2 st2 r2=> ?_) (fun _ _ _ _ _ hx=>hx.elim)
   obtain ⟨rfl,rfl⟩:=hk;have hback: ∀(hl:s2.length=st.length),(v=v2/\st'=back row.vis 0 st s2)->K (a.put o.dst x) w2:=by
    rintro hl ⟨rfl,rfl⟩;obtain ⟨q1,q2,q3⟩:=X2 hg g2ok st2 l2 hl;obtain ⟨t',e1,e2⟩:=(ht.mono q3.le).dst (o:=o) r2 h3;refine hK g2 t' w2 _ e1 q1 e2 q3.le q2 fun k hk _=> ?_
    have hob: ∀u,g2.ob k u=none:=fun u=>by rw [q3.hid k u hk.1];exact hk.2 u
    refine ⟨?_,hob⟩;have hkl:k< (back row.vis 0 st s2).length:=by rw [jM];exact (Jai.1 hk.1).1
    rw [Jao hkl];cases hc:(back row.vis 0 st s2)[k] with
    | none=>rfl
    | some o2=>
     obtain ⟨oi,hoi,_⟩:=q1.obj k o2 (by rw [Jao hkl,hc])
     rw [hob] at hoi;cases hoi
   rcases k2 with ⟨rfl,rfl,rfl⟩ | ⟨_,a2,rfl,rfl⟩ | ⟨ob,p,rfl,a2,rfl,rfl⟩
   . exact hback zZ ⟨rfl,qq6.symm⟩
   . exact hback a2 ⟨rfl,rfl⟩
   . obtain ⟨f1,f2⟩:=hown row p hrow a2;obtain ⟨q1,q2,q3,q4,q5⟩:=qY3 hg g2ok st2 l2 f1 f2;obtain ⟨t',e1,e2⟩:=(ht.mono q3).dst (o:=o) (q5 _ _ r2) h3;refine hK _ t' w2 _ e1 q1 e2 q3 q2 fun k hk hne=> ?_
     have hkp:k≠p:=fun e=>hne row hrow (by rw [a2,e])
     exact ⟨by rw [List.getElem?_set,if_neg (Ne.symm hkp)];exact hk.1,fun u=>by rw [q4 k u hk.1 hkp];exact hk.2 u⟩
 . rw [if_neg (by rw [Vy ht hb];simp)]
   obtain ⟨t',q1,q2⟩:=ht.dst (o:=o) (R.cst Go.undef) h3;exact ⟨fun _ _=>trivial,hK g t' w _ q1 hg q2 (G.le_refl g) (fun _=>Step.refl) fun k hk _=>hk⟩
def left (m:Nat) (listed:Array Bool):List Nat:=(List.range m).filter fun i=> !listed.getD i true
theorem qvU {m:Nat} {listed:Array Bool} {i:Nat} (hs:i<listed.size) (hi:i<m) (hn:listed.getD i true=false): ∃r1 r2,left m listed=r1++i::r2/\left m (listed.setIfInBounds i true)=r1++r2/\ ∀j∈r1,j<i/\listed.getD j true=false:=by
 unfold left;have hsplit:List.range m=List.range i++i::List.range' (i+1) (m- (i+1)):=by
  rw [List.range_eq_range',List.range_eq_range'];have h1:List.range' 0 m=List.range' 0 i++List.range' i (m-i):=by
   have:=(List.range'_append_1 (s:=0) (m:=i) (n:=m-i)).symm;rw [Jbj,show i+(m-i)=m by omega] at this
   exact this
  rw [h1,show m-i=(m- (i+1))+1 by omega,List.range'_succ]
 have hset: ∀j,j≠i->(listed.setIfInBounds i true).getD j true=listed.getD j true:=fun j hj=>by
  simp [Ja6,Ne.symm hj]
 refine ⟨(List.range i).filter fun j=> !listed.getD j true,(List.range' (i+1) (m- (i+1))).filter fun j=> !listed.getD j true, ?_, ?_,fun j hj=> ?_⟩
 . rw [hsplit,List.filter_append,List.filter_cons,if_pos (by simp [hn])]
 . rw [hsplit,List.filter_append,List.filter_cons,if_neg (by simp [Ja6,hs])]
   congr 1
   . exact List.filter_congr fun j hj=>by rw [hset j (by have:=Jbp.1 hj;omega)]
   . exact List.filter_congr fun j hj=>by rw [hset j (by have:=List.mem_range'_1.1 hj;omega)]
 . obtain ⟨h1,h2⟩:=List.mem_filter.1 hj;exact ⟨Jbp.1 h1,by simpa using h2⟩
theorem qzj (hD:zY P D) (hΓ:jV P Γ) {ro:Option Nat} {Q:Exit->Act->World->Prop} (hk:vL ops base top tab=true) {τf:Nat->T} {stf:St}: ∀(fuel:Nat) (listed:Array Bool) (g:G P) (w:World) (a:Act) (t:Tm) (st:St),listed.size=ops.size->xn ops listed->fuel=(left tab.length listed).length->
  (∀j,tab.length<=j->j<ops.size->listed.getD j true=false)->
  Run D Γ n ops tab (left tab.length listed) (get t) st τf stf->Good g st w->RelT g n t a->(∀i∈left tab.length listed, ∀row p,tab[i]? =some row->row.own=some p->qcl g st p)->
  (∀g' t' w' a' (listed':Array Bool),listed'.size=ops.size->xn ops listed'->(∀j,j<tab.length->listed'.getD j true=true)->(∀j,tab.length<=j->j<ops.size->listed'.getD j true=false)->get t'=τf->Good g' stf w'->RelT g' n t' a'->(∀b0,Step b0 g st w g' stf w')->wpAnyIn (WF ro) 0 P .any ops Q (ops.size-tab.length) listed' a' w')->
  wpAnyIn (WF ro) 0 P .any ops Q (fuel+(ops.size-tab.length)) listed a w:=by
 simp only [vL,Jaq] at hk;obtain ⟨⟨hk1,hk2⟩,hk3⟩:=hk;have hk1:=Jag hk1;obtain ⟨hin,hinj⟩:=Wg hk2;generalize qqI ops.toList []=W at hk3;have hk': ∀(i:Nat) (y:Oper),ops[i]? =some y->(∀e∈y.after,Region.binds .any e=true->e.on<i)/\W[i]? =some (orr W y.after.toList)/\(∀q,tab[i]? =some q-> ∀j,j<i->(orr W y.after.toList).testBit j=true∨ ∀(x:Oper) (p:Row),ops[j]? =some x->tab[j]? =some p->Ze ops x y p q=true)/\
   (tab[i]? =none-> ∀j,j<i->(orr W y.after.toList).testBit j=true):=by
  intro i y hy;have:=Jbu.1 hk3 i (Jbp.2 (Jar.1 hy).1);rw [hy] at this;split at this
  . rename_i y' b hy' hb;simp only [Jah] at hy';subst hy';simp only [Jaq,beq_iff_eq] at this;obtain ⟨⟨h1,h2⟩,h3⟩:=this;refine ⟨fun e he hbi=> ?_,by rw [hb,h2],fun q hq j hj=> ?_,fun hn j hj=> ?_⟩
    . have h4:=Array.all_eq_true'.1 h1 e he;rw [hbi] at h4;exact Jag h4
    . rw [hq] at h3;have h4:=Jbu.1 h3 j (Jbp.2 hj);simp only [Bool.or_eq_true] at h4;rw [h2];rcases h4 with h4 | h4
      . exact .inl h4
      . exact .inr fun x p hx hp=>by rw [hx,hp] at h4;exact h4
    . rw [hn] at h3;rw [h2];exact Jbu.1 h3 j (Jbp.2 hj)
  . cases this
 have hun: ∀(listed:Array Bool) j,listed.size=ops.size->j<ops.size->listed.getD j true=false->listed.getD j false=false:=fun listed j hs hj h=>by
  have hsz:j<listed.size:=by omega
  simp [hsz] at h ⊢;exact h
 intro fuel;induction fuel with
 | zero=>
  intro listed g w a t st hs hc hf hm hrun hg ht hfree hq;have hnil:left tab.length listed=[]:=Jan hf.symm;rw [hnil] at hrun;obtain ⟨e1,e2⟩:=hrun;subst e2;rw [Jbj];refine hq g t w a listed hs hc (fun j hj=> ?_) hm e1 hg ht fun _=>Step.refl
  cases hl:listed.getD j true with
  | true=>rfl
  | false=>
   have:j∈left tab.length listed:=List.mem_filter.2 ⟨Jbp.2 hj,by simpa using hl⟩
   rw [hnil] at this;cases this
 | succ fuel ih=>
  intro listed g w a t st hs hc hf hm hrun hg ht hfree hq;rw [show fuel+1+(ops.size-tab.length)=(fuel+(ops.size-tab.length))+1 by omega]
  refine ⟨fun hr=> ?_,fun i hi=> ?_⟩
  . -- the first of those left is ready
    exfalso;cases hl:left tab.length listed with
    | nil=>rw [hl] at hf;simp at hf
    | cons i r=>
     have hi:i∈left tab.length listed:=by rw [hl];simp
     obtain ⟨h1,h2⟩:=List.mem_filter.1 hi;have hlt:=Jbp.1 h1;have hlt:i<ops.size:=by omega
     have ho:ops[i]? =some ops[i]:=Jaw hlt;have hsorted:(left tab.length listed).Pairwise (· < ·):=List.Pairwise.filter _ List.pairwise_lt_range;have hfirst: ∀j,j<i->listed.getD j true=true:=by
      intro j hj;cases hjl:listed.getD j true with
      | true=>rfl
      | false=>
       exfalso;have:j∈left tab.length listed:=List.mem_filter.2 ⟨Jbp.2 (by have:=Jbp.1 h1;omega),by simpa using hjl⟩
       rw [hl] at this hsorted;rcases Jbf.1 this with h | h
       . omega
       . have:=List.rel_of_pairwise_cons hsorted h;omega
     obtain ⟨hq2,_⟩:=hk' i _ ho;have:i∈Region.ready .any ops listed:=mem_ready.2 ⟨by simpa using h2,ops[i],ho,fun e he hb=>by
      have hlt':=hq2 e he hb;have:=hfirst e.on hlt';have hsz:e.on<listed.size:=by omega
      simp [hsz] at this ⊢;exact this⟩
     rw [hr] at this;cases this
  . obtain ⟨h1,o,h2,h3⟩:=mem_ready.1 hi;have hlt:=(Jar.1 h2).1;obtain ⟨hq2,hq3,hq4,hq5⟩:=hk' i o h2;have hbl:=yg (W:=W) hc (fun i y hy=>by obtain ⟨z1,z2,_⟩:=hk' i y hy;exact ⟨z1,z2⟩) i o
    have hltm:i<tab.length:=by
     refine Nat.lt_of_not_le fun hle=> ?_
     obtain ⟨j,hj⟩: ∃j,j∈left tab.length listed:=by
      cases hl:left tab.length listed with
      | nil=>rw [hl] at hf;simp at hf
      | cons j r=>exact ⟨j,by simp⟩
     obtain ⟨j1,j2⟩:=List.mem_filter.1 hj;have j1:=Jbp.1 j1;have:=hbl j h2 h3 (hq5 (Ja0 (by omega)) j (by omega))
     rw [hun listed j hs (by omega) (by simpa using j2)] at this
     cases this
    obtain ⟨q,hq1⟩: ∃q,tab[i]? =some q:=⟨_,Jao hltm⟩;obtain ⟨r1,r2,e1,e2,e3⟩:=qvU (by omega) hltm h1
    have himem:i∈left tab.length listed:=by rw [e1];simp
    have hnotin:i ∉ r1++r2:=by
     have hnd:(left tab.length listed).Nodup:=List.nodup_range.filter _;rw [e1] at hnd;intro h;have:=List.nodup_append.1 hnd;rcases Jbr.1 h with h | h
     . exact this.2.2 i h i (by simp) rfl
     . exact (List.nodup_cons.1 this.2.1).1 h
    rw [e1] at hrun;obtain ⟨τ1,st1,s1,s2⟩:=Yg r1 (fun j hj x y p q' hx hy hp hq'=>by
     obtain ⟨hj1,hj2⟩:=e3 j hj;rw [h2] at hy;injection hy with hy;subst hy;rw [hq1] at hq';injection hq' with hq';subst hq';rcases hq4 q hq1 j hj1 with h | h
     . have:=hbl j h2 h3 h;rw [hun listed j hs (by omega) hj2] at this
       cases this
     . exact h x p hx hp) hrun
    refine qzD hD hΓ hg ht s1 (fun row p hr hp=>hfree i himem row p hr hp) fun g' t' w' a' g0 g1 r1' _ st' fr'=> ?_
    refine ih (listed.setIfInBounds i true) g' w' a' t' st1 (by simpa using hs) (hc.set hi) ?_ (fun j hj hj2=> ?_) ?_ g1 r1' (fun j hj row p hr hp=> ?_) fun g2 t2 w2 a2 l2 z1 z2 z3 z4 k1 k2 k3 k4=>hq g2 t2 w2 a2 l2 z1 z2 z3 z4 k1 k2 k3 fun b0=>(st' b0).trans (k4 b0)
    . rw [e1] at hf;rw [e2];simp at hf ⊢;omega
    . have hne:i≠j:=by omega
      have:=hm j hj hj2;simp only [Jbb,Ja6,if_neg hne] at this ⊢;exact this
    . rw [e2,g0];exact s2
    . rw [e2] at hj;have hj':j∈left tab.length listed:=by
       rw [e1];rcases Jbr.1 hj with h | h
       . simp [h]
       . simp [h]
      refine fr' p (hfree j hj' row p hr hp) fun row' hr' hp'=> ?_
      have:=hinj j i row row' p hr hr' hp hp';subst this;exact hnotin hj
theorem KS (hD:zY P D) (hΓ:jV P Γ) {ro:Option Nat} {Q':Exit->Act->World->Prop} {Q:Kc} (hk:vL ops base top tab=true): ∀(l:List Oper) (listed:Array Bool) (g:G P) (st:St) (w:World) (t:Tm) (a:Act),tab.length+l.length<=tab.length+ops.size->ops.toList.drop (ops.size-l.length)=l->tab.length<=ops.size-l.length->listed.size=ops.size->xn ops listed->
  (∀j,j<ops.size-l.length->listed.getD j true=true)->(∀j,ops.size-l.length<=j->j<ops.size->listed.getD j true=false)->Good g st w->RelT g n t a->Qk D Γ n ops l t st (Q .normal) (fun v=>Q (.pan v))->
  (∀e a' w',Z0 n b0 Q g st w e a' w'->Q' e a' w')->wpAnyIn (WF ro) 0 P .any ops Q' l.length listed a w:=by
 simp only [vL,Jaq] at hk;obtain ⟨⟨hk1,hk2⟩,hk3⟩:=hk;generalize qqI ops.toList []=W at hk3;have hk': ∀(i:Nat) (y:Oper),ops[i]? =some y->(∀e∈y.after,Region.binds .any e=true->e.on<i)/\W[i]? =some (orr W y.after.toList)/\(tab[i]? =none-> ∀j,j<i->(orr W y.after.toList).testBit j=true):=by
  intro i y hy;have:=Jbu.1 hk3 i (Jbp.2 (Jar.1 hy).1);rw [hy] at this;split at this
  . rename_i y' b hy' hb;simp only [Jah] at hy';subst hy';simp only [Jaq,beq_iff_eq] at this;obtain ⟨⟨h1,h2⟩,h3⟩:=this;refine ⟨fun e he hbi=> ?_,by rw [hb,h2],fun hn j hj=> ?_⟩
    . have h4:=Array.all_eq_true'.1 h1 e he;rw [hbi] at h4;exact Jag h4
    . rw [hn] at h3;rw [h2];exact Jbu.1 h3 j (Jbp.2 hj)
  . cases this
 intro l;induction l with
 | nil=>
  intro listed g st w t a hle hl htab hs hc h1 h2 hg ht h hq;refine ⟨?_,hq _ _ _ ⟨.normal,g,t,st,h,trivial,hg,ht,Step.refl⟩⟩;cases hr:Region.ready .any ops listed with
  | nil=>rfl
  | cons i r=>
   have hi:i∈Region.ready .any ops listed:=by rw [hr];simp
   obtain ⟨q1,o,q2,_⟩:=mem_ready.1 hi;have:=h1 i (by simpa using (Jar.1 q2).1)
   rw [q1] at this;cases this
 | cons o r ih=>
  intro listed g st w t a hle hl htab hs hc h1 h2 hg ht h hq;simp only [Jaj] at hle hl htab h1 h2 ⊢;obtain ⟨m,hm⟩: ∃m,m=ops.size- (r.length+1):=⟨_,rfl⟩;rw [<- hm] at hl htab h1 h2;have hlt:m<ops.size:=by omega
  have hm':ops.size-r.length=m+1:=by omega
  have ho:ops[m]? =some o:=by
   have:=congrArg (·[0]?) hl;simp only [Jbo,Jcg,Jbh,Jbz] at this;exact this
  have hr':ops.toList.drop (m+1)=r:=by
   rw [<- List.drop_drop,Nat.add_comm] at *;first
    | (rw [<- List.drop_drop,hl];rfl)
    | (have:=congrArg (List.drop 1) hl;simpa [List.drop_drop,Nat.add_comm] using this)
  obtain ⟨hq2,hq3,hq5⟩:=hk' m o ho;have hready: ∀i,i∈Region.ready .any ops listed->i=m:=fun i hi=>by
   obtain ⟨p1,y,p2,p3⟩:=mem_ready.1 hi;have hilt:=(Jar.1 p2).1;have hge:m<=i:=Nat.le_of_not_lt fun hlt'=>by
    have:=h1 i hlt';rw [p1] at this;cases this
   rcases Nat.lt_or_eq_of_le hge with hlt' | e
   . have hbl:=yg (W:=W) hc (fun i y hy=>by obtain ⟨z1,z2,_⟩:=hk' i y hy;exact ⟨z1,z2⟩) i y m p2 p3 ((hk' i y p2).2.2 (Ja0 (by omega)) m hlt')
     have hsz:m<listed.size:=by omega
     have:=h2 m (Jam _) hlt;simp [hsz] at this hbl;rw [this] at hbl;cases hbl
   . exact e.symm
  refine ⟨fun hnil=> ?_,fun i hi=> ?_⟩
  . exfalso;have:m∈Region.ready .any ops listed:=mem_ready.2 ⟨h2 m (Jam _) hlt,o,ho,fun e he hb=>by
     have hlt':=hq2 e he hb;have:=h1 e.on hlt';have hsz:e.on<listed.size:=by omega
     simp [hsz] at this ⊢;exact this⟩
    rw [hnil] at this;cases this
  . obtain rfl:=hready i hi;have hset1: ∀j,j<i+1->(listed.setIfInBounds i true).getD j true=true:=fun j hj=>by
     simp only [Jbb,Ja6];by_cases e:i=j
     . subst e;rw [if_pos rfl,if_pos (by omega)];rfl
     . rw [if_neg e];have:=h1 j (by omega)
       simpa [Jbb] using this
    have hset2: ∀j,i+1<=j->j<ops.size->(listed.setIfInBounds i true).getD j true=false:=fun j hj hj2=>by
     simp only [Jbb,Ja6];rw [if_neg (by omega)]
     have:=h2 j (by omega) hj2
     simpa [Jbb] using this
    unfold Qk at h;unfold wpOpIn;simp only [ho];rcases xL ht h with ⟨t1,ht1,h,hw⟩ | ⟨t1,ht1,h,hw⟩
    . rw [if_pos hw];refine kF hD hΓ hg ht1 h ro _ _ (fun v s1 x g' w' hk g1 l1 s1 r1=> ?_) (fun u s' v g' w' hx g1 l1 s1 r1=>hq _ _ _ ⟨.pan u,g',t1,s',hx,⟨v,rfl,r1⟩,g1,ht1.mono l1.le,s1 b0⟩)
      obtain ⟨t2,k1,k2⟩:=(ht1.mono l1.le).fin r1 hk;exact ih (listed.setIfInBounds i true) g' _ w' t2 _ (by omega) (by rw [hm'];exact hr') (by omega) (by simpa using hs) (hc.set hi) (by rw [hm'];exact hset1) (by rw [hm'];exact hset2) g1 k2 k1 fun e a' w' hl=>hq e a' w' (hl.trans (s1 b0))
    . rw [if_neg (by rw [hw];simp)]
      obtain ⟨t2,k1,k2⟩:=ht1.fin (o:=o) (R.cst Go.undef) h;exact ⟨fun _ _=>trivial,ih (listed.setIfInBounds i true) g st w t2 _ (by omega) (by rw [hm'];exact hr') (by omega) (by simpa using hs) (hc.set hi) (by rw [hm'];exact hset1) (by rw [hm'];exact hset2) hg k2 k1 hq⟩
theorem qQi {D:TD} {Γ:Qy} {tab tab':List Row}: ∀{l:List Nat} {τ τ':Nat->T} {s s':St},(∀i∈l, ∀r,tab[i]? =some r->tab'[i]? =some r)->Run D Γ n ops tab l τ s τ' s'->Run D Γ n ops tab' l τ s τ' s'
 | [],_,_,_,_,_,h=>h
 | i::l,τ,τ',s,s',hi,h=>by
  obtain ⟨τ1,s1,⟨o,row,k1,k2,k3⟩,h2⟩:=h;exact ⟨τ1,s1,⟨o,row,k1,hi i (by simp) row k2,k3⟩,qQi (fun j hj=>hi j (by simp [hj])) h2⟩
theorem qQo {D:TD} {Γ:Qy} {tab:List Row}: ∀{l m:List Nat} {τ τ1 τ':Nat->T} {s s1 s':St},Run D Γ n ops tab l τ s τ1 s1->Run D Γ n ops tab m τ1 s1 τ' s'->Run D Γ n ops tab (l++m) τ s τ' s'
 | [],_,_,_,_,_,_,_,h,k=>by obtain ⟨e1,e2⟩:=h;subst e1;subst e2;exact k
 | i::l,m,_,_,_,_,_,_,⟨τ2,s2,h1,h2⟩,k=>⟨τ2,s2,h1,qQo h2 k⟩
theorem ki (hΓ:wl (fun _=>false) Γ): ∀(l:List Oper) (acc:List Row) (t:Tm) (s:St) (K:List Row->Tm->St->Prop),(∀(j:Nat) (o:Oper),l[j]? =some o->ops[acc.length+j]? =some o)->(∀r∈acc,r.own=none)->J7 D Γ n ops l acc t s K->
  ∃rows t' s',rows.length=l.length/\(∀r∈rows,r.own=none)/\K (acc++rows) t' s'/\ ∀ext,Run D Γ n ops (acc++rows++ext) (List.range' acc.length l.length) (get t) s (get t') s'
 | [],acc,t,s,K,_,_,h=>⟨[],t,s,rfl,by simp,by simpa [J7] using h,fun _=>by simp [Run]⟩
 | o::r,acc,t,s,K,ho,hn,h=>by
  have h0:ops[acc.length]? =some o:=by simpa using ho 0 o rfl
  have next: ∀(row:Row),row.own=none-> ∀t1 s1,J7 D Γ n ops r (acc++[row]) t1 s1 K-> ∃rows t' s',rows.length=r.length/\(∀r∈rows,r.own=none)/\K (acc++(row::rows)) t' s'/\ ∀ext,Run D Γ n ops (acc++(row::rows)++ext) (List.range' (acc.length+1) r.length) (get t1) s1 (get t') s':=fun row hrow t1 s1 h1=>by
   obtain ⟨rows,t',s',k0,k1,k2,k3⟩:=ki hΓ r (acc++[row]) t1 s1 K (fun j o hj=>by
    have:=ho (j+1) o (by simpa using hj)
    rwa [show acc.length+(j+1)=(acc++[row]).length+j by simp;omega] at this) (fun q hq=>by
     rcases Jbr.1 hq with hq | hq
     . exact hn q hq
     . simp at hq;subst hq;exact hrow) h1
   simp only [Jat,List.singleton_append,Jak,Jaj,Ja1,Jbj] at k2 k3;exact ⟨rows,t',s',k0,k1,k2,fun ext=>by simpa using k3 ext⟩
  have hrow: ∀(row:Row) rows ext,(acc++(row::rows)++ext)[acc.length]? =some row:=fun row rows ext=>by
   rw [Jat,Jas (by simp)];simp
  simp only [J7] at h;obtain ⟨t1,e1,h⟩:=J3 h;rw [Jaj,List.range'_succ];rcases h with ⟨hb,h⟩ | ⟨hb,h⟩
  . obtain ⟨v,s1,h1,h2⟩:=Kj (row:=⟨yn o.op (ev t1) s,qvz (fun _=>false) o.op (ev t1),none⟩) hΓ rfl h
    obtain ⟨t2,k1,k2,k3⟩:=QQ h2;obtain ⟨rows,t',s',q0,q1,q2,q3⟩:=next _ rfl _ _ k1;refine ⟨_::rows,t',s',by simp [q0],fun r hr=> ?_,q2,fun ext=>⟨get t2,s1,⟨o,_,h0,hrow _ _ _,k3,.inl ⟨hb,v, ?_, ?_⟩⟩,q3 ext⟩⟩
    . rcases Jbf.1 hr with rfl | hr
      . rfl
      . exact q1 r hr
    . rw [<- e1];exact h1
    . rw [k2,e1]
  . obtain ⟨t2,k1,k2,k3⟩:=QQ h;obtain ⟨rows,t',s',q0,q1,q2,q3⟩:=next ⟨0,false,none⟩ rfl _ _ k1;refine ⟨_::rows,t',s',by simp [q0],fun r hr=> ?_,q2,fun ext=>⟨get t2,s,⟨o,_,h0,hrow _ _ _,k3,.inr ⟨hb,by rw [k2,e1],rfl⟩⟩,q3 ext⟩⟩
    rcases Jbf.1 hr with rfl | hr
    . rfl
    . exact q1 r hr
theorem Vu: ∀{l:List Row},Wm l=true-> ∀r∈l,r.wr=false
 | [],_,r,h=>by cases h
 | a::l,h,r,hr=>by
  simp only [Wm] at h;split at h
  . cases h
  . rename_i ha;rcases Jbf.1 hr with rfl | hr
    . exact ha
    . exact Vu h r hr
theorem qv2 {y:Oper} {q:Row} (hq:q.wr=true): ∀{l:List Nat} {τ τ':Nat->T} {s s':St},(∀j∈l, ∀x p,ops[j]? =some x->tab[j]? =some p->Ze ops x y p q=true/\p.wr=false/\p.own=none)->Run D Γ n ops tab l τ s τ' s'->
  s'=s/\(∀z∈y.op.operands,evF τ' z=evF τ z)/\ ∀v s'',s''.length=s.length->Run D Γ n ops tab l (wu τ y.dst v) (back q.vis 0 s s'') (wu τ' y.dst v) (back q.vis 0 s s'')
 | [],τ,τ',s,s',_,h=>by
  obtain ⟨e1,e2⟩:=h;subst e1;subst e2;exact ⟨rfl,fun _ _=>rfl,fun _ _ _=>⟨rfl,rfl⟩⟩
 | j::l,τ,τ',s,s',hi,h=>by
  obtain ⟨τ1,s1,⟨x,p,x1,x2,x3,x4⟩,h2⟩:=h;obtain ⟨hind,hw,ho⟩:=hi j (by simp) x p x1 x2
  obtain ⟨i1,i2,i3,_,_,_,i7⟩:=Z8 hind;have step: ∀u,τ1=wu τ x.dst u->s1=s->(∀v s'',s''.length=s.length->Stp D Γ n ops tab j (wu τ y.dst v) (back q.vis 0 s s'') (wu τ1 y.dst v) (back q.vis 0 s s''))->s'=s/\(∀z∈y.op.operands,evF τ' z=evF τ z)/\ ∀v s'',s''.length=s.length->Run D Γ n ops tab (j::l) (wu τ y.dst v) (back q.vis 0 s s'') (wu τ' y.dst v) (back q.vis 0 s s''):=by
   rintro u rfl rfl k;obtain ⟨e1,e2,e3⟩:=qv2 hq (fun j hj=>hi j (by simp [hj])) h2
   exact ⟨e1,fun z hz=>(e2 z hz).trans (yH i1 z hz),fun v s'' hl=>⟨_,_,k v s'' hl,e3 v s'' hl⟩⟩
  rcases x4 with ⟨gx,u,ex,rfl⟩ | ⟨gx,rfl,rfl⟩
  . rcases y7 ex with ⟨rfl,a⟩ | ⟨pa,oa,a1,_⟩ | ⟨sa,a1,_⟩
    . refine step u rfl rfl fun v s'' hl=>⟨x,p,x1,x2,x3,.inl ⟨by rw [vm i3];exact gx,u,KF (a _ (yG hl (fun i h1 h2=>i7 (.inr hq) i h1 h2))) (yH i3), ?_⟩⟩
      exact wV i2
    . rw [ho] at a1;cases a1
    . rw [hw] at a1;cases a1
  . exact step (.cst Go.undef) rfl rfl fun v s'' hl=>⟨x,p,x1,x2,x3,.inr ⟨by rw [vm i3];exact gx,wV i2,rfl⟩⟩
theorem qXz {ci m:Nat} {listed:Array Bool} (hci:ci<m) (hm:m<=listed.size) (h: ∀j,ci<=j->j<m->listed.getD j true=false):left m (listed.setIfInBounds ci true)=left ci listed++List.range' (ci+1) (m- (ci+1)):=by
 have hset: ∀j,j≠ci->(listed.setIfInBounds ci true).getD j true=listed.getD j true:=fun j hj=>by
  simp [Ja6,Ne.symm hj]
 have hsplit:List.range m=List.range ci++ci::List.range' (ci+1) (m- (ci+1)):=by
  rw [List.range_eq_range',List.range_eq_range'];have h1:List.range' 0 m=List.range' 0 ci++List.range' ci (m-ci):=by
   have:=(List.range'_append_1 (s:=0) (m:=ci) (n:=m-ci)).symm;rw [Jbj,show ci+(m-ci)=m by omega] at this
   exact this
  rw [h1,show m-ci=(m- (ci+1))+1 by omega,List.range'_succ]
 unfold left;rw [hsplit,List.filter_append,List.filter_cons,if_neg (by simp [Ja6,Jcd hci hm])]
 congr 1
 . exact List.filter_congr fun j hj=>by rw [hset j (by have:=Jbp.1 hj;omega)]
 . refine List.filter_eq_self.2 fun j hj=> ?_
   have:=List.mem_range'_1.1 hj;rw [hset j (by omega),h j (by omega) (by omega)]
   rfl
theorem qk9 {Γ':Qy} (hD:zY P D) (hΓ:jV P Γ) (hΓ':jV P Γ') {ro:Option Nat} {Q:Kc} {Q':Exit->Act->World->Prop} {ci m:Nat} {o:Oper} {accA:List Row} {q:Row} {tA:Tm} {sA:St}
  (ho:ops[ci]? =some o) (hgd:o.guard=none) (hqw:q.wr=true) (hqo:q.own=none) (hlen:accA.length=ci) (hcm:ci<m) (hmo:m<=ops.size) (hread: ∀r∈accA,r.wr=false/\r.own=none)
  (hk:qk5 ops ci (accA++[q]) (qqI ops.toList [])=true)
  {Kc Xc:Kn} (hcall:jT D Γ' o.op (ev tA) (qI q.vis 0 sA) Kc Xc)
  (hKc: ∀v s',Kc v s'->s'.length=sA.length/\ ∃(tab:List Row) (tB:Tm) (sB:St),tab.length=m/\(∀r∈tab,r.own=none)/\(∀i,i<ci+1->tab[i]? =(accA++[q])[i]?)/\vL ops 0 0 tab=true/\(∀d,o.dst=some d->d<n)/\
    Run D Γ n ops tab (List.range' (ci+1) (m- (ci+1))) (wu (get tA) o.dst v) (back q.vis 0 sA s') (get tB) sB/\Qk D Γ' n ops (ops.toList.drop m) tB sB (Q .normal) (fun v=>Q (.pan v)))
  (hXc: ∀u s',Xc u s'->s'.length=sA.length/\ ∀t',Q (.pan u) t' (back q.vis 0 sA s')):
  ∀(fuel:Nat) (listed:Array Bool) (g:G P) (w:World) (a:Act) (t:Tm) (st:St),listed.size=ops.size->xn ops listed->fuel=(left ci listed).length->(∀j,ci<=j->j<ops.size->listed.getD j true=false)->Run D Γ n ops (accA++[q]) (left ci listed) (get t) st (get tA) sA->Good g st w->RelT g n t a->
   (∀e a' w',Z0 n b0 Q g st w e a' w'->Q' e a' w')->wpAnyIn (WF ro) 0 P .any ops Q' (fuel+(ops.size-ci)) listed a w:=by
 have hcio:ci<ops.size:=(Jar.1 ho).1;unfold qk5 at hk;generalize qqI ops.toList []=W at hk;have hk': ∀(i:Nat) (y:Oper),ops[i]? =some y->(∀e∈y.after,Region.binds .any e=true->e.on<i)/\W[i]? =some (orr W y.after.toList)/\(i<=ci-> ∀r,(accA++[q])[i]? =some r-> ∀j,j<i->(orr W y.after.toList).testBit j=true∨ ∀(x:Oper) (p:Row),ops[j]? =some x->(accA++[q])[j]? =some p->Ze ops x y p r=true)/\
   (ci<i->(orr W y.after.toList).testBit ci=true):=by
  intro i y hy;have:=Jbu.1 hk i (Jbp.2 (Jar.1 hy).1);rw [hy] at this;split at this
  . rename_i y' b hy' hb;simp only [Jah] at hy';subst hy';simp only [Jaq,beq_iff_eq] at this;obtain ⟨⟨h1,h2⟩,h3⟩:=this;refine ⟨fun e he hbi=> ?_,by rw [hb,h2],fun hle r hr j hj=> ?_,fun hlt=> ?_⟩
    . have h4:=Array.all_eq_true'.1 h1 e he;rw [hbi] at h4;exact Jag h4
    . rw [Nat.ble_eq_true_of_le hle] at h3;simp only [hr] at h3;have h4:=Jbu.1 h3 j (Jbp.2 hj);simp only [Bool.or_eq_true] at h4;rw [h2];rcases h4 with h4 | h4
      . exact .inl h4
      . exact .inr fun x p hx hp=>by rw [hx,hp] at h4;exact h4
    . have hb':Nat.ble i ci=false:=by
       cases hbl:Nat.ble i ci with
       | false=>rfl
       | true=>have:=Jag hbl;omega
      rw [hb'] at h3;rw [h2];exact h3
  . cases this
 have hun: ∀(listed:Array Bool) j,listed.size=ops.size->j<ops.size->listed.getD j true=false->listed.getD j false=false:=fun listed j hs hj h=>by
  have hsz:j<listed.size:=by omega
  simp [hsz] at h ⊢;exact h
 have hedge: ∀(i:Nat) (y:Oper),ops[i]? =some y->(∀e∈y.after,Region.binds .any e=true->e.on<i)/\W[i]? =some (orr W y.after.toList):=fun i y hy=>by obtain ⟨z1,z2,_⟩:=hk' i y hy;exact ⟨z1,z2⟩
 have htabci:(accA++[q])[ci]? =some q:=by rw [Jas (by omega),hlen];simp
 have hrow: ∀j p,j<ci->(accA++[q])[j]? =some p->p.wr=false/\p.own=none:=fun j p hj hp=>by
  rw [Jav (by omega)] at hp
  exact hread p (Ja3 hp)
 intro fuel;induction fuel using Nat.strongRecOn with
 | ind fuel ih=>
  intro listed g w a t st hs hc hf hm hrun hg ht hq;rw [show fuel+(ops.size-ci)=(fuel+(ops.size-ci-1))+1 by omega]
  refine ⟨fun hr=> ?_,fun i hi=> ?_⟩
  . exfalso;obtain ⟨i,hic,hil,hfirst⟩: ∃i,i<=ci/\listed.getD i true=false/\ ∀j,j<i->listed.getD j true=true:=by
     cases hl:left ci listed with
     | nil=>
      refine ⟨ci,Jam _,hm ci (Jam _) hcio,fun j hj=> ?_⟩
      cases hjl:listed.getD j true with
      | true=>rfl
      | false=>
       have:j∈left ci listed:=List.mem_filter.2 ⟨Jbp.2 hj,by simpa using hjl⟩
       rw [hl] at this;cases this
     | cons i r=>
      have hi:i∈left ci listed:=by rw [hl];simp
      obtain ⟨h1,h2⟩:=List.mem_filter.1 hi;have hlt:=Jbp.1 h1;have hsorted:(left ci listed).Pairwise (· < ·):=List.Pairwise.filter _ List.pairwise_lt_range;refine ⟨i,by omega,by simpa using h2,fun j hj=> ?_⟩
      cases hjl:listed.getD j true with
      | true=>rfl
      | false=>
       exfalso;have:j∈left ci listed:=List.mem_filter.2 ⟨Jbp.2 (by omega),by simpa using hjl⟩
       rw [hl] at this hsorted;rcases Jbf.1 this with h | h
       . omega
       . have:=List.rel_of_pairwise_cons hsorted h;omega
    have hlt:i<ops.size:=by omega
    obtain ⟨hq2,_⟩:=hk' i ops[i] (Jaw hlt);have:i∈Region.ready .any ops listed:=mem_ready.2 ⟨hil,ops[i],Jaw hlt,fun e he hb=>by
     have hlt':=hq2 e he hb;have:=hfirst e.on hlt';have hsz:e.on<listed.size:=by omega
     simp [hsz] at this ⊢;exact this⟩
    rw [hr] at this;cases this
  . obtain ⟨h1,o',h2,h3⟩:=mem_ready.1 hi;have hlt:=(Jar.1 h2).1;obtain ⟨hq2,hq3,hq4,hq5⟩:=hk' i o' h2;have hbl:=yg (W:=W) hc hedge i o';rcases Nat.lt_trichotomy i ci with hic | hic | hic
    . obtain ⟨p,hp⟩: ∃p,(accA++[q])[i]? =some p:=⟨_,Jao (by simp;omega)⟩
      obtain ⟨r1,r2,e1,e2,e3⟩:=qvU (by omega) hic h1
      rw [e1] at hrun;obtain ⟨τ1,st1,s1,s2⟩:=Yg r1 (fun j hj x y p' q' hx hy hp' hq'=>by
       obtain ⟨hj1,hj2⟩:=e3 j hj;rw [h2] at hy;injection hy with hy;subst hy;rw [hp] at hq';injection hq' with hq';subst hq';rcases hq4 (by omega) p hp j hj1 with h | h
       . have:=hbl j h2 h3 h;rw [hun listed j hs (by omega) hj2] at this
         cases this
       . exact h x p' hx hp') hrun
      refine qzD hD hΓ hg ht s1 (fun row p' hr hp'=>by rw [(hrow i row hic hr).2] at hp';cases hp') fun g' t' w' a' g0 g1 r1' _ st' _=> ?_
      rw [e1] at hf;have hf':fuel=(left ci (listed.setIfInBounds i true)).length+1:=by rw [e2,hf];simp;omega
      rw [show fuel+(ops.size-ci-1)=(left ci (listed.setIfInBounds i true)).length+(ops.size-ci)by omega]
      refine ih _ (by omega) (listed.setIfInBounds i true) g' w' a' t' st1 (by simpa using hs) (hc.set hi) rfl (fun j hj hj2=> ?_) ?_ g1 r1' fun e a2 w2 hl=>hq e a2 w2 (hl.trans (st' b0))
      . have hne:i≠j:=by omega
        have:=hm j hj hj2;simp only [Jbb,Ja6,if_neg hne] at this ⊢;exact this
      . rw [e2,g0];exact s2
    . subst hic;rw [ho] at h2;injection h2 with h2;subst h2;have hleft: ∀j∈left i listed,j<i/\listed.getD j true=false:=fun j hj=>by
       obtain ⟨z1,z2⟩:=List.mem_filter.1 hj;exact ⟨Jbp.1 z1,by simpa using z2⟩
      obtain ⟨e1,e2,e3⟩:=qv2 (y:=o) (q:=q) hqw (fun j hj x p hx hp=>by
       obtain ⟨hj1,hj2⟩:=hleft j hj;refine ⟨?_,hrow j p hj1 hp⟩;rcases hq4 (Jam _) q htabci j hj1 with h | h
       . have:=hbl j ho h3 h;rw [hun listed j hs (by omega) hj2] at this
         cases this
       . exact h x p hx hp) hrun
      subst e1;rw [qxD,qVa (ρ':=evF (get t)) e2, <- qxD] at hcall;unfold wpOpIn;simp only [ho];rw [if_pos (Vy (b:=true) ht (by rw [hgd];rfl))]
      refine yP hD hΓ' (qzc hg) ht hcall ro _ _ (fun v s' x g' w' hk2 g1 l1 s1 r1=> ?_) (fun u s' v g' w' hx g1 l1 s1 r1=> ?_)
      . obtain ⟨hl,tab,tB,sB,k1,k2,k3,k4,k5,k6,k7⟩:=hKc _ _ hk2;obtain ⟨p1,p2,p3⟩:=X2 hg g1 s1 l1 hl;obtain ⟨t2,u1,u2⟩:=(ht.mono p3.le).dst (o:=o) r1 k5;have hle:left m (listed.setIfInBounds i true)=left i listed++List.range' (i+1) (m- (i+1)):=qXz hcm (by omega) fun j hj hj2=>hm j hj (by omega)
        have hfuel:fuel+(ops.size-i-1)=(left m (listed.setIfInBounds i true)).length+(ops.size-tab.length):=by
         rw [hle,hf,k1];simp;omega
        have hrun2:Run D Γ n ops tab (left tab.length (listed.setIfInBounds i true)) (get t2) (back q.vis 0 sA s') (get tB) sB:=by
         rw [k1,hle,u1];refine qQo (qQi (fun j hj r hr=> ?_) (e3 v s' hl)) k6
         rw [k3 j (by have:=(hleft j hj).1;omega)]
         exact hr
        have hany:=qzj (Q:=Q') (ro:=ro) hD hΓ k4 _ (listed.setIfInBounds i true) g' w' (a.put o.dst x) t2 _ (by simpa using hs) (hc.set hi) rfl (fun j hj hj2=>by
         have hne:i≠j:=by omega
         have:=hm j (by omega) hj2
         simp only [Jbb,Ja6,if_neg hne] at this ⊢;exact this) hrun2 p1 u2 (fun j _ row p hr hp=>by rw [k2 row (Ja3 hr)] at hp;cases hp) fun g3 t3 w3 a3 listed3 z1 z2 z3 z4 q1 q2 q3 q4=>by
          have hl:(ops.toList.drop m).length=ops.size-m:=by simp
          have hsub:ops.size- (ops.toList.drop m).length=m:=by rw [hl];omega
          have q3':RelT g3 n tB a3:=⟨q3.size,q3.defers,q3.once,fun i=>by rw [<- q1];exact q3.val i⟩
          have:=KS (b0:=b0) (Q:=Q) (Q':=Q') (ro:=ro) hD hΓ' k4 (ops.toList.drop m) listed3 g3 sB w3 tB a3 (by omega) (by rw [hsub]) (by rw [hsub];omega) z1 z2 (by rw [hsub, <- k1];exact z3) (by rw [hsub, <- k1];exact z4) q2 q3' k7 fun e a4 w4 hl=>hq e a4 w4 (hl.trans ((p2 b0).trans (q4 b0)))
          rw [hl, <- k1] at this;exact this
        rw [hfuel];rw [k1] at hany ⊢;exact hany
      . obtain ⟨hl,hx⟩:=hXc _ _ hx;obtain ⟨p1,p2,p3⟩:=X2 hg g1 s1 l1 hl;exact hq _ _ _ ⟨.pan u,g',t,_,hx t,⟨v,rfl,r1⟩,p1,ht.mono p3.le,p2 b0⟩
    . exfalso;have:=hbl ci h2 h3 (hq5 hic);rw [hun listed ci hs hcio (hm ci (Jam _) hcio)] at this;cases this
theorem qXP (hg:Good g st w) (m:Nat):Good g (st++List.replicate m none) w/\ ∀b0,Step b0 g st w g (st++List.replicate m none) w:=by
 have hl: ∀(k:Nat) (o:Ob),(st++List.replicate m none)[k]? =some (some o)↔st[k]? =some (some o):=by
  intro k o;by_cases h:k<st.length
  . rw [Jav h]
  . rw [Jas (by omega),Ja0 (l:=st) (by omega),Jco]
    split<;>simp
 refine ⟨⟨hg.ro,fun k o h=>hg.obj k o ((hl k o).1 h),fun k k' o o' b h h'=>hg.inj k k' o o' b ((hl k o).1 h) ((hl k' o').1 h'),fun k v oi h=> ?_,hg.fx,hg.dm,hg.laid⟩,fun b0=>⟨rfl,rfl,rfl,Jam _,fun _ _ _=>rfl,fun _ _ h=>h,fun b hb=> ?_,fun _ _ h=> .inl h,fun k _ o ho=> ?_,fun k _ ver e l ho=>⟨ver,l,(hl k _).2 ho,fun e0=>⟨e0,rfl⟩⟩,fun _ _ h=>h,fun _ h=>h,fun _ h=> .inl h⟩⟩
 . obtain ⟨h1,h2⟩:=hg.old k v oi h;exact ⟨by simp;omega,fun o ho=>h2 o ((hl k o).1 ho)⟩
 . obtain ⟨k,o,h1,h2⟩:=hb;exact .inl ⟨k,o,(hl k o).1 h1,h2⟩
 . cases o with
   | cells cs=>exact ⟨cs,(hl k _).2 ho,rfl,rfl⟩
   | arr ver e l=>exact ⟨ver,l,(hl k _).2 ho⟩
def QD:List Oper->Nat
 | []=>0
 | o::r=>match qZR o.op with
  | true=>QD r+1
  | false=>QD r
def qQ6:Nat->St
 | 0=>[]
 | n+1=>none::qQ6 n
theorem qvK: ∀m,qQ6 m=List.replicate m none
 | 0=>rfl
 | m+1=>by simp [qQ6,qvK m,List.replicate_succ]
def Z7 (W:List Nat) (m i:Nat):Bool:=(List.range m).all fun q=>Nat.blt q i||(List.range q).all fun j=>(W.getD q 0).testBit j
def KT (mu:FuncId->Bool):List Oper->Nat->List Nat
 | [],_=>[]
 | o::r,i=>match o.op with
  | .call {callee:= .value (.tmp _), .. }=>i::KT mu r (i+1)
  | .call {callee:= .value (.func f), .. }=>match mu f with
   | true=>i::KT mu r (i+1)
   | false=>KT mu r (i+1)
  | _=>KT mu r (i+1)
def VI (mu:FuncId->Bool) (ops:Array Oper):Nat:=
 match (KT mu ops.toList 0).find? (Z7 (qqI ops.toList []) ops.size)with
 | none=>ops.size
 | some i=>match Nat.ble i ops.size with
  | true=>i
  | false=>ops.size
def qo9 (mu:FuncId->Bool):List Oper->Nat->Option Nat
 | [],_=>none
 | o::r,i=>match o.op with
  | .call {callee:= .value (.func f), .. }=>match mu f with
   | true=>some i
   | false=>qo9 mu r (i+1)
  | _=>qo9 mu r (i+1)
def qkG (mu:FuncId->Bool) (ops:Array Oper):Option (Nat×Nat):=
 match qo9 mu ops.toList 0 with
 | none=>none
 | some i=>match Z7 (qqI ops.toList []) ops.size i with
  | true=>none
  | false=>match (List.range' (i+1) (ops.size-i)).find? fun m=>Z7 (qqI ops.toList []) ops.size m with
   | some m=>match Nat.blt i m&&Nat.ble m ops.size with
    | true=>some (i,m)
    | false=>none
   | none=>none
def qWk (D:TD) (Γ Γ':Qy) (mu:FuncId->Bool) (n:Nat) (ops:Array Oper) (t:Tm) (s:St) (K:Tm->St->Prop) (X:T->Tm->St->Prop):Prop:=
 Yh D Γ (fun _=>false) n ops s.length (s.length+QD (ops.toList.take (VI mu ops))) (ops.toList.take (VI mu ops)) s.length [] t (s++qQ6 (QD (ops.toList.take (VI mu ops)))) fun t s=>Qk D Γ' n ops (ops.toList.drop (VI mu ops)) t s K X
def qYP (D:TD) (Γ Γ':Qy) (mu:FuncId->Bool) (n:Nat) (ops:Array Oper) (t:Tm) (s:St) (K:Tm->St->Prop) (X:T->Tm->St->Prop):Prop:=
 match qkG mu ops with
 | some (i,m)=>qiI D Γ Γ' n ops i m t s K X
 | none=>qWk D Γ Γ' mu n ops t s K X
theorem qYA {mu:FuncId->Bool}:VI mu ops<=ops.size:=by
 unfold VI;split
 . exact Jam _
 . split
   . rename_i h;exact Jag h
   . exact Jam _
theorem qJY {Γ':Qy} {mu':FuncId->Bool} (hD:zY P D) (hΓ:jV P Γ) (hΓ':jV P Γ') (hdet:wl (fun _=>false) Γ) (hm:P.follows .mixedOrders=true) {id:Nat} {Q:Kc} (h:qWk D Γ Γ' mu' n ops t st (Q .normal) fun v=>Q (.pan v)):awp P n b0 (.region id ops true) Q t st:=by
 intro ro _ g w a hg ht;unfold qWk at h;have hcut:VI mu' ops<=ops.size:=qYA;generalize VI mu' ops=m at h hcut;rw [qvK] at h;obtain ⟨tab,t',s',k0,k1,k2,k3⟩:=Ja (ops:=ops) hdet (ops.toList.take m) st.length [] t _ _ (fun j o hj=>by
  have hj':=(Jai.1 hj).1;simp only [Jb5] at hj';rw [Jbl (by omega)] at hj
  simpa using hj) h
 simp only [List.reverse_nil,List.nil_append] at k1 k3;have hlen:tab.length=m:=by rw [k0,Jb5];simp;omega
 refine wpIn_region_any hm ?_;obtain ⟨g1,s1⟩:=qXP hg (QD (ops.toList.take m));obtain ⟨g2,s2⟩:=qzg g1 (n:=w.drawn+1);have hleft:left tab.length (Array.replicate ops.size false)=List.range' 0 (ops.toList.take m).length:=by
  unfold left;rw [List.filter_eq_self.2 (fun i hi=>by
   have:=Jbp.1 hi;have h2:i<ops.size:=by omega
   simp [h2]),List.range_eq_range',hlen]
  simp;omega
 have hin:=(Wg (by simp only [vL,Jaq] at k1;exact k1.1.2)).1
 have hfuel:ops.size=(left tab.length (Array.replicate ops.size false)).length+(ops.size-tab.length):=by
  rw [hleft,hlen];simp;omega
 have hany:=qzj (Q:=Z0 n b0 Q g st w) (ro:=ro) hD hΓ k1 _ (Array.replicate ops.size false) g _ a t _ (by simp) ?_ rfl (fun j _ hj=>by simp [hj]) (by rw [hleft];exact k3) g2 ht (fun i _ row p hr hp=> ?_) fun g' t2 w' a' listed' z1 z2 z3 z4 q1 q2 q3 q4=> ?_
 . rw [<- hfuel] at hany;exact hany
 . intro j o _ hj;simp [Array.getElem?_replicate] at hj;split at hj<;>simp at hj
 . obtain ⟨h1,h2⟩:=hin i row p hr hp;refine ⟨?_,fun v=> ?_⟩
   . rw [Jas h1,Jco,if_pos (by omega)]
   . cases hob:g.ob p v with
     | none=>rfl
     | some oi=>have:=(hg.old p v oi hob).1;omega
 . have hl:(ops.toList.drop m).length=ops.size-m:=by simp
   have hsub:ops.size- (ops.toList.drop m).length=m:=by rw [hl];omega
   have q3':RelT g' n t' a':=⟨q3.size,q3.defers,q3.once,fun i=>by rw [<- q1];exact q3.val i⟩
   have:=KS (b0:=b0) (Q:=Q) (Q':=Z0 n b0 Q g st w) (ro:=ro) hD hΓ' k1 (ops.toList.drop m) listed' g' s' w' t' a' (by omega) (by rw [hsub]) (by rw [hsub];omega) z1 z2 (by rw [hsub, <- hlen];exact z3) (by rw [hsub, <- hlen];exact z4) q2 q3' k2 fun e a'' w'' hl=>hl.trans ((s1 b0).trans ((s2 b0).trans (q4 b0)))
   rw [hl, <- hlen] at this;exact this
theorem qJn {mu:FuncId->Bool} {i m:Nat} (h:qkG mu ops=some (i,m)):i<m/\m<=ops.size:=by
 unfold qkG at h;(repeat' split at h)<;>first | (cases h;done) | skip
 rename_i hb;rw [Jaq] at hb;simp only [Jah,Jbg] at h;obtain ⟨rfl,rfl⟩:=h;exact ⟨Jag hb.1,Jag hb.2⟩
theorem qV0 {Γ':Qy} {mu':FuncId->Bool} (hD:zY P D) (hΓ:jV P Γ) (hΓ':jV P Γ') (hdet:wl (fun _=>false) Γ) (hmx:P.follows .mixedOrders=true) {id:Nat} {Q:Kc} (h:qYP D Γ Γ' mu' n ops t st (Q .normal) fun v=>Q (.pan v)):awp P n b0 (.region id ops true) Q t st:=by
 unfold qYP at h;split at h;case h_2=>exact qJY hD hΓ hΓ' hdet hmx h
 rename_i ci m hl;obtain ⟨hcm,hmo⟩:=qJn hl;intro ro _ g w a hg ht;unfold qiI at h;have htl: ∀k,k<=ops.size->(ops.toList.take k).length=k:=fun k hk=>by rw [Jb5];simp;omega
 obtain ⟨accA,tA,sA,k0,k1,k2,k3⟩:=ki hdet (ops.toList.take ci) [] t st _ (fun j o hj=>by
  have hj':=(Jai.1 hj).1;rw [htl ci (by omega)] at hj'
  rw [Jbl hj'] at hj;simpa using hj) (by simp) h
 simp only [List.nil_append,Ja1] at k2 k3;rw [htl ci (by omega)] at k0 k3
 split at k2;case h_2=>exact k2.elim
 rename_i o ho;split at k2;case h_2=>exact k2.elim
 rename_i hgd hread hlate;obtain ⟨g2,s2⟩:=qzg hg (n:=w.drawn+1);refine wpIn_region_any hmx ?_;have hleft:left ci (Array.replicate ops.size false)=List.range' 0 ci:=by
  unfold left;rw [List.filter_eq_self.2 (fun i hi=>by
   have:=Jbp.1 hi;have h2:i<ops.size:=by omega
   simp [h2]),List.range_eq_range']
 have hfuel:ops.size=(left ci (Array.replicate ops.size false)).length+(ops.size-ci):=by
  rw [hleft];simp;omega
 have hcr:(accA++[wz o tA sA]).length=ci+1:=by simp [k0]
 have hKc: ∀v s',(match decide (s'.length=sA.length)with
     | true=>Fin n tA o.dst v (fun t2 s2=>J7 D Γ n ops ((ops.toList.drop (ci+1)).take (m- (ci+1))) (accA++[wz o tA sA]) t2 s2 fun tab t s=>match vL ops 0 0 tab with
      | true=>Qk D Γ' n ops (ops.toList.drop m) t s (Q .normal) fun v=>Q (.pan v)
      | false=>False) (back (yn o.op (ev tA) sA) 0 sA s')
     | false=>False)->s'.length=sA.length/\ ∃(tab:List Row) (tB:Tm) (sB:St),tab.length=m/\(∀r∈tab,r.own=none)/\(∀i,i<ci+1->tab[i]? =(accA++[wz o tA sA])[i]?)/\vL ops 0 0 tab=true/\(∀d,o.dst=some d->d<n)/\
    Run D Γ n ops tab (List.range' (ci+1) (m- (ci+1))) (wu (get tA) o.dst v) (back (wz o tA sA).vis 0 sA s') (get tB) sB/\Qk D Γ' n ops (ops.toList.drop m) tB sB (Q .normal) (fun v=>Q (.pan v)):=fun v s' h=>by
  split at h;case h_2=>exact h.elim
  rename_i hd;refine ⟨Jac hd, ?_⟩;obtain ⟨t2,q1,q2,q3⟩:=QQ h;obtain ⟨rows,tB,sB,r0,r1,r2,r3⟩:=ki hdet _ _ t2 _ _ (fun j o2 hj=>by
   have hj':=(Jai.1 hj).1;rw [Jb5] at hj';rw [Jbl (by omega),Jbo] at hj
   rw [hcr];simpa using hj) (fun r hr=>by
    rcases Jbr.1 hr with hr | hr
    . exact k1 r hr
    . simp at hr;subst hr;rfl) q1
  split at r2;case h_2=>exact r2.elim
  rename_i hdr;have hrl:rows.length=m- (ci+1):=by rw [r0,Jb5,Jb9];simp;omega
  refine ⟨_,tB,sB,by rw [Jak,hcr,hrl];omega,fun r hr=> ?_,fun i hi=> ?_,hdr,q3, ?_,r2⟩
  . rcases Jbr.1 hr with hr | hr
    . rcases Jbr.1 hr with hr | hr
      . exact k1 r hr
      . simp at hr;subst hr;rfl
    . exact r1 r hr
  . rw [Jav (by omega)]
  . have:=r3 [];rw [List.append_nil, <- r0,hrl,hcr,q2] at this;exact this
 have hXc: ∀u s',(match decide (s'.length=sA.length)with
     | true=> ∀t':Tm,Q (.pan u) t' (back (yn o.op (ev tA) sA) 0 sA s')
     | false=>False)->s'.length=sA.length/\ ∀t',Q (.pan u) t' (back (wz o tA sA).vis 0 sA s'):=fun u s' h=>by
  split at h;case h_2=>exact h.elim
  rename_i hd;exact ⟨Jac hd,h⟩
 have:=qk9 (b0:=b0) (Q:=Q) (Q':=Z0 n b0 Q g st w) (ro:=ro) (q:=wz o tA sA) hD hΓ hΓ' ho hgd rfl rfl k0 hcm hmo (fun r hr=>⟨Vu hread r hr,k1 r hr⟩) hlate k2 hKc hXc _ (Array.replicate ops.size false) g _ a t st (by simp) (fun j o _ hj=>by
  simp [Array.getElem?_replicate] at hj;split at hj<;>simp at hj) rfl (fun j _ hj=>by simp [hj]) (by rw [hleft];exact k3 [wz o tA sA]) g2 ht fun e a' w' hl=>hl.trans (s2 b0)
 rw [<- hfuel] at this;exact this
end
end
section
open Go.RowKit
variable {P:Program} [Bd P]
def jn (P:Program) [Bd P] (b0:B0) (t:Tm) (s:St) (t':Tm) (s':St):Prop:=
 ∀(g:G P) (w:World) (a:Act) (n:Nat),Good g s w->RelT g n t a-> ∃g',Good g' s' w/\RelT g' n t' a/\Step b0 g s w g' s' w
theorem jn.refl {b0:B0} {t:Tm} {s:St}:jn P b0 t s t s:=fun g _ _ _ hg ht=>⟨g,hg,ht,Step.refl⟩
theorem jn.trans {b0:B0} {t t' t'':Tm} {s s' s'':St} (h:jn P b0 t s t' s') (k:jn P b0 t' s' t'' s''):jn P b0 t s t'' s'':=fun g w a n hg ht=>by
 obtain ⟨g1,h1,h2,h3⟩:=h g w a n hg ht;obtain ⟨g2,k1,k2,k3⟩:=k g1 w a n h1 h2;exact ⟨g2,k1,k2,h3.trans k3⟩
theorem jn.awp {n:Nat} {b0:B0} {c:Code} {Q:Kc} {t t':Tm} {s s':St} (h:jn P b0 t s t' s') (k:awp P n b0 c Q t' s'):awp P n b0 c Q t s:=fun ro hro g w a hg ht=>by
 obtain ⟨g1,h1,h2,h3⟩:=h g w a n hg ht;exact wpIn_mono (k ro hro g1 w a h1 h2) fun e a' w' hl=>hl.trans h3
def jI (s:St) (e:El):St:=s++[some (.arr 0 e [])]
theorem XM {g:G P} {s:St} {w:World} (hg:Good g s w) (e:El): ∃g',Good g' (jI s e) w/\g.le g'/\(∀b0,Step b0 g s w g' (jI s e) w)/\ ∀x,R g .nil x->R g' (.oa e s.length 0) x:=by
 obtain ⟨k1,k2,k3⟩:=zv (st':=jI s e) (k:=s.length) (v:=0) (o':= .arr 0 e []) (oi:=⟨0,0,0⟩) (w':=w) hg j8 (Jam _) (by simp [jI]) rfl (.inl (zu hg)) (fun u oi hu=>by rw [zu hg] at hu;cases hu) ⟨rfl,Jam _,Jbt _⟩
  (fun h=>absurd ⟨rfl,rfl⟩ h) rfl rfl rfl (Jam _) (fun _ _ _=>rfl) (fun h=>absurd ⟨rfl,rfl⟩ h) (fun o ho=>by rw [Ja0 (Jam _)] at ho;cases ho)
 exact ⟨_,k1,k3,k2,fun x hx=>by cases hx with | nil A=>exact .oa e s.length 0 ⟨0,0,0⟩ A (by simp [G.set]) (fun h=>absurd rfl h) (Jam _) (Jbt _)⟩
theorem qJL {b0:B0} {t:Tm} {s:St} {d:Nat} (e:El) (h:get t d= .nil):jn P b0 t s (put t d (.oa e s.length 0)) (jI s e):=fun g w a n hg ht=>by
 obtain ⟨g',k1,k2,k3,k4⟩:=XM hg e;refine ⟨g',k1,⟨ht.size,by obtain ⟨ms,j1,j0,j2⟩:=ht.defers;exact ⟨ms,j1,j0,fun d hd=>by obtain ⟨D,h1,h2⟩:=j2 d hd;exact ⟨D,h1,(k3 b0).dm _ h2⟩⟩,ht.once,fun i=> ?_⟩,k3 b0⟩
 rw [yj];by_cases e:i=d
 . subst e;rw [if_pos rfl];exact k4 _ (by rw [<- h];exact ht.val i)
 . rw [if_neg e];exact (ht.val i).mono k2
theorem qn0 {cs:List T} {j:Nat} {e:El} {k v:Nat} (hj:cs[j]? =some .nil) (h:zk (cs.set j (.oa e k v))=true):zk cs=true:=by
 cases cs with
 | nil=>simp at hj
 | cons c r=>
  cases j with
  | zero=>simp [zk] at h
  | succ j=>cases c<;>first | rfl | exact absurd h Ja9
theorem qXK {b0:B0} {t:Tm} {s:St} {k j:Nat} {cs:List T} (e:El) (hk:rd s k=some (.cells cs)) (hj:cs[j]? =some .nil):jn P b0 t s t ((jI s e).set k (some (.cells (cs.set j (.oa e s.length 0))))):=fun g w a n hg ht=>by
 obtain ⟨g',k1,k2,k3,k4⟩:=XM hg e;have hk':=qc.1 hk;have hkl:k<s.length:=(Jai.1 hk').1;have hk2:(jI s e)[k]? =some (some (.cells cs)):=by unfold jI;rw [Jav hkl];exact hk'
 obtain ⟨oi,o1,_,o3⟩:=hg.obj k _ hk';have hjl:j<cs.length:=(Jai.1 hj).1;have hM:meHead (cs.set j (.oa e s.length 0))=meHead cs:=by
  cases cs with
  | nil=>simp at hj
  | cons c r=>
   cases j with
   | zero=>simp at hj;subst hj;rfl
   | succ j=>cases c<;>rfl
 rcases o3 with o3 | ⟨_,blk,E,fr,o4,o5,o6,_⟩
 . cases o3.1
 -- the cell holds an empty slice
 obtain ⟨m1,m2⟩:Good g' ((jI s e).set k (some (.cells (cs.set j (.oa e s.length 0))))) w/\ ∀b0,Step b0 g' (jI s e) w g' ((jI s e).set k (some (.cells (cs.set j (.oa e s.length 0))))) w:=by
  have hkl2:k< (jI s e).length:=by simp [jI];omega
  obtain ⟨oi',h1,_,h3⟩:=k1.obj k _ hk2;have hset:g'.set k 0 oi'=g':=by
   unfold G.set;obtain ⟨ro,ob⟩:=g';congr 1
   funext i u
   split
   . rename_i e;obtain ⟨rfl,rfl⟩:=e;exact h1.symm
   . rfl
  rcases h3 with h3 | ⟨h3,blk',E',fr',h4,h5,h6,hW⟩
  . cases h3.1
  have hoi:oi'=oi:=by
   have:=k2.ob k 0 oi o1;simp only [obVer] at h1;rw [h1] at this;injection this
  subst hoi;rw [o4] at h4;simp only [Jah,Obj.cells.injEq] at h4;obtain ⟨rfl,rfl,rfl⟩:=h4;obtain ⟨q1,q2,_⟩:=zv (st':=(jI s e).set k (some (.cells (cs.set j (.oa e s.length 0))))) (k:=k) (v:=0) (o':= .cells (cs.set j (.oa e s.length 0))) (oi:=oi') (w':=w) k1 (ko hkl2) (by omega) (by simp) rfl (.inr h1) (fun u oi' hu=>by have:=xH k1 hk2 hu;simpa [obVer] using this) trivial
   (fun _=> .inr ⟨_,hk2,zS h1 (by simp [qn])⟩) rfl rfl rfl (Jam _) (fun _ _ _=>rfl) (fun _=>⟨blk,E,fr,by simp only [vo,hM];exact o4,o5,⟨by have:=o6.le;simp only [qZ,List.length_set] at this ⊢;omega,fun i u hi=>by
    simp only [qZ] at hi;by_cases ei:i=j
    . subst ei;rw [List.getElem?_set_self hjl] at hi;injection hi with hi;subst hi;obtain ⟨x,x1,x2,x3⟩:=o6.at_ i _ hj;exact ⟨x,x1,x2,k4 x x3⟩
    . rw [List.getElem?_set_ne (Ne.symm ei)] at hi;exact h6.at_ i u hi⟩,yF (fun hh=>qn0 hj hh) hW⟩) (fun o ho=>by
    rw [hk2] at ho;simp only [Jah] at ho;subst ho;exact ⟨_,rfl,by simp,h1⟩)
  rw [hset] at q1;exact ⟨q1,fun b0=>by have:=q2 b0;rw [hset] at this;exact this⟩
 exact ⟨g',m1,ht.mono k2,(k3 b0).trans (m2 b0)⟩
def qKq:List El->List T->Option (Sigma ty)
 | [],_=>none
 | e::r,cs=>match dec e cs with
  | some x=>some ⟨e,x⟩
  | none=>qKq r cs
def qZx (cs:List T):Option (Sigma ty):=match meHead cs with
 | true=>none
 | false=>qKq quk cs
theorem qyv {cs:List T} {e:El} {x:ty e} (h:qZx cs=some ⟨e,x⟩):meHead cs=false/\dec e cs=some x:=by
 unfold qZx at h;split at h
 . cases h
 . rename_i hm;refine ⟨hm, ?_⟩;generalize quk=l at h;induction l with
   | nil=>cases h
   | cons a r ih=>
    simp only [qKq] at h;split at h
    . rename_i y hy;injection h with h;injection h with h1 h2;subst h1;rw [<- eq_of_heq h2];exact hy
    . exact ih h
def qcc (cs:List T):Option (Sigma fun e=>List (ty e)):=match meHead cs,u8E,yx cs with
 | false,some e,some l=>match qyn e with
  | some f=>some ⟨e,f l⟩
  | none=>none
 | _,_,_=>none
theorem qb2 {cs:List T} {e:El} {l:List (ty e)} (h:qcc cs=some ⟨e,l⟩):meHead cs=false/\encs e l=cs/\sz e=1:=by
 unfold qcc at h;split at h
 . rename_i e' l' hm he hl;split at h
   . rename_i f hf;injection h with h;injection h with h1 h2;subst h1;have h2:=eq_of_heq h2;subst h2;refine ⟨hm, ?_,qZA hf⟩;have:=qxr hf l';unfold encs;rw [this,vV hl];have key: ∀L:List Int,(L.map fun n=>[T.int .u8 n]).flatten=L.map (T.int .u8):=fun L=>by
      induction L with
      | nil=>rfl
      | cons a r ih=>rw [List.map_cons,List.flatten_cons,ih];rfl
     exact key _
   . cases h
 . cases h
mutual
def Q4 (s:St) (gv:Bool) (pos:Nat->Option (Nat×Nat)):T->T
 | .oa e k ver=>match ju s e k ver with
  | some l=>match pos k with
   | some p=> .oa e p.1 p.2
   | none=>match gv with
    | true=> .sl false e l
    | false=> .undef
  | none=> .undef
 | .os e k ver off n=>match ju s e k ver with
  | some l=>match pos k with
   | some p=> .os e p.1 p.2 off n
   | none=>match gv with
    | true=> .sl false e ((l.drop off).take n)
    | false=> .undef
  | none=> .undef
 | .pt k off=>match rd s k with
  | some (.cells cs)=>match pos k with
   | some p=> .pt p.1 off
   | none=>match gv with
    | true=>match qZx cs with
     | some ⟨e,x⟩=> .pr e x off
     | none=> .undef
    | false=> .undef
  | _=> .undef
 | .pe e k ver i j=>match ju s e k ver with
  | some _=>match pos k with
   | some p=> .pe e p.1 p.2 i j
   | none=> .undef
  | none=> .undef
 | .ag cs=> .ag (rnL s gv pos cs)
 | .tu cs=> .tu (rnL s gv pos cs)
 | .fn f xs ys=> .fn f (rnL s gv pos xs) (rnL s gv pos ys)
 | .ic t v=> .ic t (Q4 s gv pos v)
 | .undef=> .undef
 | .int k n=> .int k n
 | .bool b=> .bool b
 | .str b=> .str b
 | .cst v=> .cst v
 | .ub=> .ub
 | .fp=> .fp
 | .mp k=>match rd s k with
  | some (.cells _)=>match pos k with
   | some p=> .mp p.1
   | none=> .undef
  | _=> .undef
 | .as k c=>match rd s k with
  | some (.cells cs)=>match pos k with
   | some p=> .as p.1 c
   | none=>match gv with
    | true=>match meHead cs with
     | true=> .undef
     | false=>match qcc (cs.take c)with
      | some ⟨e,l⟩=>match Nat.beq l.length c,Nat.ble l.length maxLen with
       | true,true=> .sl true e l
       | _,_=> .undef
      | none=> .undef
    | false=> .undef
  | _=> .undef
 | .ments e l=> .ments e l
 | .fents b l=> .fents b l
 | .itr none e all left cur=> .itr none e all left cur
 | .itr (some k) e all left cur=>match rd s k with
  | some (.cells _)=>match pos k with
   | some p=> .itr (some p.1) e all left cur
   | none=> .itr none e all left cur
  | _=> .itr none e all left cur
 | .nil=> .nil
 | .sl full e l=> .sl full e l
 | .pr e x j=> .pr e x j
 | .fd x=> .fd x
 | .al e l=> .al e l
def rnL (s:St) (gv:Bool) (pos:Nat->Option (Nat×Nat)):List T->List T
 | []=>[]
 | v::r=>Q4 s gv pos v::rnL s gv pos r
end
theorem jp {s:St} {gv:Bool} {pos:Nat->Option (Nat×Nat)}: ∀{cs:List T} {i:Nat} {u:T},(rnL s gv pos cs)[i]? =some u-> ∃c,cs[i]? =some c/\u=Q4 s gv pos c
 | [],_,_,h=>by simp [rnL] at h
 | v::r,0,u,h=>by simp [rnL] at h;exact ⟨v,rfl,h.symm⟩
 | v::r,i+1,u,h=>by simp only [rnL,Jbd] at h ⊢;exact jp h
theorem qvl {s:St} {gv:Bool} {pos:Nat->Option (Nat×Nat)} {cs:List T} (h:zk (rnL s gv pos cs)=true):zk cs=true:=by
 cases cs with
 | nil=>simp [rnL,zk] at h
 | cons v r=>
  cases v;case itr k _ _ _ _=>cases k<;>(simp only [rnL,Q4] at h;(repeat' split at h)<;>exact h)
  all_goals first | rfl | (simp only [rnL,Q4] at h;(repeat' split at h)<;>exact h)
theorem qKe {s:St} {gv:Bool} {pos:Nat->Option (Nat×Nat)} {cs:List T}:meHead (rnL s gv pos cs)=meHead cs:=by
 cases cs with
 | nil=>simp [rnL]
 | cons v r=>
  cases v;case itr k _ _ _ _=>cases k<;>(simp only [rnL,Q4];(repeat' split)<;>rfl)
  all_goals (simp only [rnL,Q4];(repeat' split)<;>rfl)
theorem qP {s:St} {gv:Bool} {pos:Nat->Option (Nat×Nat)}: ∀{cs:List T},(rnL s gv pos cs).length=cs.length
 | []=>rfl
 | v::r=>by simp [rnL,qP (cs:=r)]
def ke (s:St) (gv:Bool) (pos:Nat->Option (Nat×Nat)):Option Ob->Option Ob
 | some (.cells cs)=>some (.cells (rnL s gv pos cs))
 | some (.arr _ e l)=>some (.arr 0 e l)
 | none=>none
def zX:List Nat->Nat->Option Nat
 | [],_=>none
 | a::r,k=>match decide (k=a)with
  | true=>some 0
  | false=>match zX r k with
   | some i=>some (i+1)
   | none=>none
def wH (keep:List Nat) (k:Nat):Option (Nat×Nat):=match zX keep k with
 | some p=>some (p,0)
 | none=>none
theorem vJ {keep:List Nat} {k:Nat} {q:Nat×Nat} (h:wH keep k=some q):zX keep k=some q.1/\q.2=0:=by
 unfold wH at h;split at h
 . rename_i p hp;injection h with h;subst h;exact ⟨hp,rfl⟩
 . cases h
theorem ZQ {keep:List Nat} {k:Nat} (h:wH keep k=none):zX keep k=none:=by
 unfold wH at h;split at h
 . cases h
 . assumption
def V8 (s:St) (gv:Bool) (keep:List Nat):St:=keep.map fun k=>ke s gv (wH keep) (rd s k)
theorem qS: ∀{ks:List Nat} {k i:Nat},zX ks k=some i->ks[i]? =some k
 | [],_,_,h=>by simp [zX] at h
 | a::r,k,i,h=>by
  simp only [zX] at h;by_cases e:k=a
  . rw [Jaa e] at h;simp only [Jah] at h;subst h;subst e;rfl
  . rw [Jab e] at h;simp only at h;split at h
    . rename_i j hj;injection h with h;subst h;simpa using qS hj
    . cases h
theorem kY: ∀{ks:List Nat} {k:Nat},zX ks k=none->k ∉ ks
 | [],_,_=>by simp
 | a::r,k,h=>by
  simp only [zX] at h;by_cases e:k=a
  . rw [Jaa e] at h;cases h
  . rw [Jab e] at h;simp only at h;split at h
    . cases h
    . rename_i hn;simp [e,kY hn]
theorem Zk {ks:List Nat} (hn:ks.Nodup) {i k:Nat} (h:ks[i]? =some k):zX ks k=some i:=by
 cases hf:zX ks k with
 | none=>exact absurd (Ja3 h) (kY hf)
 | some j=>
  have hj:=qS hf;rw [(List.getElem?_inj (Jai.1 hj).1 hn).1 (hj.trans h.symm)]
theorem qzq {g:G P} {k ver:Nat} {e:El} {l:List (ty e)} {oi:OI} (h:g.ob k ver=some oi) (hc:oi.cap≠0):obBlk g k (.arr ver e l)=some oi.b:=by
 unfold obBlk;simp only [obVer,h];rw [if_neg (by simp [hc])]
def qyH (cs cs':List T):Prop:=(∃e x,qZx cs=some ⟨e,x⟩/\cs'=enc e x)∨ ∃c e l,meHead cs=false/\qcc (cs.take c)=some ⟨e,l⟩/\cs'=encs e l
theorem qJu {g:G P} {s:St} {w:World} (hg:Good g s w) (keep:List Nat) (gv:Bool): ∃ro':Nat->List T->Prop,(∀b cs,g.ro b cs->ro' b cs)/\
  (∀k ver e l oi,s[k]? =some (some (.arr ver e l))->zX keep k=none->g.ob k ver=some oi->oi.cap≠0->gv=true->ro' oi.b (encs e l))/\
  (∀b cs,ro' b cs->g.ro b cs∨(∃k ver e l oi,s[k]? =some (some (.arr ver e l))/\zX keep k=none/\g.ob k ver=some oi/\oi.cap≠0/\oi.b=b/\cs=encs e l)∨ ∃k cs0 oi,s[k]? =some (some (.cells cs0))/\zX keep k=none/\g.ob k 0=some oi/\oi.b=b/\qyH cs0 cs)/\(gv=false->ro'=g.ro)/\
  ∀k cs0 oi cs,s[k]? =some (some (.cells cs0))->zX keep k=none->g.ob k 0=some oi->qyH cs0 cs->gv=true->ro' oi.b cs:=by
 cases gv with
 | false=>exact ⟨g.ro,fun _ _ h=>h,fun _ _ _ _ _ _ _ _ _ h=>by (cases h),fun _ _ h=> .inl h,fun _=>rfl,fun _ _ _ _ _ _ _ _ h=>by (cases h)⟩
 | true=>
 let p (b:Nat) (cs:List T):Prop:= ∃k ver e l oi,s[k]? =some (some (.arr ver e l))/\zX keep k=none/\g.ob k ver=some oi/\oi.cap≠0/\oi.b=b/\cs=encs e l
 let q (b:Nat) (cs:List T):Prop:= ∃k cs0 oi,s[k]? =some (some (.cells cs0))/\zX keep k=none/\g.ob k 0=some oi/\oi.b=b/\qyH cs0 cs
 exact ⟨fun b cs=>g.ro b cs∨p b cs∨q b cs,fun b cs h=> .inl h,fun k ver e l oi h1 h2 h3 h4 _=> .inr (.inl ⟨k,ver,e,l,oi,h1,h2,h3,h4,rfl,rfl⟩),fun b cs h=>h,fun h=>by (cases h),fun k cs0 oi cs h1 h2 h3 h4 _=> .inr (.inr ⟨k,cs0,oi,h1,h2,h3,rfl,h4⟩)⟩
theorem ZC {g:G P} {s:St} {w:World} (hg:Good g s w) {keep:List Nat} (hn:keep.Nodup) (gv:Bool): ∃g',Good g' (V8 s gv keep) w/\(∀b0:B0,(∀k,k<b0.b->keep[k]? =some k)->(∀k,k<b0.c->keep[k]? =some k/\ ∀ver e l,s[k]? =some (some (.arr ver e l))->ver=0)->Step b0 g s w g' (V8 s gv keep) w)/\(∀v x,R g v x->R g' (Q4 s gv (wH keep) v) x)/\
  (∀b cs,g.ro b cs->g'.ro b cs)/\(∀i k o,keep[i]? =some k->s[k]? =some (some o)->g'.ob i 0=g.ob k (obVer o))/\(gv=false->g'.ro=g.ro)/\ ∀b,Own g' (V8 s gv keep) b-> ∃k o,k∈keep/\s[k]? =some (some o)/\obBlk g k o=some b:=by
 obtain ⟨ro',r1,r2,r3,r4,r5⟩:=qJu hg keep gv;let g':G P:=⟨.mk,ro',fun p v=>if v=0 then (keep[p]?).bind fun k=>match rd s k with | some o=>g.ob k (obVer o) | none=>none else none,g.fx,g.dm⟩
 have hob: ∀i k o,keep[i]? =some k->s[k]? =some (some o)->g'.ob i 0=g.ob k (obVer o):=fun i k o h1 h2=>by
  simp only [g',if_true,h1,Jaz,qc.2 h2]
 have hro: ∀b cs,g.ro b cs->g'.ro b cs:=r1;have hkeep: ∀k o oi,s[k]? =some (some o)->zX keep k≠none->g.ob k (obVer o)=some oi-> ¬(qn o=true/\oi.cap=0)->(∀cs0, ¬g.ro oi.b cs0)->(∀cs0, ¬g'.ro oi.b cs0):=by
  intro k o oi h1 h2 h3 h4 h5 cs hr
  . rcases r3 _ _ hr with h6 | ⟨k',ver,e,l,oi',a1,a2,a3,a4,a5,_⟩ | ⟨k',cs0,oi',a1,a2,a3,a5,_⟩
    . exact h5 _ h6
    . have:k=k':=hg.inj k k' _ _ oi.b h1 a1 (zS h3 h4) (by rw [qzq a3 a4,a5])
      subst this;exact absurd a2 h2
    . have:k=k':=hg.inj k k' _ _ oi.b h1 a1 (zS h3 h4) (by rw [<- a5];exact zS (o':= .cells cs0) a3 (by simp [qn]))
      subst this;exact absurd a2 h2
 have hR: ∀v x,R g v x->R g' (Q4 s gv (wH keep) v) x:=by
  intro v x h;induction h with
  | undef x=>exact .undef x
  | int k n=>exact .int k n
  | bool b=>exact .bool b
  | str s=>exact .str s
  | cst v=>exact .cst v
  | ub b=>exact .ub b
  | fp=>exact .fp
  | mp k oi h1=>
   simp only [Q4];split
   . rename_i cs hcs;split
     . rename_i p hp;obtain ⟨hp,_⟩:=vJ hp;exact .mp p.1 oi (by rw [hob p.1 k _ (qS hp) (qc.1 hcs)];exact h1)
     . exact .undef _
   . exact .undef _
  | as k c oi h1=>
   simp only [Q4];split
   . rename_i cs hcs;split
     . rename_i p hp;obtain ⟨hp,_⟩:=vJ hp;exact .as p.1 c oi (by rw [hob p.1 k _ (qS hp) (qc.1 hcs)];exact h1)
     . rename_i hp;split;case h_2=>exact .undef _
       rename_i hgv;split;case h_1=>exact .undef _
       rename_i hm;split;case h_2=>exact .undef _
       rename_i e l hf;split;case h_2=>exact .undef _
       rename_i q1 q2;have q1:=Jck q1;have q2:=Jag q2;have hro':=r5 k cs oi (encs e l) (qc.1 hcs) (ZQ hp) h1 (.inr ⟨c,e,l,hm,hf,rfl⟩) rfl;have:=R.sl (g:=g') true e l (some ⟨oi.b,0,none⟩) l.length (Jam _) q2 (fun _=>rfl) fun _=>⟨oi.b,0,encs e l,rfl,hro',by rw [Jby,Jbm (by rw [qg];exact Jam _)]⟩
       rw [<- q1];exact this
   . exact .undef _
  | me e l=>exact .me e l
  | fe b l h=>exact .fe b l h
  | it q e all left cur oi seen h1 h2 h3=>
   simp only [Q4];split
   . rename_i cs hcs;split
     . rename_i p hp;obtain ⟨hp,_⟩:=vJ hp;exact .it p.1 e all left cur oi seen (by rw [hob p.1 q _ (qS hp) (qc.1 hcs)];exact h1) h2 h3
     . exact .iz _ _ _ _ _ rfl
   . exact .iz _ _ _ _ _ rfl
  | iz e all left cur v h=>exact .iz e all left cur v h
  | nil A=>exact .nil A
  | sl full e l A c h1 h2 h3 h4=>exact .sl full e l A c h1 h2 h3 fun hne=>by obtain ⟨b,off,cs,k1,k2,k3⟩:=h4 hne;exact ⟨b,off,cs,k1,hro _ _ k2,k3⟩
  | oa e k ver oi A h1 h2 h3 h4=>
   simp only [Q4];split;case h_2=>exact .undef _
   rename_i l hl;obtain ⟨oi',q1,q2,_⟩:=hg.arr (qh hl);rw [h1] at q1;injection q1 with q1;subst q1;split
   . rename_i p hp;obtain ⟨hp,hp2⟩:=vJ hp;exact .oa e p.1 p.2 oi A (by rw [hp2,hob p.1 k _ (qS hp) (qh hl)];exact h1) h2 h3 h4
   . rename_i hp;have hp:=ZQ hp;split
     . rename_i hgv;rw [q2];exact .sl false e l A _ (by omega) h4 (by simp) fun hne=>by
        have hc:oi.cap≠0:=by have:=Jbv.2 hne;omega
        exact ⟨oi.b,0,encs e l,h2 hc,r2 k ver e l oi (qh hl) hp h1 hc rfl,by rw [Jby,Jbm (by rw [qg];exact Jam _)]⟩
     . exact .undef _
  | os e k ver off n oi A c h1 h2 h3 h4 h5 h6=>
   simp only [Q4];split;case h_2=>exact .undef _
   rename_i l hl;obtain ⟨oi',q1,q2,_⟩:=hg.arr (qh hl);rw [h1] at q1;injection q1 with q1;subst q1;split
   . rename_i p hp;obtain ⟨hp,hp2⟩:=vJ hp;exact .os e p.1 p.2 off n oi A c (by rw [hp2,hob p.1 k _ (qS hp) (qh hl)];exact h1) h2 h3 h4 h5 h6
   . rename_i hp;have hp:=ZQ hp;split;case h_2=>exact .undef _
     have hlen:((l.drop off).take n).length=n:=by simp;omega
     have:=R.sl (g:=g') false e ((l.drop off).take n) A c (by omega) h5 (by simp) fun hne=>by
      have hn0:n≠0:=by rintro rfl;simp at hne
      have hc:oi.cap≠0:=by omega
      exact ⟨oi.b,off*sz e,encs e l,h3 (by omega),r2 k ver e l oi (qh hl) hp h1 hc rfl,by rw [hlen,wY,kq]⟩
     rw [hlen] at this;exact this
  | pt k off oi h1=>
   simp only [Q4];split
   . rename_i cs hcs;split
     . rename_i p hp;obtain ⟨hp,_⟩:=vJ hp;exact .pt p.1 off oi (by rw [hob p.1 k _ (qS hp) (qc.1 hcs)];exact h1)
     . rename_i hp;split;case h_2=>exact .undef _
       rename_i hgv;split;case h_2=>exact .undef _
       rename_i e x hf;have hro':=r5 k cs oi (enc e x) (qc.1 hcs) (ZQ hp) h1 (.inl ⟨e,x,hf,rfl⟩) rfl;have:=R.pr (g:=g') e x off oi.b 0 (enc e x) hro' (by rw [Jby,Jbm (by rw [zF];exact Jam _)])
       rw [Jbj] at this;exact this
   . exact .undef _
  | pe e k ver i j oi h1 h2=>
   simp only [Q4];split;case h_2=>exact .undef _
   rename_i l hl;split
   . rename_i p hp;obtain ⟨hp,hp2⟩:=vJ hp;exact .pe e p.1 p.2 i j oi (by rw [hp2,hob p.1 k _ (qS hp) (qh hl)];exact h1) h2
   . exact .undef _
  | pr e x j b off cs h1 h2=>exact .pr e x j b off cs (hro _ _ h1) h2
  | ag cs xs h1 _ h3 ih=>exact .ag _ xs (by rw [qP];exact h1) (fun i c x hc hx=>by obtain ⟨c0,c1,rfl⟩:=jp hc;exact ih i c0 x c1 hx) h3
  | tu cs xs h1 _ ih=>exact .tu _ xs (by rw [qP];exact h1) (fun i c x hc hx=>by obtain ⟨c0,c1,rfl⟩:=jp hc;exact ih i c0 x c1 hx)
  | fn f as bs xs ys h0 h1 h2 _ _ ih1 ih2=>exact .fn f _ _ xs ys h0 (by rw [qP];exact h1) (by rw [qP];exact h2) (fun i c x hc hx=>by obtain ⟨c0,c1,rfl⟩:=jp hc;exact ih1 i c0 x c1 hx) (fun i c x hc hx=>by obtain ⟨c0,c1,rfl⟩:=jp hc;exact ih2 i c0 x c1 hx)
  | ic t v x _ ih=>exact .ic t _ x ih
  | yl f us yi l r h1 h2 h3 h4 _ ih=>exact .yl f _ yi l r h1 h2 h3 (by rw [qP];exact h4) fun i c d hc hd=>by obtain ⟨c0,c1,rfl⟩:=jp hc;exact ih i c0 d c1 hd
  | fd0 x f h=>exact .fd0 x f h
  | fd1 x f e c b off cs h h1 h2=>exact .fd1 x f e c b off cs h (hro _ _ h1) h2
  | al e l xs h1 h2 h3 _=>exact .al e l xs h1 (fun i c x hc hx=>(h2 i c x hc hx).pure (zo c (Ja3 hc)) hro) h3
 have hget: ∀p o',(V8 s gv keep)[p]? =some (some o')-> ∃k o,keep[p]? =some k/\s[k]? =some (some o)/\ke s gv (wH keep) (some o)=some o':=fun p o' h=>by
  unfold V8 at h;rw [Jax] at h;cases hk:keep[p]? with
  | none=>simp [hk] at h
  | some k=>
   simp only [hk,Ja8,Jah] at h;cases hr:rd s k with
   | none=>rw [hr] at h;simp [ke] at h
   | some o=>rw [hr] at h;exact ⟨k,o,hk,qc.1 hr,h⟩
 have hver: ∀o o',ke s gv (wH keep) (some o)=some o'->obVer o'=0/\qn o'=qn o/\(∀oi,obFits o oi->obFits o' oi)/\vo o'=vo o:=fun o o' h=>by
  cases o with
  | cells cs=>simp only [ke,Jah] at h;subst h;exact ⟨rfl,rfl,fun _ _=>trivial,qKe⟩
  | arr ver e l=>simp only [ke,Jah] at h;subst h;exact ⟨rfl,rfl,fun _ h=>h,rfl⟩
 have hblk: ∀p k o o',keep[p]? =some k->s[k]? =some (some o)->ke s gv (wH keep) (some o)=some o'->obBlk g' p o'=obBlk g k o:=fun p k o o' h1 h2 h3=>by
  obtain ⟨v1,v2,_⟩:=hver o o' h3;unfold obBlk;rw [v1,v2,hob p k o h1 h2]
 refine ⟨g',⟨fun b cs h=> ?_,fun p o' h=> ?_,fun p p' o1 o2 b h1 h2 h3 h4=> ?_,fun p v oi h=> ?_,hg.fx,hg.dm,LaidG.mono hro hg.laid⟩,fun b0 hb hc=>⟨rfl,rfl,rfl,Jam _,fun _ _ _=>rfl,hro,fun b hb'=> ?_,fun b cs h=> ?_,fun k hk o ho=> ?_,fun k hk ver e l ho=> ?_,fun _ _ h=>h,fun _ h=>h,fun _ h=> .inl h⟩,hR,hro,hob,r4,fun b hb'=> ?_⟩
 . rcases r3 b cs h with h1 | ⟨k,ver,e,l,oi,a1,a2,a3,a4,a5,rfl⟩ | ⟨k,cs0,oi,a1,a2,a3,a5,a6⟩
   . obtain ⟨blk,E,fr,h2,h3⟩:=hg.ro b cs h1;exact ⟨blk,E,fr,h2,h3.pure hro⟩
   . obtain ⟨oi',q1,_,_,_,q5⟩:=hg.arr a1;rw [a3] at q1;injection q1 with q1;subst q1;obtain ⟨_,blk,E,fr,b1,_,b3,_⟩:=q5 a4;rw [<- a5];exact ⟨blk,E,fr,b1,(b3.pure zo hro).toR⟩
   . obtain ⟨oi',q1,_,q3⟩:=hg.obj k _ a1;have q1:g.ob k 0=some oi':=q1;rw [a3] at q1;injection q1 with q1;subst q1;rcases q3 with q3 | ⟨_,blk,E,fr,v1,_,c1,_⟩
     . cases q3.1
     have hm:meHead cs0=false:=by
      rcases a6 with ⟨e,x,f1,_⟩ | ⟨c,e,l,f1,_,_⟩
      . exact (qyv f1).1
      . exact f1
     simp only [vo,hm] at v1;have v1:w.heap[oi.b]? =some (.cells blk E fr):=v1;rw [<- a5];refine ⟨blk,E,fr,v1, ?_⟩;rcases a6 with ⟨e,x,f1,rfl⟩ | ⟨c,e,l,_,f1,rfl⟩
     . obtain ⟨d1,d2⟩:=dec_ok (P:=P) e cs0 x (qyv f1).2;refine ⟨fun n e0=> ?_,by rw [zF, <- d1];exact c1.le,fun j u hj _=> ?_⟩
       . have:=yo e x (.tu [.int .i64 (n:Int)]) (by rw [e0];exact Jbc ..)
         cases this
       . obtain ⟨c0,k1,k2⟩:=d2 j u hj;obtain ⟨y,y1,y2,y3⟩:=c1.at_ j c0 k1;exact ⟨y,y1,y2,(k2 g y y3).pure (yo e x u (Ja3 hj)) hro⟩
     . obtain ⟨_,f2,_⟩:=qb2 f1;refine ⟨fun n e0=> ?_, ?_,fun j u hj _=> ?_⟩
       . have:=zo (e:=e) (l:=l) (.tu [.int .i64 (n:Int)]) (by rw [e0];exact Jbc ..)
         cases this
       . have:=c1.le;simp only [qZ] at this;rw [f2,Jb5];omega
       . have hp:=zo u (Ja3 hj);rw [f2] at hj;have hj':cs0[j]? =some u:=by
          rw [List.getElem?_take] at hj;split at hj
          . exact hj
          . cases hj
         obtain ⟨y,y1,y2,y3⟩:=c1.at_ j u hj';exact ⟨y,y1,y2,y3.pure hp hro⟩
 . obtain ⟨k,o,h1,h2,h3⟩:=hget p o' h;obtain ⟨v1,v2,v3,vM⟩:=hver o o' h3;obtain ⟨oi,q1,q2,q3⟩:=hg.obj k o h2;refine ⟨oi,by rw [v1,hob p k o h1 h2];exact q1,v3 oi q2, ?_⟩
   by_cases hn0:qn o=true/\oi.cap=0
   . exact .inl (by rw [v2];exact hn0)
   rcases q3 with q3 | ⟨q3,blk,E,fr,q4,q5,q6,q7⟩
   . exact absurd q3 hn0
   refine .inr ⟨hkeep k o oi h2 (by rw [Zk hn h1];simp) q1 hn0 q3,blk,E,fr,by rw [vM];exact q4,q5, ?_, ?_⟩
   . cases o with
     | cells cs=>
      simp only [ke,Jah] at h3;subst h3;refine ⟨by simp only [qZ,qP];exact q6.le,fun j u hj=> ?_⟩
      obtain ⟨c,c1,rfl⟩:=jp hj;obtain ⟨x,x1,x2,x3⟩:=q6.at_ j c c1;exact ⟨x,x1,x2,hR c x x3⟩
     | arr ver e l=>
      simp only [ke,Jah] at h3;subst h3;exact q6.pure zo hro
   . cases o with
     | cells cs=>simp only [ke,Jah] at h3;subst h3;exact yF qvl q7
     | arr ver e l=>simp only [ke,Jah] at h3;subst h3;exact q7
 . obtain ⟨k,o,a1,a2,a3⟩:=hget p o1 h1;obtain ⟨k',o',b1,b2,b3⟩:=hget p' o2 h2;rw [hblk p k o o1 a1 a2 a3] at h3;rw [hblk p' k' o' o2 b1 b2 b3] at h4;have:k=k':=hg.inj k k' o o' b a2 b2 h3 h4;subst this;have e1:=Zk hn a1;have e2:=Zk hn b1;rw [e1] at e2;injection e2
 . simp only [g'] at h;split at h;case isFalse=>cases h
   rename_i hv;subst hv;refine ⟨?_,fun o _=>Jbt _⟩
   cases hk:keep[p]? with
   | none=>simp [hk] at h
   | some k=>unfold V8;rw [Jbs];exact (Jai.1 hk).1
 . obtain ⟨p,o',h1,h2⟩:=hb';obtain ⟨k,o,a1,a2,a3⟩:=hget p o' h1;rw [hblk p k o o' a1 a2 a3] at h2;exact .inl ⟨k,o,a2,h2⟩
 . rcases r3 b cs h with h1 | ⟨k,ver,e,l,oi,a1,_,a3,a4,a5,_⟩ | ⟨k,cs0,oi,a1,_,a3,a5,_⟩
   . exact .inl h1
   . exact .inr (.inl ⟨k,_,a1,by rw [qzq a3 a4,a5]⟩)
   . exact .inr (.inl ⟨k,_,a1,by rw [<- a5];exact zS (o':= .cells cs0) a3 (by simp [qn])⟩)
 . have hkk:=hb k hk;have hr:(V8 s gv keep)[k]? =some (ke s gv (wH keep) (some o)):=by
    unfold V8;rw [Jax,hkk];simp [qc.2 ho]
   cases o with
   | cells cs=>exact ⟨_,hr,qP,hob k k _ hkk ho⟩
   | arr ver e l=>exact ⟨0,l,hr⟩
 . obtain ⟨hkk,hv⟩:=hc k hk;have h0:=hv ver e l ho;subst h0;refine ⟨0,l, ?_,fun _=>⟨rfl,hob k k _ hkk ho⟩⟩
   unfold V8;rw [Jax,hkk];simp [qc.2 ho,ke]
 . obtain ⟨p,o',h1,h2⟩:=hb';obtain ⟨k,o,a1,a2,a3⟩:=hget p o' h1;rw [hblk p k o o' a1 a2 a3] at h2;exact ⟨k,o,Ja3 a1,a2,h2⟩
def rnT (s:St) (pos:Nat->Option (Nat×Nat)) (t:Tm):List Nat->Tm
 | []=>[]
 | i::r=>(i,Q4 s true pos (get t i))::rnT s pos t r
theorem qZd {s:St} {pos:Nat->Option (Nat×Nat)} {t:Tm}: ∀{l:List Nat} (i:Nat),get (rnT s pos t l) i= .undef∨get (rnT s pos t l) i=Q4 s true pos (get t i)
 | [],_=> .inl rfl
 | j::r,i=>by
  simp only [rnT,get];split
  . rename_i e;subst e;exact .inr rfl
  . exact qZd i
theorem qcN {b0:B0} {t:Tm} {s:St} {keep:List Nat} (hn:keep.Nodup) (hb: ∀k,k<b0.b->keep[k]? =some k) (hc: ∀k,k<b0.c->keep[k]? =some k/\ ∀ver e l,s[k]? =some (some (.arr ver e l))->ver=0) (live:List Nat):jn P b0 t s (rnT s (wH keep) t live) (V8 s true keep):=fun g w a n hg ht=>by
 obtain ⟨g',k1,k2,k3,_⟩:=ZC hg hn true;refine ⟨g',k1,⟨ht.size,by obtain ⟨ms,j1,j0,j2⟩:=ht.defers;exact ⟨ms,j1,j0,fun d hd=>by obtain ⟨D,h1,h2⟩:=j2 d hd;exact ⟨D,h1,(k2 b0 hb hc).dm _ h2⟩⟩,ht.once,fun i=> ?_⟩,k2 b0 hb hc⟩
 rcases qZd (s:=s) (pos:=wH keep) (t:=t) (l:=live) i with e | e
 . rw [e];exact .undef _
 . rw [e];exact k3 _ _ (ht.val i)
end
section
open Go.RowKit
variable {P:Program} [Bd P]
mutual
def noY:T->Bool
 | .fn f as bs=>(ytab f).isNone&&(kW as&&kW bs)
 | .ag cs=>kW cs
 | .tu cs=>kW cs
 | .ic _ v=>noY v
 | _=>true
def kW:List T->Bool
 | []=>true
 | v::r=>noY v&&kW r
end
def Jj:St->Bool
 | []=>true
 | some (.cells cs)::r=>kW cs&&Jj r
 | _::r=>Jj r
theorem jP: ∀{cs:List T} {i:Nat} {c:T},kW cs=true->cs[i]? =some c->noY c=true
 | [],_,_,_,h=>by simp at h
 | v::r,0,c,h,hc=>by simp only [kW,Jaq] at h;simp at hc;subst hc;exact h.1
 | v::r,i+1,c,h,hc=>by simp only [kW,Jaq] at h;simp at hc;exact jP h.2 hc
theorem QI: ∀{s:St} {k:Nat} {cs:List T},Jj s=true->s[k]? =some (some (.cells cs))->kW cs=true
 | [],_,_,_,h=>by simp at h
 | o::r,k,cs,h,hk=>by
  cases k with
  | zero=>
   simp at hk;subst hk;simp only [Jj,Jaq] at h;exact h.1
  | succ k=>
   simp at hk;refine QI (s:=r) ?_ hk;rcases o with _ | o
   . simpa only [Jj] using h
   . cases o with
     | cells cs=>simp only [Jj,Jaq] at h;exact h.2
     | arr ver e l=>simpa only [Jj] using h
theorem KU {g g':G P} {v:T} {x:Value} (h:R g v x) (hr:g.ro=g'.ro) (ho:g.ob=g'.ob):noY v=true->R g' v x:=by
 induction h with
 | undef x=>intro _;exact .undef x
 | int k n=>intro _;exact .int k n
 | bool b=>intro _;exact .bool b
 | str s=>intro _;exact .str s
 | cst v=>intro _;exact .cst v
 | ub b=>intro _;exact .ub b
 | fp=>intro _;exact .fp
 | mp k oi h1=>intro _;exact .mp k oi (by rw [<- ho];exact h1)
 | as k n oi h1=>intro _;exact .as k n oi (by rw [<- ho];exact h1)
 | me e l=>intro _;exact .me e l
 | fe b l h=>intro _;exact .fe b l h
 | it q e all left cur oi seen h1 h2 h3=>intro _;exact .it q e all left cur oi seen (by rw [<- ho];exact h1) h2 h3
 | iz e all left cur v h=>intro _;exact .iz e all left cur v h
 | nil A=>intro _;exact .nil A
 | sl full e l A c h1 h2 h3 h4=>intro _;exact .sl full e l A c h1 h2 h3 (by rw [<- hr];exact h4)
 | oa e k ver oi A h1 h2 h3 h4=>intro _;exact .oa e k ver oi A (by rw [<- ho];exact h1) h2 h3 h4
 | os e k ver off n oi A c h1 h2 h3 h4 h5 h6=>intro _;exact .os e k ver off n oi A c (by rw [<- ho];exact h1) h2 h3 h4 h5 h6
 | pt k off oi h1=>intro _;exact .pt k off oi (by rw [<- ho];exact h1)
 | pe e k ver i j oi h1 h2=>intro _;exact .pe e k ver i j oi (by rw [<- ho];exact h1) h2
 | pr e x j b off cs h1 h2=>intro _;exact .pr e x j b off cs (by rw [<- hr];exact h1) h2
 | ag cs xs h1 _ h3 ih=>intro hf;exact .ag cs xs h1 (fun i c x hc hx=>ih i c x hc hx (jP hf hc)) h3
 | tu cs xs h1 _ ih=>intro hf;exact .tu cs xs h1 (fun i c x hc hx=>ih i c x hc hx (jP hf hc))
 | fn f as bs xs ys h0 h1 h2 _ _ ih1 ih2=>
  intro hf;simp only [noY,Jaq] at hf;exact .fn f as bs xs ys h0 h1 h2 (fun i c x hc hx=>ih1 i c x hc hx (jP hf.2.1 hc)) (fun i c x hc hx=>ih2 i c x hc hx (jP hf.2.2 hc))
 | ic t v x _ ih=>intro hf;exact .ic t v x (ih hf)
 | yl f us yi l r h1 _ _ _ _ _=>
  intro hf;simp only [noY,Jaq,h1] at hf;exact absurd hf.1 (by simp)
 | fd0 x f h=>intro _;exact .fd0 x f h
 | fd1 x f e c b off cs h h1 h2=>intro _;exact .fd1 x f e c b off cs h (by rw [<- hr];exact h1) h2
 | al e l xs h1 h2 h3 _=>intro _;exact .al e l xs h1 (fun i c x hc hx=>(h2 i c x hc hx).pure (zo c (Ja3 hc)) fun b cs h=>by rw [<- hr];exact h) h3
def yOk (P:Program) (y n:Nat):Code->Prop
 | .seq a b=>yOk P y n a/\yOk P y n b
 | .cond _ a b=>yOk P y n a/\yOk P y n b
 | .block _ c=>yOk P y n c
 | .loop c=>yOk P y n c
 | .rangeFunc _ ps a b=> ∃k,wQ b=some k/\roundAt P (y+k)=some (n,ps,a,b)
 | _=>True
theorem vU {y n:Nat}: ∀{c:Code},zB c=true->yOk P y n c
 | .seq a b,h=>by simp only [zB,Jaq] at h;exact ⟨vU h.1,vU h.2⟩
 | .cond _ a b,h=>by simp only [zB,Jaq] at h;exact ⟨vU h.1,vU h.2⟩
 | .block _ c,h=>vU (c:=c) h
 | .loop c,h=>vU (c:=c) h
 | .rangeFunc ..,h=>by simp [zB] at h
 | .skip,_=>trivial
 | .label _,_=>trivial
 | .region ..,_=>trivial
 | .ret,_=>trivial
 | .exit _,_=>trivial
 | .goto _,_=>trivial
 | .scope _,_=>trivial
 | .refuse _,_=>trivial
def va:Code->List (Array Tmp×Code×Code)
 | .seq a b=>va a++va b
 | .cond _ a b=>va a++va b
 | .block _ c=>va c
 | .loop c=>va c
 | .rangeFunc _ ps a b=>[(ps,a,b)]
 | _=>[]
def JJ (P:Program) (y:FuncId):Nat×Array Tmp×Code×Code:=match roundAt P y with
 | some r=>r
 | none=>(0, #[],.skip,.skip)
theorem jJ {y n:Nat}: ∀{c:Code},(∀r∈va c, ∃k,wQ r.2.2=some k/\roundAt P (y+k)=some (n,r))->yOk P y n c
 | .seq a b,h=>⟨jJ fun r hr=>h r (by simp only [va,Jbr];exact .inl hr),jJ fun r hr=>h r (by simp only [va,Jbr];exact .inr hr)⟩
 | .cond _ a b,h=>⟨jJ fun r hr=>h r (by simp only [va,Jbr];exact .inl hr),jJ fun r hr=>h r (by simp only [va,Jbr];exact .inr hr)⟩
 | .block _ c,h=>jJ (c:=c) h
 | .loop c,h=>jJ (c:=c) h
 | .rangeFunc _ ps a b,h=>h (ps,a,b) (by simp [va])
 | .skip,_=>trivial
 | .label _,_=>trivial
 | .region ..,_=>trivial
 | .ret,_=>trivial
 | .exit _,_=>trivial
 | .goto _,_=>trivial
 | .scope _,_=>trivial
 | .refuse _,_=>trivial
theorem VC {y n:Nat} {c:Code} (ks:List Nat) (h1:va c=ks.map fun k=>(JJ P (y+k)).2) (h2:(ks.all fun k=>(wQ (JJ P (y+k)).2.2.2==some k)&&((roundAt P (y+k)).isSome&&((JJ P (y+k)).1==n)))=true):yOk P y n c:=by
 refine jJ fun r hr=> ?_
 rw [h1] at hr;obtain ⟨k,hk,rfl⟩:=Jch.1 hr;have:=Jbu.1 h2 k hk;simp only [Jaq,beq_iff_eq] at this;obtain ⟨e1,e2,e3⟩:=this;obtain ⟨rd,hy⟩:=Jb2.1 e2;have e:JJ P (y+k)=rd:=by unfold JJ;rw [hy]
 refine ⟨k,e1, ?_⟩;rw [hy,e, <- e3,e]
theorem qyL {w:World} {l:Nat} {o o':Obj}:(w.putObj l o).putObj l o'=w.putObj l o':=by simp [World.putObj]
theorem qyZ {w:World} {l:Nat} {o:Obj} (h:w.heap[l]? =some o):w.putObj l o=w:=by
 have:w.heap.setIfInBounds l o=w.heap:=by
  refine Array.ext_getElem? fun i=> ?_
  rw [Ja6];by_cases e:l=i
  . subst e;rw [if_pos rfl,if_pos (Jar.1 h).1,h]
  . rw [if_neg e]
 simp [World.putObj,this]
theorem Step.put {g g':G P} {st st':St} {w w':World} {b0:B0} {l:Nat} {o:Obj} (h:Step b0 g st w g' st' w') (hl:l<w.heap.size) {fx fx':Nat->Loop->Prop} (hf: ∀b o,fx b o->fx' b o):Step b0 {g with fx:=fx} st (w.putObj l o) {g' with fx:=fx'} st' (w'.putObj l o):=
 ⟨h.os,h.tape,h.output,by simpa using h.size,fun b hb hn=>by
  have hb:b<w.heap.size:=by simpa using hb
  by_cases e:b=l
  . subst e;rw [World.putObj_heap_same hl,World.putObj_heap_same (Jcd hl h.size)]
  . rw [World.putObj_heap_other e,World.putObj_heap_other e];exact h.block b hb hn,h.ro,fun b hb=>by rw [World.putObj_size];exact h.own b hb,fun b cs hb=>by rw [World.putObj_size];exact h.new b cs hb,h.kept,h.fixd,hf,h.dm,fun b hb=>by simpa using h.dmn b hb⟩
def vH:List Tmp->List T->Tm->Tm
 | d::ds,v::vs,t=>vH ds vs (put t d v)
 | _,_,t=>t
def qam (ps:Array Tmp) (live:List Tmp) (xs us:List T):Tm:=vH ps.toList xs (vH live us [])
theorem Vs {g:G P} {f:Nat->Value}: ∀(ds:List Tmp) (us:List T) (t:Tm),(∀i,R g (get t i) (f i))->(∀(i:Nat) (u:T) (d:Tmp),us[i]? =some u->ds[i]? =some d->R g u (f d))-> ∀i,R g (get (vH ds us t) i) (f i)
 | [],_,t,h,_,i=>by simpa [vH] using h i
 | d::ds,[],t,h,_,i=>by simpa [vH] using h i
 | d::ds,u::us,t,h,hu,i=>by
  simp only [vH];refine Vs ds us _ (fun i=> ?_) (fun i v e h1 h2=>hu (i+1) v e (by simpa using h1) (by simpa using h2)) i
  rw [yj];by_cases e:i=d
  . rw [if_pos e,e];exact hu 0 u d rfl rfl
  . rw [if_neg e];exact h i
theorem qqS {g:G P}: ∀(ds:List Tmp) (us:List T) (as:List Value) (t:Tm) (m:Array Value),(∀i,R g (get t i) (m.getD i Go.undef))->us.length=as.length->(∀d∈ds,d<m.size)->(∀(i:Nat) (u:T) (x:Value),us[i]? =some u->as[i]? =some x->R g u x)->
  ((ds.zip as).foldl (fun (t:Array Value) (p:Tmp×Value)=>t.setIfInBounds p.1 p.2) m).size=m.size/\ ∀i,R g (get (vH ds us t) i) (((ds.zip as).foldl (fun (t:Array Value) (p:Tmp×Value)=>t.setIfInBounds p.1 p.2) m).getD i Go.undef)
 | [],us,as,t,m,h,_,_,_=>by simpa [vH] using h
 | d::ds,[],as,t,m,h,hl,_,_=>by
  have:as=[]:=Jan hl.symm;subst this;simpa [vH] using h
 | d::ds,u::us,[],t,m,h,hl,_,_=>by simp at hl
 | d::ds,u::us,x::as,t,m,h,hl,hd,hu=>by
  have hdm:d<m.size:=hd d (by simp)
  obtain ⟨h1,h2⟩:=qqS ds us as (put t d u) (m.setIfInBounds d x) (fun i=>by
   rw [yj,Jbb,Ja6];by_cases e:i=d
   . subst e;rw [if_pos rfl,if_pos rfl,if_pos hdm];exact hu 0 u x rfl rfl
   . rw [if_neg e,if_neg (Ne.symm e), <- Jbb];exact h i) (by simpa using hl) (fun e he=>by simpa using hd e (by simp [he])) fun i v y h1 h2=>hu (i+1) v y (by simpa using h1) (by simpa using h2)
  simp only [vH,List.zip_cons_cons,List.foldl_cons];exact ⟨h1.trans (by simp),h2⟩
theorem qXa {P':Program} {f:FuncId} {g:G P'} {n:Nat} {ps:Array Tmp} {ca cb:Code} {yi:YI} {r:Loop} {xs us:List T} {args:Array Value} (hr:RL g xs args) (hy:YRec P' f r) (hc:roundAt P' f=some (n,ps,ca,cb)) (hu:RY g us yi r) (hp: ∀d∈ps.toList,d<n):RelT g n (qam ps yi.live xs us) {tmps:=(r.params.zip args).foldl (fun t (p,v)=>t.setIfInBounds p v) r.tmps,defers:=[]}:=by
 have hcode:=hy.code;rw [hc] at hcode;simp only [Jah,Jbg] at hcode;obtain ⟨c1,c2,_,_⟩:=hcode;have h0: ∀i,R g (get (vH yi.live us []) i) (r.tmps.getD i Go.undef):=Vs _ _ _ (fun i=> .undef _) hu
 obtain ⟨h1,h2⟩:=qqS ps.toList xs args.toList _ r.tmps h0 (by simpa using hr.len) (fun d hd=>by rw [<- c1];exact hp d hd) fun i u x h1 h2=>hr.val i u x h1 (by simpa using h2)
 have e:(r.params.zip args).foldl (fun t (p,v)=>t.setIfInBounds p v) r.tmps=(ps.toList.zip args.toList).foldl (fun (t:Array Value) (p:Tmp×Value)=>t.setIfInBounds p.1 p.2) r.tmps:=by
  rw [<- c2, <- Array.foldl_toList,Array.toList_zip]
 refine ⟨by rw [e];exact h1.trans c1.symm,⟨[],rfl,fun _=>rfl,by simp⟩,by simp,fun i=>by rw [e];exact h2 i⟩
def qer:Tm->Bool
 | []=>true
 | (_,v)::r=>noY v&&qer r
theorem qx1: ∀{t:Tm} (i:Nat),qer t=true->noY (get t i)=true
 | [],i,_=>rfl
 | (j,v)::r,i,h=>by
  simp only [qer,Jaq] at h;simp only [get];split
  . exact h.1
  . exact qx1 i h.2
section
variable {P:Program} [Bd P] {D:TD} {Γ:Qy} {g:G P} {st:St} {w w':World} {n:Nat} {b0:B0} {t:Tm} {Q:Kc}
theorem Good.swap (hg:Good g st w) {fx:Nat->Loop->Prop} {dm:Nat->Prop} (hc: ∀(b:Nat) (m:Bool) (c:Array Value) (t:TypeId) (fr:Nat×Nat),vO m w.heap[b]? =some (.cells c t fr)->w'.heap[b]? =w.heap[b]?) (hfx: ∀(b:Nat) (o:Loop),fx b o->w'.heap[b]? =some (.loop o)) (hdm: ∀(b:Nat),dm b->w'.heap[b]? =some (.deferred (some [])))
  (hR: ∀(k:Nat) (cs:List T),st[k]? =some (some (.cells cs))-> ∀(j:Nat) (u:T) (x:Value),cs[j]? =some u->R g u x->R {g with fx:=fx,dm:=dm} u x):Good {g with fx:=fx,dm:=dm} st w':=by
 refine ⟨fun b cs hb=> ?_,fun k o ho=> ?_,hg.inj,hg.old,hfx,hdm,hg.laid⟩
 . obtain ⟨blk,E,fr,p1,p2⟩:=hg.ro b cs hb;exact ⟨blk,E,fr,by rw [hc _ false _ _ _ p1];exact p1,p2.pure fun _ _ h=>h⟩
 . obtain ⟨oi,p1,p2,p3⟩:=hg.obj k o ho;refine ⟨oi,p1,p2, ?_⟩;rcases p3 with p3 | ⟨p3,blk,E,fr,p4,p5,p6,p7⟩
   . exact .inl p3
   . refine .inr ⟨p3,blk,E,fr,by rw [hc _ _ _ _ _ p4];exact p4,p5, ?_,p7⟩
     cases o with
     | arr ver e l=>exact p6.pure zo fun _ _ h=>h
     | cells cs=>exact ⟨p6.le,fun j u hj=>by
       obtain ⟨x,x1,x2,x3⟩:=p6.at_ j u hj;exact ⟨x,x1,x2,hR k cs ho j u x hj x3⟩⟩
theorem qXU (hΓ:jV P Γ) {gop:Operand} {ps:Array Tmp} {a b:Code} {y:FuncId} {yi:YI} (hy:ytab y=some yi) (h1:roundAt P y=some (n,ps,a,b)) {f:FuncId} {as bs:List T} (hv:ev t gop= .fn f as bs) (hf:ytab f=none)
  (h:Γ f (as++ .fn y [] (yi.live.map (get t))::bs) st (fun _ s'=>Jj s'=true/\Q .normal t s') fun v s'=>Q (.pan v) t s'):awp P n b0 (.rangeFunc gop ps a b) Q t st:=by
 intro ro hro g w act hg ht;obtain ⟨rfl,hst⟩:ro=none/\Bd.strict P=false:=hro.elim id fun e=>by simp [zB] at e
 refine wpIn_rangeFunc fun fn _=> ?_
 let rec0:Loop:={state:= .ready,pending:=none,fn:=fn,tmps:=act.tmps,params:=ps,assign:=a,body:=b,defers:=w.heap.size}
 let w1:World:=(w.alloc (.deferred (some []))).alloc (.loop rec0)
 let g1:G P:={g with fx:=fun b o=>g.fx b o∨(b=w.heap.size+1/\o=rec0),dm:=fun b=>g.dm b∨b=w.heap.size}
 have hold: ∀b,b<w.heap.size->w1.heap[b]? =w.heap[b]? :=fun b hb=>by
  show ((w.heap.push _).push _)[b]? =_
  rw [Array.getElem?_push_lt (by simp;omega),Array.getElem_push_lt hb]
  simp [hb]
 have hl:w1.heap[w.heap.size+1]? =some (.loop rec0):=by
  have:=World.alloc_heap_new (w.alloc (.deferred (some []))) (.loop rec0);rw [World.size_alloc] at this;exact this
 have hd:w1.heap[w.heap.size]? =some (.deferred (some [])):=by
  show ((w.heap.push _).push _)[w.heap.size]? =_
  simp [Array.getElem?_push]
 have hsz:w1.heap.size=w.heap.size+2:=by
  show ((w.heap.push _).push _).size=_
  simp
 have hlt: ∀{b:Nat} {o:Obj},w.heap[b]? =some o->b<w.heap.size:=fun h=>(Jar.1 h).1
 have hle1:g.le g1:=⟨fun _ _ h=>h,fun _ _ _ h=>h,fun _ _ h=> .inl h,fun _ h=> .inl h⟩
 have hg1:Good g1 st w1:=hg.swap (fun b m c t fr hb=>hold b (yw hb)) (fun b o hb=>by
   rcases hb with hb | ⟨rfl,rfl⟩
   . rw [hold b (hlt (hg.fx b o hb))];exact hg.fx b o hb
   . exact hl) (fun b hb=>by
   rcases hb with hb | rfl
   . rw [hold b (hlt (hg.dm b hb))];exact hg.dm b hb
   . exact hd) fun k cs _ j u x _ hx=>hx.mono hle1
 have hs1: ∀b0,Step b0 g st w g1 st w1:=fun b0=>⟨rfl,rfl,rfl,by omega,fun b hb _=>hold b hb,fun _ _ h=>h,fun _ h=> .inl h,fun _ _ h=> .inl h,fun _ _=>Kept.refl,fun _ _=>Fixd.refl,fun _ _ h=> .inl h,fun _ h=> .inl h,fun b h=>by
  rcases h with h | rfl
  . exact .inl h
  . exact .inr (Jam _)⟩
 have hyl:R g1 (.fn y [] (yi.live.map (get t))) (.func (.yield (w.heap.size+1)) #[] #[]):= .yl y _ yi _ rec0 hy (.inr ⟨rfl,rfl⟩) ⟨rfl,rfl,by rw [h1, <- ht.size]⟩ (by simp) fun i u d hu hd=>by
  simp only [Jax,hd,Ja8,Jah] at hu;subst hu;exact (ht.val d).mono hle1
 have hR:=ht.ev gop;rw [hv] at hR;generalize hef:act.eval gop=ef at hR;cases hR with
 | yl _ _ _ _ _ k1=>rw [hf] at k1;cases k1
 | fn _ _ _ xs ys k0 k1 k2 k3 k4=>
 have hx:=hΓ _ _ _ _ _ h g1 w1 hg1;unfold Qw at hx;rw [hf] at hx;obtain ⟨he,hx⟩:=hx;have hq:quiet P (callFunc f (xs++ #[.func (.yield (w.heap.size+1)) #[] #[]]++ys))=some (.enter f (xs++ #[.func (.yield (w.heap.size+1)) #[] #[]]++ys)):=by
  unfold vT at he;rw [Jaq] at he;replace he:=he.2;cases hfn:P.funcs[f]? with
  | none=>simp [hfn] at he
  | some fn'=>
   simp only [hfn,Jaq,Bool.not_eq_true'] at he;show quiet P (Sem.program _)=_
   simp only [quiet];show quiet P (match P.funcs[f]? with | none=>_ | some fn=>_)=_
   simp only [hfn,he.1,Ja5,if_false];have:fn'.body.isNone=false:=by cases hb:fn'.body<;>simp_all
   simp [this]
 have hrl:RL g1 (as++ .fn y [] (yi.live.map (get t))::bs) (xs++ #[.func (.yield (w.heap.size+1)) #[] #[]]++ys):=⟨by simp [k1,k2];omega,fun i u x hu hx=>by
  by_cases i1:i<as.length
  . rw [Jav i1] at hu;rw [Array.append_assoc,Jbi (by omega)] at hx
    exact (k3 i u x hu hx).mono hle1
  . rw [Jas (by omega)] at hu
    rw [Array.append_assoc,Array.getElem?_append_right (by omega), <- k1] at hx
    cases hj:i-as.length with
    | zero=>
     rw [hj] at hu hx;rw [Jbi (by simp)] at hx
     simp at hu hx;subst hu;subst hx;exact hyl
    | succ j=>
     rw [hj] at hu hx;rw [Jbd] at hu;rw [Array.getElem?_append_right (by simp)] at hx
     simp at hx;exact (k4 j u x hu hx).mono hle1⟩
 refine ⟨w.heap.size+1,[{target:= .collected w.heap.size,args:= #[]}],w1,{target:= .fn (.func f) ys,args:=xs++ #[.func (.yield (w.heap.size+1)) #[] #[]]},w1,f,_,w1,run_enterLoop_outer fn act.tmps ps a b, ?_,fun _ _=>trivial, ?_,fun h=>Bool.noConfusion h,qwb ((hx _ hrl).mono ?_)⟩
 . simp only [rangeCall,resolve,hef,Deferred.ofValue,Sem.run_pure];simp [Act.eval]
 . exact zw hq w1
 . rintro e w3 ⟨g2,s2,q1,q2,q3,q4⟩;have hs2:=(hs1 b0).trans (q3 b0);have hrt:RelT g2 n t {act with defers:=[{target:= .collected w.heap.size,args:= #[]}]++act.defers}:=by
    have ht2:=ht.mono (hle1.trans q2.le);obtain ⟨ms,j1,j0,j2⟩:=ht2.defers;refine ⟨ht2.size,⟨{target:= .collected w.heap.size,args:= #[]}::ms,by simp [j1],fun e=>(by rw [hst] at e;cases e),fun d hd=> ?_⟩, ?_,ht2.val⟩
    . simp only [Jbf] at hd;rcases hd with rfl | hd
      . exact ⟨_,rfl,q2.le.dm _ (.inr rfl)⟩
      . exact j2 d hd
    . simp only [List.cons_append,List.nil_append];refine List.nodup_cons.2 ⟨fun hm=> ?_,ht.once⟩
      obtain ⟨ms,j1,_,j2⟩:=ht.defers;rw [j1,Jbr] at hm;rcases hm with hm | hm
      . obtain ⟨D,e1,e2⟩:=j2 _ hm;have:w.heap.size=D:=by simpa using e1
        have:=hlt (hg.dm D e2);omega
      . exact Bd.fn _ hm _ rfl
   cases e with
   | outgrown=>exact q4.elim
   | panicked ch=>
    obtain ⟨v,u,rfl,u1,u2⟩:=q4;exact ⟨.pan u,g2,t,s2,u1,⟨v,rfl,u2⟩,q1,hrt,hs2⟩
   | returned x=>
    obtain ⟨r,⟨r0,r1⟩,_⟩:=q4;have hl2:w3.heap[w.heap.size+1]? =some (.loop rec0):=q1.fx _ _ (q2.le.fx _ _ (.inr ⟨rfl,rfl⟩));refine ⟨none,_,run_endLoop hl2 (by simp [rec0]), ?_⟩
    have hother: ∀b,b≠w.heap.size+1->(w3.putObj (w.heap.size+1) (.loop {rec0 with state:= .exhausted})).heap[b]? =w3.heap[b]? :=fun b hb=>World.putObj_heap_other hb
    have hnl: ∀b o,w3.heap[b]? =some o->(∀r,o≠ .loop r)->b≠w.heap.size+1:=fun b o hb hn e=>by
     subst e;rw [hl2] at hb;simp only [Jah] at hb;exact hn _ hb.symm
    let g3:G P:={g2 with fx:=fun b o=>g2.fx b o/\b≠w.heap.size+1,dm:=g2.dm}
    have hg3:Good g3 s2 (w3.putObj (w.heap.size+1) (.loop {rec0 with state:= .exhausted})):=q1.swap (fun b m c t fr hb=>by obtain ⟨o,o1,o2⟩:=qqY hb;exact hother b (hnl b _ o1 o2)) (fun b o hb=>by rw [hother b hb.2];exact q1.fx b o hb.1)
     (fun b hb=>by rw [hother b (hnl b _ (q1.dm b hb) (by intros;simp))];exact q1.dm b hb) fun k cs hk j u x hu hx=>KU hx rfl rfl (jP (QI r0 hk) hu)
    have hle3:g.le g3:=⟨fun b cs h=>(hle1.trans q2.le).ro b cs h,fun k v oi h=>(hle1.trans q2.le).ob k v oi h,fun b o h=>⟨(hle1.trans q2.le).fx b o h,by have:=hlt (hg.fx b o h);omega⟩,fun b h=>(hle1.trans q2.le).dm b h⟩
    refine ⟨.normal,g3,t,s2,r1,trivial,hg3,⟨ht.size, ?_,hrt.once,fun i=>(ht.val i).mono hle3⟩,⟨hs2.os,hs2.tape,hs2.output, ?_,fun b hb hno=> ?_,hs2.ro,hs2.own,hs2.new,hs2.kept,hs2.fixd,hle3.fx,hle3.dm,hs2.dmn⟩⟩
    . obtain ⟨ms,j1,j0,j2⟩:=hrt.defers;exact ⟨ms,j1,j0,fun d hd=>by obtain ⟨D,e1,e2⟩:=j2 d hd;exact ⟨D,e1,e2⟩⟩
    . simpa [World.putObj] using hs2.size
    . rw [hother b (by omega)]
      exact hs2.block b hb hno
end
end
section
open Go.RowKit
variable {P:Program} [Bd P]
def T.isFn:T->Bool
 | .fn .. =>true
 | _=>false
theorem kU {v:T} {x:Fd} (h:v=fdT x) (hv:v.isFn=false:=by rfl):False:=by
 obtain ⟨f,ys,e⟩:=qax x;rw [h,e] at hv;cases hv
inductive Lf where
 | int (k:IntKind)
 | bool
 | str
 | sl (e:El)
 | cst
 | el (e:El)
 | pr (e:El)
 | al (e:El)
 | fd
 deriving DecidableEq
@[reducible] def Lf.ty:Lf->Type
 | .int _=>Int
 | .bool=>Bool
 | .str=>ByteArray
 | .sl e=>List (Go.Proofs.YtbglndogddddoaaGreatDoor.ty e)
 | .cst=>Value
 | .el e=>Go.Proofs.YtbglndogddddoaaGreatDoor.ty e
 | .pr e=>Go.Proofs.YtbglndogddddoaaGreatDoor.ty e
 | .al e=>List (Go.Proofs.YtbglndogddddoaaGreatDoor.ty e)
 | .fd=>Fd
def Lf.val:(l:Lf)->l.ty->T
 | .int k,n=> .int k n
 | .bool,b=> .bool b
 | .str,s=> .str s
 | .sl e,l=> .sl false e l
 | .cst,v=> .cst v
 | .el e,x=> .ag (enc e x)
 | .pr e,x=> .pr e x 0
 | .al e,l=> .al e l
 | .fd,x=> .fd x
def gPr (e:El):T->Option (Go.Proofs.YtbglndogddddoaaGreatDoor.ty e)
 | .pr e' x 0=>if h:e'=e then some (h▸x)else none
 | _=>none
def gAl (e:El):T->Option (List (Go.Proofs.YtbglndogddddoaaGreatDoor.ty e))
 | .al e' l=>if h:e'=e then some (jX h l)else none
 | _=>none
theorem qo0 {e:El} {v:T} {x:Go.Proofs.YtbglndogddddoaaGreatDoor.ty e} (h:gPr e v=some x):v= .pr e x 0:=by
 unfold gPr at h;split at h
 . split at h
   . rename_i e1;subst e1;injection h with h;subst h;rfl
   . cases h
 . cases h
theorem qo2 {e:El} {v:T} {x:List (Go.Proofs.YtbglndogddddoaaGreatDoor.ty e)} (h:gAl e v=some x):v= .al e x:=by
 unfold gAl at h;split at h
 . split at h
   . rename_i e1;subst e1;injection h with h;subst h;rfl
   . cases h
 . cases h
def gEl (e:El):T->Option (Go.Proofs.YtbglndogddddoaaGreatDoor.ty e)
 | .ag cs=>match meHead cs with
  | false=>dec e cs
  | true=>none
 | _=>none
def qpY:T->Option Value
 | .cst v=>some v
 | _=>none
def Lf.get:(l:Lf)->T->Option l.ty
 | .int k,v=>Zr k v
 | .bool,v=>qQh v
 | .str,v=>qqP v
 | .sl e,v=>gSl e v
 | .cst,v=>qpY v
 | .el e,v=>gEl e v
 | .pr e,v=>gPr e v
 | .al e,v=>gAl e v
 | .fd,v=>gFd v
abbrev Wkk:T->T->Prop:=Wk2 dec enc
theorem Lf.get_ok: ∀{l:Lf} {v:T} {x:l.ty},l.get v=some x->Wkk v (l.val x)
 | .int _,_,_,h=> .wk (j4 h)
 | .bool,_,_,h=> .wk (qyy h)
 | .str,_,_,h=> .wk (yq h)
 | .sl _,_,_,h=> .wk (YV h)
 | .cst,v,x,h=>by
  cases v<;>simp [Lf.get,qpY] at h
  subst h;exact .wk (.refl _)
 | .el e,v,x,h=>by
  cases v<;>simp only [Lf.get,gEl,reduceCtorEq] at h
  split at h
  . rename_i hm;exact .el e _ x h hm
  . cases h
 | .pr e,v,x,h=>by rw [qo0 h];exact .wk (.refl _)
 | .al e,v,x,h=>by rw [qo2 h];exact .wk (.refl _)
 | .fd,v,x,h=> .wk (qK5 h)
@[reducible] def prodL:List Lf->Type
 | []=>Unit
 | l::r=>l.ty×prodL r
def jD:(ls:List Lf)->prodL ls->List T
 | [],_=>[]
 | l::r,g=>l.val g.1::jD r g.2
def yA:(ls:List Lf)->List T->(prodL ls->Prop)->Prop
 | [],[],W=>W ()
 | l::r,v::vs,W=>match l.get v with
  | some x=>yA r vs fun g=>W (x,g)
  | none=>False
 | _,_,_=>False
inductive All2 (p:T->T->Prop):List T->List T->Prop where
 | nil:All2 p [] []
 | cons {v u:T} {vs us:List T}:p v u->All2 p vs us->All2 p (v::vs) (u::us)
theorem qwQ: ∀{ls:List Lf} {vs:List T} {W:prodL ls->Prop},yA ls vs W-> ∃g,W g/\All2 Wkk vs (jD ls g)
 | [],[],_,h=>⟨(),h,.nil⟩
 | [],_::_,_,h=>h.elim
 | _::_,[],_,h=>h.elim
 | l::r,v::vs,W,h=>by
  simp only [yA] at h;split at h
  . rename_i x hx;obtain ⟨g,g1,g2⟩:=qwQ h;exact ⟨(x,g),g1,.cons (Lf.get_ok hx) g2⟩
  . exact h.elim
theorem All2.append_inv {p:T->T->Prop}: ∀{a b us:List T},All2 p (a++b) us-> ∃u1 u2,us=u1++u2/\All2 p a u1/\All2 p b u2
 | [],b,us,h=>⟨[],us,rfl,.nil,h⟩
 | v::a,b,_,h=>by
  cases h with
  | cons h1 h2=>
   obtain ⟨u1,u2,rfl,k1,k2⟩:=h2.append_inv;exact ⟨_::u1,u2,rfl,.cons h1 k1,k2⟩
inductive Sh where
 | any
 | leaf
 | fsl (e:El)
 | nil
 | pt (p off:Nat)
 | oa (e:El) (p:Nat)
 | pa (e:El) (p:Nat)
 | ov (e:El) (p:Nat)
 | ag (l:List Sh)
 | tu (l:List Sh)
 | fn (f:FuncId) (xs ys:List Sh)
 | ic (t:TypeId) (s:Sh)
 | fp
 | mp (p:Nat)
 | me (e:El)
 | it (q:Nat) (e:El)
 | fe (l:List (Int×Nat))
def feL (l:List (Int×Nat)):List (Int×ByteArray×Nat):=l.map fun p=>(p.1,(⟨#[]⟩:ByteArray),p.2)
def qhl:List (Int×Nat)->List (Int×ByteArray×Nat)->Bool
 | [],[]=>true
 | p::l,q::m=>match decide (p.1=q.1/\p.2=q.2.2)with
  | true=>qhl l m
  | false=>false
 | _,_=>false
theorem qqU: ∀{l:List (Int×Nat)} {m:List (Int×ByteArray×Nat)},qhl l m=true->flatF false m=flatF false (feL l)/\ ∀p∈feL l, ∃q∈m,q.2.2=p.2.2
 | [],[],_=>⟨rfl,fun p hp=>by cases hp⟩
 | [],_::_,h=>by cases h
 | _::_,[],h=>by cases h
 | p::l,q::m,h=>by
  simp only [qhl] at h;split at h;case h_2=>cases h
  rename_i hd;obtain ⟨h1,h2⟩:=Jac hd;obtain ⟨k1,k2⟩:=qqU h;refine ⟨?_,fun r hr=> ?_⟩
  . unfold flatF at k1 ⊢;have k1:=congrArg Array.toList k1;simp only [feL,List.map_cons,List.flatMap_cons,qwY,h1,h2] at k1 ⊢;rw [show _=_ from k1]
  . rcases Jbf.1 hr with rfl | hr
    . exact ⟨q,Jbc ..,h2.symm⟩
    . obtain ⟨r',a,b⟩:=k2 r hr;exact ⟨r',Jbe _ a,b⟩
mutual
def qo:Sh->T->Option (List T)
 | .any,_=>some []
 | .leaf,v=>some [v]
 | .fsl e,.sl true e' l=>match decide (e=e')with
  | true=>some [.sl true e' l]
  | false=>none
 | .nil,.nil=>some []
 | .fp,.fp=>some []
 | .mp p,.mp p'=>match decide (p=p')with
  | true=>some []
  | false=>none
 | .me e,.ments e' l=>match decide (e=e')with
  | true=>some [.sl false e' l]
  | false=>none
 | .it q e,.itr (some q') e' all left _=>match decide (q=q'/\e=e')with
  | true=>some [.sl false e' all,.sl false e' left]
  | false=>none
 | .fe l,.fents false l'=>match qhl l l' with
  | true=>some []
  | false=>none
 | .pt p o,.pt p' o'=>match decide (p=p'/\o=o')with
  | true=>some []
  | false=>none
 | .oa e p,.oa e' p' v=>match decide (e=e'/\p=p'/\v=0)with
  | true=>some []
  | false=>none
 | .pa e p,.pe e' p' v 0 0=>match decide (e=e'/\p=p'/\v=0)with
  | true=>some []
  | false=>none
 | .ov e p,.os e' p' v off n=>match decide (e=e'/\p=p'/\v=0)with
  | true=>some [.int .i64 (off:Int),.int .i64 (n:Int)]
  | false=>none
 | .ag l,.ag vs=>qR l vs
 | .tu l,.tu vs=>qR l vs
 | .fn f xs ys,.fn f' us vs=>match decide (f=f')with
  | true=>match qR xs us,qR ys vs with
   | some a,some b=>some (a++b)
   | _,_=>none
  | false=>none
 | .ic t s,.ic t' v=>match decide (t=t')with
  | true=>qo s v
  | false=>none
 | _,_=>none
def qR:List Sh->List T->Option (List T)
 | [],[]=>some []
 | s::r,v::vs=>match qo s v,qR r vs with
  | some a,some b=>some (a++b)
  | _,_=>none
 | _,_=>none
end
mutual
def XH:Sh->List T->T×List T
 | .any,ls=>(.undef,ls)
 | .leaf,[]=>(.undef,[])
 | .leaf,v::r=>(v,r)
 | .fsl _,.sl _ e' l::r=>(.sl true e' l,r)
 | .fsl _,_::r=>(.undef,r)
 | .fsl _,[]=>(.undef,[])
 | .nil,ls=>(.nil,ls)
 | .fp,ls=>(.fp,ls)
 | .mp p,ls=>(.mp p,ls)
 | .me e,.sl _ e' l::r=>(if e'=e then .ments e' l else .undef,r)
 | .me _,_::r=>(.undef,r)
 | .me _,[]=>(.undef,[])
 | .it q e,.sl _ e1 a:: .sl _ e2 b::r=>(if h:e1=e/\e2=e then .itr (some q) e (jX h.1 a) (jX h.2 b) [] else .undef,r)
 | .it _ _,_::_::r=>(.undef,r)
 | .it _ _,_=>(.undef,[])
 | .fe l,ls=>(.fents false (feL l),ls)
 | .pt p o,ls=>(.pt p o,ls)
 | .oa e p,ls=>(.oa e p 0,ls)
 | .pa e p,ls=>(.pe e p 0 0 0,ls)
 | .ov e p,.int _ a:: .int _ b::r=>(.os e p 0 a.toNat b.toNat,r)
 | .ov _ _,_::_::r=>(.undef,r)
 | .ov _ _,_=>(.undef,[])
 | .ag l,ls=>(.ag (xh l ls).1,(xh l ls).2)
 | .tu l,ls=>(.tu (xh l ls).1,(xh l ls).2)
 | .fn f xs ys,ls=>(.fn f (xh xs ls).1 (xh ys (xh xs ls).2).1,(xh ys (xh xs ls).2).2)
 | .ic t s,ls=>(.ic t (XH s ls).1,(XH s ls).2)
def xh:List Sh->List T->List T×List T
 | [],ls=>([],ls)
 | s::r,ls=>((XH s ls).1::(xh r (XH s ls).2).1,(xh r (XH s ls).2).2)
end
def zl (v u:T):Prop:= ∀(P:Program) (g:G P) (x:Value),R g v x->R g u x
def qA (vs us:List T):Prop:=us.length=vs.length/\ ∀(i:Nat) (u:T),us[i]? =some u-> ∃v,vs[i]? =some v/\zl v u
mutual
theorem qyi: ∀{sh:Sh} {v:T} {vs us:List T} (rest:List T),qo sh v=some vs->All2 Wkk vs us->(XH sh (us++rest)).2=rest/\zl v (XH sh (us++rest)).1
 | .any,v,vs,us,rest,h,k=>by
  simp only [qo,Jah] at h;subst h;cases k;exact ⟨rfl,fun _ g x _=> .undef x⟩
 | .leaf,v,vs,us,rest,h,k=>by
  simp only [qo,Jah] at h;subst h;cases k with
  | cons h1 h2=>
   cases h2;exact ⟨rfl,fun _ g x hx=>hx.wk2 h1⟩
 | .fsl e,v,vs,us,rest,h,k=>by
  cases v with
  | sl b e' l=>
   cases b with
   | false=>simp only [qo,reduceCtorEq] at h
   | true=>
    simp only [qo] at h;split at h;case h_2=>cases h
    simp only [Jah] at h;subst h;cases k with
    | cons h1 h2=>
     cases h2;cases h1 with
     | wk h1=>cases h1 with
      | refl=>exact ⟨rfl,fun _ g x hx=>hx⟩
      | sl=>exact ⟨rfl,fun _ g x hx=>hx⟩
      | fd _ hfd=>exact (kU hfd).elim
  | _=>simp only [qo,reduceCtorEq] at h
 | .nil,v,vs,us,rest,h,k=>by
  cases v<;>simp only [qo,Jah,reduceCtorEq] at h
  subst h;cases k;exact ⟨rfl,fun _ g x hx=>hx⟩
 | .fp,v,vs,us,rest,h,k=>by
  cases v<;>simp only [qo,Jah,reduceCtorEq] at h
  subst h;cases k;exact ⟨rfl,fun _ g x hx=>hx⟩
 | .mp p,v,vs,us,rest,h,k=>by
  cases v<;>simp only [qo,reduceCtorEq] at h
  split at h;case h_2=>cases h
  rename_i hd;obtain rfl:=Jac hd;simp only [Jah] at h;subst h;cases k;exact ⟨rfl,fun _ g x hx=>hx⟩
 | .me e,v,vs,us,rest,h,k=>by
  cases v<;>simp only [qo,reduceCtorEq] at h
  split at h;case h_2=>cases h
  rename_i hd;obtain rfl:=Jac hd;simp only [Jah] at h;subst h;cases k with
  | cons h1 h2=>
   cases h2;cases h1 with
   | wk h1=>cases h1 with
    | refl=>exact ⟨rfl,fun _ g x hx=>by simp only [List.cons_append,XH,if_true];exact hx⟩
    | sl=>exact ⟨rfl,fun _ g x hx=>by simp only [List.cons_append,XH,if_true];exact hx⟩
    | fd _ hfd=>exact (kU hfd).elim
 | .it q e,v,vs,us,rest,h,k=>by
  cases v with
  | itr k0 e' all left cur=>
   cases k0 with
   | none=>simp only [qo,reduceCtorEq] at h
   | some q'=>
    simp only [qo] at h;split at h;case h_2=>cases h
    rename_i hd;obtain ⟨rfl,rfl⟩:=Jac hd;simp only [Jah] at h;subst h;cases k with
    | cons h1 h2=>
     cases h2 with
     | cons h3 h4=>
      cases h4;cases h1 with | wk h1=>cases h3 with | wk h3=>cases h1<;>first | (rename_i hfd;exact (kU hfd).elim) | cases h3<;>first | (rename_i hfd;exact (kU hfd).elim) | exact ⟨rfl,fun _ g x hx=>by simp only [List.cons_append,List.nil_append,XH,and_self,dif_pos,jX];cases hx with
       | it _ _ _ _ _ oi seen h1 h2 _=>exact .it q e all left [] oi seen h1 h2 (fun x hx=>by cases hx)⟩
  | _=>simp only [qo,reduceCtorEq] at h
 | .fe l,v,vs,us,rest,h,k=>by
  cases v with
  | fents b l'=>
   cases b with
   | true=>simp only [qo,reduceCtorEq] at h
   | false=>
    simp only [qo] at h;split at h;case h_2=>cases h
    rename_i hd;obtain ⟨e1,e2⟩:=qqU hd;simp only [Jah] at h;subst h;cases k;refine ⟨rfl,fun _ g x hx=> ?_⟩
    cases hx with
    | fe _ _ hy=>
     rw [e1];exact .fe false (feL l) fun p hp=>by
      obtain ⟨q,q1,q2⟩:=e2 p hp;rw [<- q2];exact hy q q1
  | _=>simp only [qo,reduceCtorEq] at h
 | .pt p o,v,vs,us,rest,h,k=>by
  cases v<;>simp only [qo,reduceCtorEq] at h
  split at h;case h_2=>cases h
  rename_i hd;obtain ⟨rfl,rfl⟩:=Jac hd;simp only [Jah] at h;subst h;cases k;exact ⟨rfl,fun _ g x hx=>hx⟩
 | .oa e p,v,vs,us,rest,h,k=>by
  cases v<;>simp only [qo,reduceCtorEq] at h
  split at h;case h_2=>cases h
  rename_i hd;obtain ⟨rfl,rfl,rfl⟩:=Jac hd;simp only [Jah] at h;subst h;cases k;exact ⟨rfl,fun _ g x hx=>hx⟩
 | .pa e p,v,vs,us,rest,h,k=>by
  cases v with
  | pe e' p' v' i j=>
   cases i with
   | succ i=>simp only [qo,reduceCtorEq] at h
   | zero=>
    cases j with
    | succ j=>simp only [qo,reduceCtorEq] at h
    | zero=>
     simp only [qo] at h;split at h;case h_2=>cases h
     rename_i hd;obtain ⟨rfl,rfl,rfl⟩:=Jac hd;simp only [Jah] at h;subst h;cases k;exact ⟨rfl,fun _ g x hx=>hx⟩
  | _=>simp only [qo,reduceCtorEq] at h
 | .ov e p,v,vs,us,rest,h,k=>by
  cases v with
  | os e' p' v' off n=>
   simp only [qo] at h;split at h;case h_2=>cases h
   rename_i hd;obtain ⟨rfl,rfl,rfl⟩:=Jac hd;simp only [Jah] at h;subst h;cases k with
   | cons h1 h2=>
    cases h2 with
    | cons h3 h4=>
     cases h4;cases h1 with | wk h1=>cases h3 with | wk h3=>cases h1<;>first | (rename_i hfd;exact (kU hfd).elim) | cases h3<;>first | (rename_i hfd;exact (kU hfd).elim) | exact ⟨rfl,fun _ g x hx=>by simp only [List.cons_append,List.nil_append,XH,Jay];exact hx⟩
  | _=>simp only [qo,reduceCtorEq] at h
 | .ag l,v,vs,us,rest,h,k=>by
  cases v<;>simp only [qo,reduceCtorEq] at h
  obtain ⟨h1,h2,h3⟩:=wT rest h k;refine ⟨h1,fun _ g x hx=> ?_⟩
  cases hx with
  | ag cs xs k1 k2 k3=>
   refine .ag _ xs (by rw [<- k1];exact h2) (fun i c y hc hy=> ?_) k3
   obtain ⟨c0,c1,c2⟩:=h3 i c hc;exact c2 _ g y (k2 i c0 y c1 hy)
 | .tu l,v,vs,us,rest,h,k=>by
  cases v<;>simp only [qo,reduceCtorEq] at h
  obtain ⟨h1,h2,h3⟩:=wT rest h k;refine ⟨h1,fun _ g x hx=> ?_⟩
  cases hx with
  | tu cs xs k1 k2=>
   refine .tu _ xs (by rw [<- k1];exact h2) (fun i c y hc hy=> ?_)
   obtain ⟨c0,c1,c2⟩:=h3 i c hc;exact c2 _ g y (k2 i c0 y c1 hy)
 | .fn f xs ys,v,vs,us,rest,h,k=>by
  cases v<;>simp only [qo,reduceCtorEq] at h
  split at h;case h_2=>cases h
  rename_i hd;obtain rfl:=Jac hd;split at h;case h_2=>cases h
  rename_i a b ha hb;simp only [Jah] at h;subst h;obtain ⟨u1,u2,rfl,k1,k2⟩:=k.append_inv;obtain ⟨h1,h2,h3⟩:=wT (u2++rest) ha k1;obtain ⟨h4,h5,h6⟩:=wT rest hb k2;simp only [XH,Jat,h1,h4,true_and];intro _ g x hx;cases hx with
  | fn _ as bs xs ys q0 q1 q2 q3 q4=>
   refine .fn f _ _ xs ys q0 (by rw [<- q1];exact h2) (by rw [<- q2];exact h5) (fun i c y hc hy=> ?_) (fun i c y hc hy=> ?_)
   . obtain ⟨c0,c1,c2⟩:=h3 i c hc;exact c2 _ g y (q3 i c0 y c1 hy)
   . obtain ⟨c0,c1,c2⟩:=h6 i c hc;exact c2 _ g y (q4 i c0 y c1 hy)
  | yl _ us0 yi l r q1 q2 q3 q4 q5=>
   have e:=Jan h2;rw [e];refine .yl f _ yi l r q1 q2 q3 (by rw [<- q4];exact h5) fun i c d hc hd=> ?_
   obtain ⟨c0,c1,c2⟩:=h6 i c hc;exact c2 _ g _ (q5 i c0 d c1 hd)
 | .ic t s,v,vs,us,rest,h,k=>by
  cases v<;>simp only [qo,reduceCtorEq] at h
  split at h;case h_2=>cases h
  rename_i hd;obtain rfl:=Jac hd;obtain ⟨h1,h2⟩:=qyi rest h k;refine ⟨h1,fun _ g x hx=> ?_⟩
  cases hx with
  | ic _ _ y hy=>exact .ic _ _ y (h2 _ g y hy)
theorem wT: ∀{l:List Sh} {cs vs us:List T} (rest:List T),qR l cs=some vs->All2 Wkk vs us->(xh l (us++rest)).2=rest/\qA cs (xh l (us++rest)).1
 | [],cs,vs,us,rest,h,k=>by
  cases cs<;>simp only [qR,Jah,reduceCtorEq] at h
  subst h;cases k;exact ⟨rfl,rfl,fun i u hu=>by simp [xh] at hu⟩
 | s::r,cs,vs,us,rest,h,k=>by
  cases cs with
  | nil=>simp [qR] at h
  | cons c cs=>
   simp only [qR] at h;split at h;case h_2=>cases h
   rename_i a b ha hb;simp only [Jah] at h;subst h;obtain ⟨u1,u2,rfl,k1,k2⟩:=k.append_inv;obtain ⟨h1,h2⟩:=qyi (u2++rest) ha k1;obtain ⟨h3,h4,h5⟩:=wT rest hb k2;simp only [xh,Jat,h1,h3,true_and];refine ⟨by simp [h4],fun i u hu=> ?_⟩
   cases i with
   | zero=>simp only [Jbh,Jah] at hu;subst hu;exact ⟨c,rfl,h2⟩
   | succ i=>simp only [Jbd] at hu ⊢;exact h5 i u hu
end
theorem qXC {l:List Sh} {cs vs us rest:List T} (h:qR l cs=some vs) (k:All2 Wkk vs us) (hh:zk (xh l (us++rest)).1=true):zk cs=true:=by
 cases l with
 | nil=>simp [xh,zk] at hh
 | cons s r=>
  cases cs with
  | nil=>simp [qR] at h
  | cons c cs=>
   simp only [qR] at h;split at h;case h_2=>cases h
   rename_i a b ha hb;simp only [Jah] at h;subst h;obtain ⟨u1,u2,rfl,k1,k2⟩:=k.append_inv;simp only [xh,Jat] at hh;cases s with
   | fp=>
    cases c<;>simp only [qo,reduceCtorEq] at ha
    rfl
   | leaf=>
    simp only [qo,Jah] at ha;subst ha;cases k1 with
    | cons q1 q2=>
     cases q2;cases q1 with
     | wk q1=>cases q1 with
      | refl=>cases c<;>first | rfl | exact absurd hh Ja9
      | sl=>cases hh
      | nil=>cases hh
      | fd=>cases hh
     | el=>cases hh
   | fsl e=>
    exfalso;generalize u1++(u2++rest)=L at hh;cases L with
    | nil=>exact Ja9 hh
    | cons v r=>cases v<;>exact Ja9 hh
   | ov e p=>
    exfalso;generalize u1++(u2++rest)=L at hh;cases L with
    | nil=>exact Ja9 hh
    | cons v r=>
     cases r with
     | nil=>cases v<;>exact Ja9 hh
     | cons v2 r2=>cases v<;>cases v2<;>exact Ja9 hh
   | it q e=>
    exfalso;generalize u1++(u2++rest)=L at hh;cases L with
    | nil=>exact Ja9 hh
    | cons v r=>
     cases r with
     | nil=>cases v<;>exact Ja9 hh
     | cons v2 r2=>cases v<;>cases v2<;>first | exact Ja9 hh | (simp only [XH] at hh;split at hh<;>exact Ja9 hh)
   | me e=>
    exfalso;generalize u1++(u2++rest)=L at hh;cases L with
    | nil=>exact Ja9 hh
    | cons v r=>cases v<;>first | exact Ja9 hh | (simp only [XH] at hh;split at hh<;>exact Ja9 hh)
   | _=>simp [XH,zk] at hh
def qWC:List Sh->Bool
 | .me _::_=>true
 | .it _ _::_=>true
 | .fe _::_=>true
 | _=>false
theorem qeV {l:List Sh} {cs vs us rest:List T} (h:qR l cs=some vs) (k:All2 Wkk vs us) (hm:(!meHead cs||qWC l)=true):meHead (xh l (us++rest)).1=meHead cs:=by
 cases l with
 | nil=>cases cs<;>simp [qR] at h;rfl
 | cons s r=>
  cases cs with
  | nil=>simp [qR] at h
  | cons c cs=>
   simp only [qR] at h;split at h;case h_2=>cases h
   rename_i a b ha hb;simp only [Jah] at h;subst h;obtain ⟨u1,u2,rfl,k1,k2⟩:=k.append_inv;simp only [xh,Jat];cases s with
   | me e=>
    cases c<;>simp only [qo,reduceCtorEq] at ha
    split at ha;case h_2=>cases ha
    rename_i hd;obtain rfl:=Jac hd;simp only [Jah] at ha;subst ha;cases k1 with
    | cons q1 q2=>
     cases q2;cases q1 with | wk q1=>cases q1<;>first | (rename_i hfd;exact (kU hfd).elim) | simp [XH,meHead,me1]
   | fe l=>
    cases c with
    | fents b l'=>rfl
    | _=>simp only [qo,reduceCtorEq] at ha
   | it q e=>
    cases c with
    | itr k0 e' all left cur=>
     cases k0 with
     | none=>simp only [qo,reduceCtorEq] at ha
     | some q'=>
      simp only [qo] at ha;split at ha;case h_2=>cases ha
      rename_i hd;obtain ⟨rfl,rfl⟩:=Jac hd;simp only [Jah] at ha;subst ha;cases k1 with
      | cons h1 h2=>
       cases h2 with
       | cons h3 h4=>
        cases h4;cases h1 with | wk h1=>cases h3 with | wk h3=>cases h1<;>first | (rename_i hfd;exact (kU hfd).elim) | cases h3<;>first | (rename_i hfd;exact (kU hfd).elim) | simp [XH,meHead,me1]
    | _=>simp only [qo,reduceCtorEq] at ha
   | leaf=>
    simp only [qo,Jah] at ha;subst ha;cases k1 with
    | cons q1 q2=>
     cases q2;cases q1 with
     | wk q1=>cases q1 with
      | refl=>cases c<;>rfl
      | sl=>rfl
      | nil=>rfl
      | fd _ hfd=>obtain ⟨f0,ys0,e0⟩:=qax _;rw [hfd,e0];rfl
     | el=>rfl
   | fsl e=>
    have hc:meHead (c::cs)=false:=by simpa [qWC] using hm
    rw [hc];generalize u1++(u2++rest)=L;cases L with
    | nil=>rfl
    | cons v r=>cases v<;>rfl
   | ov e p=>
    have hc:meHead (c::cs)=false:=by simpa [qWC] using hm
    rw [hc];generalize u1++(u2++rest)=L;cases L with
    | nil=>rfl
    | cons v r=>
     cases r with
     | nil=>cases v<;>rfl
     | cons v2 r2=>cases v<;>cases v2<;>rfl
   | _=>
    have hc:meHead (c::cs)=false:=by simpa [qWC] using hm
    rw [hc];simp [XH,meHead,me1]
inductive ObSh where
 | none
 | cells (l:List Sh)
 | arr (e:El)
 | el
 | elx (i:Nat) (e:El) (p:Nat)
def qB0 (e:El) (p:Nat):Option T->Bool
 | some (.oa e' p' v)=>decide (e'=e/\p'=p/\v=0)
 | _=>false
def Kv:ObSh->Option Ob->Option (List T)
 | .none,.none=>some []
 | .cells l,some (.cells cs)=>match !meHead cs||qWC l with
  | true=>qR l cs
  | false=>Option.none
 | .arr e,some (.arr v e' l)=>if h:e'=e then match decide (v=0)with
  | true=>some [.sl false e (jX h l)]
  | false=>Option.none else Option.none
 | .el,some (.cells cs)=>some [.ag cs]
 | .elx i e p,some (.cells cs)=>match qB0 e p cs[i]? &&Nat.blt 0 i with
  | true=>some [.ag (cs.set i .nil)]
  | false=>Option.none
 | _,_=>Option.none
def qAk:T->Option Ob
 | .ag cs=>some (.cells cs)
 | _=>none
def qAa (i:Nat) (e:El) (p:Nat):T->Option Ob
 | .ag cs=>some (.cells (cs.set i (.oa e p 0)))
 | _=>none
def qVA (e:El):T->Option Ob
 | .sl _ e' l=>if h:e'=e then some (.arr 0 e (jX h l))else none
 | _=>none
def qym:ObSh->List T->Option Ob×List T
 | .none,ls=>(Option.none,ls)
 | .cells l,ls=>(some (.cells (xh l ls).1),(xh l ls).2)
 | .arr _,[]=>(Option.none,[])
 | .arr e,v::r=>(qVA e v,r)
 | .el,[]=>(Option.none,[])
 | .el,v::r=>(qAk v,r)
 | .elx _ _ _,[]=>(Option.none,[])
 | .elx i e p,v::r=>(qAa i e p v,r)
def ZL:Option Ob->Option Ob->Prop
 | some (.cells cs),some (.cells cs')=>qA cs cs'/\(zk cs'=true->zk cs=true)/\meHead cs'=meHead cs
 | o,o'=>o=o'
theorem qfb {sh:ObSh} {o:Option Ob} {vs us:List T} (rest:List T) (h:Kv sh o=some vs) (k:All2 Wkk vs us):(qym sh (us++rest)).2=rest/\ZL o (qym sh (us++rest)).1:=by
 unfold Kv at h;split at h
 . simp only [Jah] at h;subst h;cases k;exact ⟨rfl,rfl⟩
 . split at h;case h_2=>cases h
   rename_i hm;obtain ⟨h1,h2⟩:=wT rest h k;exact ⟨h1,h2,fun hh=>qXC h k hh,qeV h k hm⟩
 . rename_i e v e' l;split at h;case isFalse=>cases h
   rename_i he;subst he;split at h;case h_2=>cases h
   rename_i hv;have hv:=Jac hv;subst hv;simp only [Jah] at h;subst h;cases k with
   | cons h1 h2=>
    cases h2;cases h1 with
    | wk h1=>cases h1 with
     | refl=>exact ⟨rfl,by simp [qym,qVA,ZL,jX]⟩
     | sl full e l=>exact ⟨rfl,by simp [qym,qVA,ZL,jX]⟩
     | fd _ hfd=>exact (kU hfd).elim
 . rename_i cs;simp only [Jah] at h;subst h;cases k with
   | cons h1 h2=>
    cases h2;cases h1 with
    | wk h1=>cases h1 with
     | refl=>exact ⟨rfl,⟨rfl,fun i u hu=>⟨u,hu,fun _ _ _ h=>h⟩⟩,fun h=>h,rfl⟩
     | fd _ hfd=>exact (kU hfd).elim
    | el e _ x hd hm=>
     obtain ⟨d1,d2⟩:=KY e cs x hd;have hp:=yo e x;refine ⟨rfl,⟨by rw [zF,d1],fun i u hu=> ?_⟩,fun hh=> ?_, ?_⟩
     . obtain ⟨c0,c1,c2⟩:=d2 i u hu;exact ⟨c0,c1,fun _ g y hy=>hy.wk c2⟩
     . generalize enc e x=us at hp hh;cases us with
       | nil=>cases hh
       | cons c r=>
        have:=hp c (Jbc ..);cases c<;>first | exact absurd this Ja9 | exact absurd hh Ja9
     . rw [hm];generalize enc e x=us at hp;cases us with
       | nil=>rfl
       | cons c r=>
        have:=hp c (Jbc ..);cases c<;>first | rfl | exact absurd this Ja9
 . rename_i i e p cs;split at h;case h_2=>cases h
   rename_i hc;rw [Jaq] at hc;obtain ⟨hc,hi⟩:=hc;simp only [Jah] at h;subst h;obtain ⟨i,rfl⟩: ∃j,i=j+1:=⟨i-1,by have:=Jag hi;omega⟩
   cases hg:cs[i+1]? with
   | none=>rw [hg] at hc;exact absurd hc Ja9
   | some c0=>
   rw [hg] at hc;cases c0<;>first | exact absurd hc Ja9 | skip
   rename_i e1 p1 v1;obtain ⟨z1,z2,z3⟩:=Jac hc;subst z1 z2 z3;have hlt:=(Jai.1 hg).1;have hback:(cs.set (i+1) .nil).set (i+1) (.oa e1 p1 0)=cs:=by
    rw [List.set_set];exact Jca fun j=>by
     rw [List.getElem?_set];split
     . rename_i hj;subst hj;first | rw [if_pos hlt,hg] | rw [hg]
     . rfl
   cases k with
   | cons h1 h2=>
    cases h2;cases h1 with
    | wk h1=>cases h1 with
     | refl=>
      refine ⟨rfl, ?_⟩;show ZL _ (some (.cells ((cs.set (i+1) .nil).set (i+1) (.oa e1 p1 0))))
      rw [hback];exact ⟨⟨rfl,fun i u hu=>⟨u,hu,fun _ _ _ h=>h⟩⟩,fun h=>h,rfl⟩
     | fd _ hfd=>exact (kU hfd).elim
    | el e' _ x hd hm=>
     obtain ⟨d1,d2⟩:=KY e' _ x hd;have hp:=yo e' x;have hlen:(enc e' x).length=cs.length:=by rw [zF, <- d1,List.length_set]
     have hh0: ∀us:List T,us.length=cs.length->(∀c∈us,c.pure1=true)->meHead (us.set (i+1) (.oa e1 p1 0))=false/\zk (us.set (i+1) (.oa e1 p1 0))=false:=fun us hl hp=>by
      cases us with
      | nil=>exact ⟨rfl,rfl⟩
      | cons c r=>
       have:=hp c (Jbc ..);cases c<;>first | exact ⟨rfl,rfl⟩ | exact absurd this Ja9
     refine ⟨rfl,⟨by show ((enc e' x).set (i+1) _).length=cs.length;rw [List.length_set,hlen],fun j u hu=> ?_⟩,fun hh=> ?_, ?_⟩
     . have hu:((enc e' x).set (i+1) (.oa e1 p1 0))[j]? =some u:=hu;by_cases hj:i+1=j
       . subst hj;rw [List.getElem?_set_self (by rw [hlen];exact hlt)] at hu
         cases hu;exact ⟨_,hg,fun _ _ _ h=>h⟩
       . rw [List.getElem?_set_ne hj] at hu;obtain ⟨c0,c1,c2⟩:=d2 j u hu;rw [List.getElem?_set_ne hj] at c1;exact ⟨c0,c1,fun _ g y hy=>hy.wk c2⟩
     . rw [(hh0 _ hlen hp).2] at hh;exact absurd hh Ja9
     . rw [(hh0 _ hlen hp).1];have:meHead (cs.set (i+1) .nil)=meHead cs:=by cases cs<;>rfl
       rw [<- this];exact hm.symm
 . cases h
def y8:List (Nat×Sh)->Tm->Option (List T)
 | [],[]=>some []
 | (i,sh)::r,(j,v)::q=>match decide (i=j)with
  | true=>match qo sh v,y8 r q with
   | some a,some b=>some (a++b)
   | _,_=>none
  | false=>none
 | _,_=>none
def vi:List ObSh->St->Option (List T)
 | [],[]=>some []
 | sh::r,o::q=>match Kv sh o,vi r q with
  | some a,some b=>some (a++b)
  | _,_=>none
 | _,_=>none
def qyW:List (Nat×Sh)->List T->Tm×List T
 | [],ls=>([],ls)
 | (i,sh)::r,ls=>((i,(XH sh ls).1)::(qyW r (XH sh ls).2).1,(qyW r (XH sh ls).2).2)
def qw2:List ObSh->List T->St×List T
 | [],ls=>([],ls)
 | sh::r,ls=>((qym sh ls).1::(qw2 r (qym sh ls).2).1,(qw2 r (qym sh ls).2).2)
theorem qQX: ∀{l:List (Nat×Sh)} {t:Tm} {vs us:List T} (rest:List T),y8 l t=some vs->All2 Wkk vs us->(qyW l (us++rest)).2=rest/\ ∀i,zl (get t i) (get (qyW l (us++rest)).1 i)
 | [],t,vs,us,rest,h,k=>by
  cases t<;>simp only [y8,Jah,reduceCtorEq] at h
  subst h;cases k;exact ⟨rfl,fun i _ g x hx=>hx⟩
 | (i,sh)::r,t,vs,us,rest,h,k=>by
  cases t with
  | nil=>simp [y8] at h
  | cons p q=>
   obtain ⟨j,v⟩:=p;simp only [y8] at h;split at h;case h_2=>cases h
   rename_i hd;obtain rfl:=Jac hd;split at h;case h_2=>cases h
   rename_i a b ha hb;simp only [Jah] at h;subst h;obtain ⟨u1,u2,rfl,k1,k2⟩:=k.append_inv;obtain ⟨h1,h2⟩:=qyi (u2++rest) ha k1;obtain ⟨h3,h4⟩:=qQX rest hb k2;simp only [qyW,Jat,h1,h3,true_and];intro m;simp only [get];split
   . exact h2
   . exact h4 m
theorem qxX: ∀{l:List ObSh} {s:St} {vs us:List T} (rest:List T),vi l s=some vs->All2 Wkk vs us->(qw2 l (us++rest)).2=rest/\(qw2 l (us++rest)).1.length=s.length/\ ∀(i:Nat) (o o':Option Ob),s[i]? =some o->(qw2 l (us++rest)).1[i]? =some o'->ZL o o'
 | [],s,vs,us,rest,h,k=>by
  cases s<;>simp only [vi,Jah,reduceCtorEq] at h
  subst h;cases k;exact ⟨rfl,rfl,fun i o o' h=>by simp at h⟩
 | sh::r,s,vs,us,rest,h,k=>by
  cases s with
  | nil=>simp [vi] at h
  | cons o q=>
   simp only [vi] at h;split at h;case h_2=>cases h
   rename_i a b ha hb;simp only [Jah] at h;subst h;obtain ⟨u1,u2,rfl,k1,k2⟩:=k.append_inv;obtain ⟨h1,h2⟩:=qfb (u2++rest) ha k1;obtain ⟨h3,h4,h5⟩:=qxX rest hb k2;simp only [qw2,Jat,h1,h3,true_and,Jaj,h4];intro i p p' hp hp';cases i with
   | zero=>simp only [Jbh,Jah] at hp hp';subst hp;subst hp';exact h2
   | succ i=>simp only [Jbd] at hp hp';exact h5 i p p' hp hp'
theorem qzz {g:G P} {s s':St} {w:World} (hg:Good g s w) (hl:s'.length=s.length) (hw: ∀(i:Nat) (o o':Option Ob),s[i]? =some o->s'[i]? =some o'->ZL o o'):Good g s' w/\ ∀b0,Step b0 g s w g s' w:=by
 have key: ∀k o',s'[k]? =some (some o')-> ∃o,s[k]? =some (some o)/\obVer o'=obVer o/\qn o'=qn o/\vo o'=vo o/\(∀oi,obFits o oi->obFits o' oi)/\(∀oi E m,jt o oi E m->jt o' oi E m)/\qA (qZ o) (qZ o'):=fun k o' h=>by
  have hk:k<s.length:=by rw [<- hl];exact (Jai.1 h).1
  have h1:=hw k s[k] (some o') (by simp [hk]) h
  cases hs:s[k] with
  | none=>rw [hs] at h1;cases o'<;>cases h1
  | some o=>
   rw [hs] at h1;refine ⟨o,Jai.2 ⟨hk,hs⟩, ?_⟩;cases o with
   | cells cs=>
    cases o' with
    | cells cs'=>exact ⟨rfl,rfl,h1.2.2,fun _ _=>trivial,fun _ _ _ h=>yF h1.2.1 h,(h1:qA cs cs'/\_).1⟩
    | arr=>cases h1
   | arr ver e l=>
    have h1:some (Ob.arr ver e l)=some o':=h1;simp only [Jah] at h1;subst h1;exact ⟨rfl,rfl,rfl,fun _ h=>h,fun _ _ _ h=>h,rfl,fun i u hu=>⟨u,hu,fun _ _ _ h=>h⟩⟩
 have hblk: ∀k o o',obVer o'=obVer o->qn o'=qn o->obBlk g k o'=obBlk g k o:=fun k o o' h1 h2=>by unfold obBlk;rw [h1,h2]
 refine ⟨⟨hg.ro,fun k o' h=> ?_,fun k k' o1 o2 b h1 h2 h3 h4=> ?_,fun k v oi h=> ?_,hg.fx,hg.dm,hg.laid⟩,fun b0=>⟨rfl,rfl,rfl,Jam _,fun _ _ _=>rfl,fun _ _ h=>h,fun b hb=> ?_,fun _ _ h=> .inl h,fun k _ o ho=> ?_,fun k _ ver e l ho=> ?_,fun _ _ h=>h,fun _ h=>h,fun _ h=> .inl h⟩⟩
 . obtain ⟨o,h1,h2,h3,hM,h4,h5,h6,h7⟩:=key k o' h;obtain ⟨oi,k1,k2,k3⟩:=hg.obj k o h1;refine ⟨oi,by rw [h2];exact k1,h4 oi k2, ?_⟩
   unfold obRow;rw [h3];rcases k3 with k3 | ⟨k3,blk,E,fr,k4,k5,k6,k7⟩
   . exact .inl k3
   . exact .inr ⟨k3,blk,E,fr,by rw [hM];exact k4,k5,⟨by rw [h6];exact k6.le,fun j u hj=>by
      obtain ⟨c,c1,c2⟩:=h7 j u hj;obtain ⟨x,x1,x2,x3⟩:=k6.at_ j c c1;exact ⟨x,x1,x2,c2 _ g x x3⟩⟩,h5 oi _ _ k7⟩
 . obtain ⟨p,p1,p2,p3,_⟩:=key k o1 h1;obtain ⟨q,q1,q2,q3,_⟩:=key k' o2 h2;rw [hblk k p o1 p2 p3] at h3;rw [hblk k' q o2 q2 q3] at h4;exact hg.inj k k' p q b p1 q1 h3 h4
 . obtain ⟨h1,h2⟩:=hg.old k v oi h;refine ⟨by omega,fun o' ho=> ?_⟩
   obtain ⟨o,k1,k2,_⟩:=key k o' ho;rw [k2];exact h2 o k1
 . obtain ⟨k,o',h1,h2⟩:=hb;obtain ⟨o,k1,k2,k3,_⟩:=key k o' h1;rw [hblk k o o' k2 k3] at h2;exact .inl ⟨k,o,k1,h2⟩
 . have hk:k<s'.length:=by rw [hl];exact (Jai.1 ho).1
   have h1:=hw k (some o) s'[k] ho (by simp [hk])
   cases o with
   | cells cs=>
    cases hs:s'[k] with
    | none=>rw [hs] at h1;cases h1
    | some o'=>
     rw [hs] at h1;cases o' with
     | cells cs'=>exact ⟨cs',Jai.2 ⟨hk,hs⟩,h1.1.1,rfl⟩
     | arr=>cases h1
   | arr ver e l=>
    have h1:some (Ob.arr ver e l)=s'[k]:=h1;exact ⟨ver,l,Jai.2 ⟨hk,h1.symm⟩⟩
 . have hk:k<s'.length:=by rw [hl];exact (Jai.1 ho).1
   have h1:some (Ob.arr ver e l)=s'[k]:=hw k (some (.arr ver e l)) s'[k] ho (by simp [hk])
   exact ⟨ver,l,Jai.2 ⟨hk,h1.symm⟩,fun e0=>⟨e0,rfl⟩⟩
theorem qYe {b0:B0} {t t':Tm} {s s':St} (ht: ∀i,zl (get t i) (get t' i)) (hl:s'.length=s.length) (hw: ∀(i:Nat) (o o':Option Ob),s[i]? =some o->s'[i]? =some o'->ZL o o'):jn P b0 t s t' s':=fun g w a n hg h=>by
 obtain ⟨k1,k2⟩:=qzz hg hl hw;exact ⟨g,k1,⟨h.size,h.defers,h.once,fun i=>ht i _ g _ (h.val i)⟩,k2 b0⟩
structure Hint where
 slots:List ((Nat×List Nat)×Option El)
 live:List (Nat×Sh)
 objs:List ObSh
 ls:List Lf
def qJW (s:St):T->List Nat->T
 | v,[]=>v
 | .pt k off,j::r=>match rd s k with
  | some (.cells cs)=>match cs[off+j]? with
   | some u=>qJW s u r
   | none=> .undef
  | _=> .undef
 | .fn _ xs ys,j::r=>match (xs++ys)[j]? with
  | some u=>qJW s u r
  | none=> .undef
 | _,_::_=> .undef
def qyj (t:Tm) (s:St) (d:Nat) (js:List Nat) (e:El):Tm×St:=
 match qJW s (get t d) js with
 | .nil=>match js.getLast? with
  | none=>(put t d (.oa e s.length 0),jI s e)
  | some j=>match qJW s (get t d) js.dropLast with
   | .pt k off=>match rd s k with
    | some (.cells cs)=>match cs[off+j]? with
     | some .nil=>(t,(jI s e).set k (some (.cells (cs.set (off+j) (.oa e s.length 0)))))
     | _=>(t,s)
    | _=>(t,s)
   | _=>(t,s)
 | _=>(t,s)
theorem qVX {s:St} {v:T}:qJW s v []=v:=by cases v<;>rfl
theorem qXZ {b0:B0} {t:Tm} {s:St} {d:Nat} {js:List Nat} {e:El}:jn P b0 t s (qyj t s d js e).1 (qyj t s d js e).2:=by
 unfold qyj;split
 . rename_i hw;split
   . rename_i hj;have:js=[]:=by simpa using hj
     subst this;rw [qVX] at hw;exact qJL e hw
   . split
     . split
       . rename_i hr;split
         . rename_i hc;exact qXK e hr hc
         . exact jn.refl
       . exact jn.refl
     . exact jn.refl
 . exact jn.refl
def VO:List ((Nat×List Nat)×Option El)->Tm->St->Tm×St
 | [],t,s=>(t,s)
 | ((d,js),some e)::r,t,s=>VO r (qyj t s d js e).1 (qyj t s d js e).2
 | (_,none)::r,t,s=>VO r t s
theorem X1 {b0:B0}: ∀(l:List ((Nat×List Nat)×Option El)) (t:Tm) (s:St),jn P b0 t s (VO l t s).1 (VO l t s).2
 | [],_,_=>jn.refl
 | ((d,js),some e)::r,t,s=>qXZ.trans (X1 r _ _)
 | (_,none)::r,t,s=>X1 r t s
def qu3:T->Option Nat
 | .pt k _=>some k
 | .mp k=>some k
 | .itr k .. =>k
 | .as k _=>some k
 | .oa _ k _=>some k
 | .os _ k _ _ _=>some k
 | .pe _ k _ _ _=>some k
 | _=>none
def qh7 (t:Tm) (s:St):List ((Nat×List Nat)×Option El)->Option (List Nat)
 | []=>some []
 | ((d,js),_)::r=>match qu3 (qJW s (get t d) js),qh7 t s r with
  | some k,some l=>some (k::l)
  | _,_=>none
def upto:Nat->List Nat->List Nat
 | 0,l=>l
 | n+1,l=>upto n (n::l)
def ZN:List Nat->Bool
 | []=>true
 | a::r=>match zX r a with
  | some _=>false
  | none=>ZN r
theorem wK: ∀{l:List Nat},ZN l=true->l.Nodup
 | [],_=>List.nodup_nil
 | a::r,h=>by
  simp only [ZN] at h;split at h
  . cases h
  . rename_i hp;exact List.nodup_cons.2 ⟨kY hp,wK h⟩
theorem yS: ∀(n:Nat) (l:List Nat) (k:Nat),k<n->(upto n l)[k]? =some k
 | 0,_,_,h=>absurd h (Ja7 _)
 | n+1,l,k,h=>by
  simp only [upto];by_cases e:k<n
  . exact yS n _ k e
  . have:k=n:=by omega
    subst this;have key: ∀(n:Nat) (l:List Nat) (i:Nat),(upto n l)[n+i]? =l[i]? :=by
     intro n;induction n with
     | zero=>intro l i;simp [upto]
     | succ n ih=>
      intro l i;simp only [upto];rw [show n+1+i=n+(i+1)by omega,ih]
      rfl
    have:=key k (k::l) 0;simpa using this
def Hint.T (h:Hint) (g:prodL h.ls):Tm:=(qyW h.live (jD h.ls g)).1
def Hint.S (h:Hint) (g:prodL h.ls):St:=(qw2 h.objs (qyW h.live (jD h.ls g)).2).1
def qkA:List (Nat×Sh)->List Nat
 | []=>[]
 | (i,_)::r=>i::qkA r
def qkU:Nat->St->Bool
 | 0,_=>true
 | _,[]=>true
 | n+1,o::r=>match o with
  | some (.arr ver _ _)=>match decide (ver=0)with
   | true=>qkU n r
   | false=>false
  | _=>qkU n r
theorem XY: ∀{n:Nat} {s:St},qkU n s=true-> ∀k,k<n-> ∀ver e l,s[k]? =some (some (.arr ver e l))->ver=0
 | 0,_,_,k,hk,_,_,_,_=>absurd hk (Ja7 _)
 | n+1,[],_,k,_,_,_,_,hs=>by simp at hs
 | n+1,o::r,h,k,hk,ver,e,l,hs=>by
  simp only [qkU] at h;cases k with
  | zero=>
   simp only [Jbh,Jah] at hs;subst hs;simp only at h;split at h
   . rename_i hd;exact Jac hd
   . cases h
  | succ k=>
   simp only [Jbd] at hs;refine XY (n:=n) (s:=r) ?_ k (by omega) ver e l hs
   split at h
   . split at h
     . exact h
     . cases h
   . exact h
def Hint.dec1 (h:Hint) (b0:B0) (t:Tm) (s:St) (W:prodL h.ls->Prop):Prop:=
 match qh7 t s h.slots with
 | some ks=>match ZN (upto b0.b ks),Nat.ble b0.c b0.b,qkU b0.c s with
  | true,true,true=>match y8 h.live (rnT s (wH (upto b0.b ks)) t (qkA h.live)),vi h.objs (V8 s true (upto b0.b ks))with
   | some a,some b=>yA h.ls (a++b) W
   | _,_=>False
  | _,_,_=>False
 | none=>False
def Hint.dec (h:Hint) (b0:B0) (t:Tm) (s:St) (W:prodL h.ls->Prop):Prop:=h.dec1 b0 (VO h.slots t s).1 (VO h.slots t s).2 W
theorem Hint.dec_ok {h:Hint} {b0:B0} {t:Tm} {s:St} {W:prodL h.ls->Prop} (hd:h.dec b0 t s W): ∃g,W g/\jn P b0 t s (h.T g) (h.S g):=by
 have c1:=X1 (P:=P) (b0:=b0) h.slots t s;unfold Hint.dec at hd;generalize (VO h.slots t s).1=t1 at hd c1;generalize (VO h.slots t s).2=s1 at hd c1;unfold Hint.dec1 at hd;split at hd;case h_2=>exact hd.elim
 rename_i ks hks;split at hd;case h_2=>exact hd.elim
 rename_i hn hle hfx;have hle:=Jag hle;have c2:=qcN (P:=P) (b0:=b0) (t:=t1) (s:=s1) (wK hn) (fun k hk=>yS b0.b ks k hk) (fun k hk=>⟨yS b0.b ks k (by omega),XY hfx k hk⟩) (qkA h.live)
 split at hd;case h_2=>exact hd.elim
 rename_i a b ha hb;obtain ⟨g,g1,g2⟩:=qwQ hd;obtain ⟨u1,u2,he,k1,k2⟩:=g2.append_inv;refine ⟨g,g1,c1.trans (c2.trans ?_)⟩;obtain ⟨h1,h2⟩:=qQX u2 ha k1;obtain ⟨_,h3,h4⟩:=qxX [] hb k2;rw [List.append_nil] at h3 h4;unfold Hint.T Hint.S;rw [he,h1];exact qYe h2 h3 h4
def QK {γ:Type} (body:(γ->Prop)->γ->Prop):Nat->γ->Prop
 | 0,_=>False
 | m+1,g=>body (QK body m) g
def qy {γ:Type} (body:(γ->Prop)->γ->Prop) (g:γ):Prop:= ∃m,QK body m g
def Ya:Code->Option Nat
 | .region id _ _=>some id
 | .seq a b=>match Ya a with
  | some k=>some k
  | none=>Ya b
 | .cond _ a b=>match Ya a with
  | some k=>some k
  | none=>Ya b
 | .block _ c=>Ya c
 | .loop c=>Ya c
 | .scope c=>Ya c
 | _=>none
def Yl (H:List (Nat×Hint)):Option Nat->Option Hint
 | none=>none
 | some k=>match H with
  | []=>none
  | (j,h)::r=>match decide (k=j)with
   | true=>some h
   | false=>Yl r (some k)
def qQH (b0:B0) (J:Option Hint) (W:Tm->St->Prop) (t:Tm) (s:St):Prop:=
 match J with
 | some h=>h.dec b0 t s fun g=>W (h.T g) (h.S g)
 | none=>W t s
def jQ {γ:Type} (body:γ->Prop) (use:(γ->Prop)->Prop):Prop:=use body
def qg1 (b0:B0) (J:Option Hint) (W:Tm->St->Prop) (U:(Tm->St->Prop)->Prop):Prop:=
 match J with
 | some h=>jQ (γ:=prodL h.ls) (fun g=>W (h.T g) (h.S g)) fun V=>U fun t s=>h.dec b0 t s V
 | none=>U W
theorem qq1 {b0:B0} {J:Option Hint} {W:Tm->St->Prop} {U:(Tm->St->Prop)->Prop}:qg1 b0 J W U=U (qQH b0 J W):=by
 unfold qg1;cases J<;>rfl
def qs2 (id i:Nat):Nat:=2000000+1000*id+i
def qwv (D:TD) (Γ:Qy) (n:Nat) (b0:B0) (J:List (Nat×Hint)) (ops:Array Oper) (id:Nat):Nat->List Oper->Tm->St->(Tm->St->Prop)->(T->Tm->St->Prop)->Prop
 | _,[],t,s,K,_=>K t s
 | i,o::r,t,s,K,X=>qg1 b0 (Yl J (some (qs2 id (i+1)))) (fun t s=>qwv D Γ n b0 J ops id (i+1) r t s K X) fun A=>yb (Ys ops o.guard) t (fun t=>qd5 D Γ o.op (ev t) s (fun v s=>Fin n t o.dst v A s) fun v s=>X v t s)
   fun t=>Fin n t o.dst (.cst Go.undef) A s
def qyJ (mu:FuncId->Bool) (Γ:Qy):Qy:=fun f vs s K X=>match mu f with
 | true=>False
 | false=>Γ f vs s K X
theorem qba {P:Program} {mu:FuncId->Bool} {Γ:Qy} (h:jV P Γ):jV P (qyJ mu Γ):=fun f vs s K X hk=>by
 unfold qyJ at hk;split at hk
 . exact hk.elim
 . exact h f vs s K X hk
def qVx:List (Nat×Hint)->Option Nat->Nat
 | _,none=>0
 | [],_=>0
 | p::H,some k=>match Nat.ble 1000000 p.1&&Nat.beq (p.1%1000000) k with
  | true=>p.1 / 1000000
  | false=>qVx H (some k)
def qz8:Nat->((Tm->St->Prop)->Tm->St->Prop)->(Tm->St->Prop)->Tm->St->Prop
 | 0,_,A=>A
 | k+1,f,A=>f (qz8 k f A)
def Ws (D:TD) (Γ:Qy) (mu:FuncId->Bool) (H J:List (Nat×Hint)) (n:Nat) (b0:B0) (y:Nat):Code->Kc->Tm->St->Prop
 | .skip,K,t,s=>K .normal t s
 | .label _,K,t,s=>K .normal t s
 | .region id ops draw,K,t,s=>match draw with
  | false=>match Yl J (some (qs2 id 0))with
   | none=>Qk D Γ n ops ops.toList t s (K .normal) fun v=>K (.pan v)
   | some _=>qwv D Γ n b0 J ops id 0 ops.toList t s (K .normal) fun v=>K (.pan v)
  | true=>qYP D (qyJ mu Γ) Γ mu n ops t s (K .normal) fun v=>K (.pan v)
 | .seq a b,K,t,s=>qg1 b0 (Yl J (Ya b)) (fun t s=>Ws D Γ mu H J n b0 y b K t s) fun A=>Ws D Γ mu H J n b0 y a (vr A K) t s
 | .cond c a b,K,t,s=>qQG t c (fun t=>Ws D Γ mu H J n b0 y a K t s) fun t=>Ws D Γ mu H J n b0 y b K t s
 | .block id c,K,t,s=>Ws D Γ mu H J n b0 y c (qyr id K) t s
 | .loop c,K,t,s=>match Yl H (Ya c)with
  | some h=>qz8 (qVx H (Ya c)) (fun A=>Ws D Γ mu H J n b0 y c (vr A K)) (fun t s=>h.dec b0 t s (qy fun W g=>Ws D Γ mu H J n b0 y c (vr (fun t s=>h.dec b0 t s W) K) (h.T g) (h.S g))) t s
  | none=>False
 | .ret,K,t,s=>K .ret t s
 | .exit id,K,t,s=>K (.exit id) t s
 | .rangeFunc gop _ _ body,K,t,s=>match wQ body with
  | some k=>match ytab (y+k),ev t gop with
   | some yi,.fn f as bs=>match (ytab f).isNone with
    | true=>Γ f (as++ .fn (y+k) [] (yi.live.map (get t))::bs) s (fun _ s'=>match Jj s' with | true=>K .normal t s' | false=>False) fun v s'=>K (.pan v) t s'
    | false=>False
   | _,_=>False
  | none=>False
 | _,_,_,_=>False
section
variable {P:Program} [Bd P] {D:TD} {Γ:Qy} {mu:FuncId->Bool} {n:Nat} {b0:B0} {t:Tm} {st:St} {Q:Kc}
theorem qv4 {J:Option Hint} {W:Tm->St->Prop} {t:Tm} {s:St} (h:qQH b0 J W t s): ∃t' s',W t' s'/\jn P b0 t s t' s':=by
 unfold qQH at h;split at h
 . obtain ⟨g,g1,g2⟩:=Hint.dec_ok (P:=P) h;exact ⟨_,_,g1,g2⟩
 . exact ⟨t,s,h,jn.refl⟩
theorem QW (hD:zY P D) (hΓ:jV P Γ) {J:List (Nat×Hint)} {id:Nat} {ro:Option Nat} {ops:Array Oper} {Q':Exit->Act->World->Prop}: ∀(l:List Oper) (i:Nat) (g:G P) (st:St) (w:World) (t:Tm) (a:Act),Good g st w->RelT g n t a->qwv D Γ n b0 J ops id i l t st (Q .normal) (fun v=>Q (.pan v))->
  (∀e a' w',Z0 n b0 Q g st w e a' w'->Q' e a' w')->wpListIn (WF ro) 0 P ops Q' l a w
 | [],_,g,st,w,t,a,hg,ht,h,hq=>hq _ _ _ ⟨.normal,g,t,st,h,trivial,hg,ht,Step.refl⟩
 | o::r,i,g,st,w,t,a,hg,ht,h,hq=>by
  unfold qwv at h;rw [qq1] at h;unfold wpListIn;rcases xL ht h with ⟨t1,ht1,h,hw⟩ | ⟨t1,ht1,h,hw⟩
  . rw [if_pos hw];refine kF hD hΓ hg ht1 h ro _ _ (fun v s' x g' w' hk g1 l1 s1 r1=> ?_) (fun u s' v g' w' hx g1 l1 s1 r1=>hq _ _ _ ⟨.pan u,g',t1,s',hx,⟨v,rfl,r1⟩,g1,ht1.mono l1.le,s1 b0⟩)
    obtain ⟨t2,k1,k2⟩:=(ht1.mono l1.le).fin r1 hk;obtain ⟨t3,s3,c1,c2⟩:=qv4 (P:=P) k1;obtain ⟨g3,e1,e2,e3⟩:=c2 g' w' _ n g1 k2;exact QW hD hΓ r (i+1) g3 s3 w' t3 _ e1 e2 c1 fun e a' w' hl=>hq e a' w' (hl.trans ((s1 b0).trans e3))
  . rw [if_neg (by rw [hw];simp)]
    obtain ⟨t2,k1,k2⟩:=ht1.fin (o:=o) (R.cst Go.undef) h;obtain ⟨t3,s3,c1,c2⟩:=qv4 (P:=P) k1;obtain ⟨g3,e1,e2,e3⟩:=c2 g w _ n hg k2;exact ⟨fun _ _=>trivial,QW hD hΓ r (i+1) g3 s3 w t3 _ e1 e2 c1 fun e a' w' hl=>hq e a' w' (hl.trans e3)⟩
theorem qw1 (hD:zY P D) (hΓ:jV P Γ) {J:List (Nat×Hint)} {id:Nat} {ops:Array Oper} (h:qwv D Γ n b0 J ops id 0 ops.toList t st (Q .normal) (fun v=>Q (.pan v))):awp P n b0 (.region id ops false) Q t st:=
 fun ro hro g w a hg ht=>by
  have:=wpIn_region_lit (F:=WF ro) (n:=0) (P:=P) (id:=id) (l:=ops.toList) (Q:=Z0 n b0 Q g st w) (QW hD hΓ (ops:=ops.toList.toArray) ops.toList 0 g st w t a hg ht (by simpa using h) fun _ _ _ hl=>hl)
  simpa using this
def qQ7 (F:Fence) (n:Nat) (P:Program) (Q:Exit->Act->World->Prop) (c:Code):Nat->Act->World->Prop
 | 0=>fun a w=> ∃m,Code.roundsIn F n P c Q m a w
 | k+1=>c.wpIn F n P (Exit.then (qQ7 F n P Q c k) Q)
theorem qqo {F:Fence} {n:Nat} {Q:Exit->Act->World->Prop} {a:Act} {w:World} {c:Code} {j:Nat} (h:qQ7 F n P Q c j a w):(Code.loop c).wpIn F n P Q a w:=by
 intro b k cs hro hb hr;have key: ∀m a w,Code.roundsIn F n P c Q m a w->
   ∃e a' w',Q e a' w'/\ArrivesIn (Machine.fenced P F) P (lone (b.atR a (.code c:: .inLoop c::k)) cs w) b k cs e a' w':=by
  intro m;induction m with
  | zero=>intro a w h;exact h.elim
  | succ m ih=>
   intro a w h;obtain ⟨e,a₁,w₁,hq,harr⟩:=h b (.inLoop c::k) cs hro hb hr;cases e with
   | normal=>
    obtain ⟨e₂,a₂,w₂,hq₂,harr₂⟩:=ih a₁ w₁ hq;exact ⟨e₂,a₂,w₂,hq₂,.of_steps (StepsIn.trans harr (.one (fenced_calm hb hr rfl) stepR_inLoop)) harr₂⟩
   | exit id=>exact ⟨_,a₁,w₁,hq,.pass (x:= .inLoop c) rfl (fun _ _=> .inl (by simp)) harr⟩
   | goto l=>exact ⟨_,a₁,w₁,hq,.pass (x:= .inLoop c) rfl (fun _ _=> .inl (by simp)) harr⟩
   | ret=>exact ⟨_,a₁,w₁,hq,.pass (x:= .inLoop c) rfl (fun _ _=> .inl (by simp)) harr⟩
   | panic ch=>exact ⟨_,a₁,w₁,hq,.pass (x:= .inLoop c) rfl (fun _ _=> .inl (by simp)) harr⟩
   | outgrown=>exact ⟨_,a₁,w₁,hq,.pass (x:= .inLoop c) rfl (fun _ _=> .inl (by simp)) harr⟩
 have first: ∀j a w,qQ7 F n P Q c j a w-> ∃e a' w',Q e a' w'/\ArrivesIn (Machine.fenced P F) P (lone (b.atR a (.code c:: .inLoop c::k)) cs w) b k cs e a' w':=by
  intro j;induction j with
  | zero=>
   rintro a w ⟨m,h⟩;exact key m a w h
  | succ j ih=>
   intro a w h;obtain ⟨e,a₁,w₁,hq,harr⟩:=h b (.inLoop c::k) cs hro hb hr;cases e with
   | normal=>
    obtain ⟨e₂,a₂,w₂,hq₂,harr₂⟩:=ih a₁ w₁ hq;exact ⟨e₂,a₂,w₂,hq₂,.of_steps (StepsIn.trans harr (.one (fenced_calm hb hr rfl) stepR_inLoop)) harr₂⟩
   | exit id=>exact ⟨_,a₁,w₁,hq,.pass (x:= .inLoop c) rfl (fun _ _=> .inl (by simp)) harr⟩
   | goto l=>exact ⟨_,a₁,w₁,hq,.pass (x:= .inLoop c) rfl (fun _ _=> .inl (by simp)) harr⟩
   | ret=>exact ⟨_,a₁,w₁,hq,.pass (x:= .inLoop c) rfl (fun _ _=> .inl (by simp)) harr⟩
   | panic ch=>exact ⟨_,a₁,w₁,hq,.pass (x:= .inLoop c) rfl (fun _ _=> .inl (by simp)) harr⟩
   | outgrown=>exact ⟨_,a₁,w₁,hq,.pass (x:= .inLoop c) rfl (fun _ _=> .inl (by simp)) harr⟩
 obtain ⟨e,a',w',hq,harr⟩:=first j a w h
 exact ⟨e,a',w',hq,.of_steps (.one (fenced_calm hb hr rfl) stepR_loop) harr⟩
theorem qqR {c:Code} {j:Nat} (I:Nat->Tm->St->Prop) (h0:qz8 j (fun A=>awp P n b0 c (vr A Q)) (fun t' st'=> ∃m,I m t' st') t st) (h: ∀m t st,I m t st->awp P n b0 c (vr (fun t' st'=> ∃m',m'<m/\I m' t' st') Q) t st):awp P n b0 (.loop c) Q t st:=by
 intro ro hro g w a hg ht;have key: ∀M m t1 st1 (g1:G P) a1 w1,m<M->I m t1 st1->Good g1 st1 w1->RelT g1 n t1 a1->Step b0 g st w g1 st1 w1->Code.roundsIn (WF ro) 0 P c (Z0 n b0 Q g st w) M a1 w1:=by
  intro M;induction M with
  | zero=>intro m _ _ _ _ _ hm;exact absurd hm (Ja7 _)
  | succ M ih=>
   intro m t1 st1 g1 a1 w1 hm hI h2 h3 h4;rw [roundsIn_succ];refine wpIn_mono (h m t1 st1 hI ro hro g1 w1 a1 h2 h3) fun e a' w' hl=> ?_
   have hl:=hl.trans h4;obtain ⟨e0,g',t',st',k1,k2,k3,k4,k5⟩:=hl;cases e0<;>cases e<;>first
    | (exact k2.elim)
    | (obtain ⟨m',hm',hi⟩:=k1;exact ih m' t' st' g' a' w' (by omega) hi k3 k4 k5)
    | (exact ⟨_,g',t',st',k1,k2,k3,k4,k5⟩)
 have key2: ∀j t1 st1 (g1:G P) a1 w1,qz8 j (fun A=>awp P n b0 c (vr A Q)) (fun t' st'=> ∃m,I m t' st') t1 st1->Good g1 st1 w1->RelT g1 n t1 a1->Step b0 g st w g1 st1 w1->qQ7 (WF ro) 0 P (Z0 n b0 Q g st w) c j a1 w1:=by
  intro j;induction j with
  | zero=>
   rintro t1 st1 g1 a1 w1 ⟨m,hi⟩ h2 h3 h4;exact ⟨m+1,key _ m t1 st1 g1 a1 w1 (Jbw _) hi h2 h3 h4⟩
  | succ j ih=>
   intro t1 st1 g1 a1 w1 h1 h2 h3 h4;refine wpIn_mono (h1 ro hro g1 w1 a1 h2 h3) fun e a' w' hl=> ?_
   have hl:=hl.trans h4;obtain ⟨e0,g',t',st',k1,k2,k3,k4,k5⟩:=hl;cases e0<;>cases e<;>first
    | (exact k2.elim)
    | (exact ih t' st' g' a' w' k1 k3 k4 k5)
    | (exact ⟨_,g',t',st',k1,k2,k3,k4,k5⟩)
 exact qqo (key2 j t st g a w h0 hg ht (Step.refl))
theorem ZR {A A':Tm->St->Prop} (h: ∀t s,A t s->A' t s): ∀e t s,vr A Q e t s->vr A' Q e t s:=fun e t s hk=>by
 cases e<;>first | exact h t s hk | exact hk
theorem zW (hD:zY P D) (hΓ:jV P Γ) (hdet:wl (fun _=>false) (qyJ mu Γ)) (hmx:P.follows .mixedOrders=true) {H J:List (Nat×Hint)} {y:Nat}: ∀(c:Code) (_:yOk P y n c) (Q:Kc) (t:Tm) (st:St),Ws D Γ mu H J n b0 y c Q t st->awp P n b0 c Q t st
 | .skip,_,Q,t,st,h=>qWZ h
 | .label _,_,Q,t,st,h=>qXi h
 | .region id ops draw,_,Q,t,st,h=>by
  cases draw with
  | false=>
   simp only [Ws] at h;split at h
   . exact qyB hD hΓ h
   . exact qw1 hD hΓ h
  | true=>exact qV0 hD (qba hΓ) hΓ hdet hmx h
 | .seq a b,hy,Q,t,st,h=>by
  simp only [Ws] at h;rw [qq1] at h;refine qfW (Yf (zW hD hΓ hdet hmx a hy.1 _ t st h) (ZR fun t s hk=> ?_))
  unfold qQH at hk;split at hk
  . obtain ⟨g,g1,g2⟩:=Hint.dec_ok (P:=P) hk;exact g2.awp (zW hD hΓ hdet hmx b hy.2 Q _ _ g1)
  . exact zW hD hΓ hdet hmx b hy.2 Q t s hk
 | .cond c a b,hy,Q,t,st,h=>by
  refine qX5 ?_;simp only [Ws] at h;unfold qQG at h ⊢;split at h
  . rename_i v hv;split at h
    . cases hb:v<;>rw [hb] at h
      . exact zW hD hΓ hdet hmx b hy.2 Q _ _ h
      . exact zW hD hΓ hdet hmx a hy.1 Q _ _ h
    . cases hb:v<;>rw [hb] at h
      . exact zW hD hΓ hdet hmx b hy.2 Q _ _ h
      . exact zW hD hΓ hdet hmx a hy.1 Q _ _ h
  . exact ⟨zW hD hΓ hdet hmx a hy.1 Q _ _ h.1,zW hD hΓ hdet hmx b hy.2 Q _ _ h.2⟩
  . exact h.elim
 | .block id c,hy,Q,t,st,h=>qJ5 (zW hD hΓ hdet hmx c hy _ t st h)
 | .loop c,hy,Q,t,st,h=>by
  simp only [Ws] at h;split at h;case h_2=>exact h.elim
  rename_i hh _;have round: ∀m t s,(∃g,QK (fun W g=>Ws D Γ mu H J n b0 y c (vr (fun t s=>hh.dec b0 t s W) Q) (hh.T g) (hh.S g)) m g/\jn P b0 t s (hh.T g) (hh.S g))->
    awp P n b0 c (vr (fun t' st'=> ∃m',m'<m/\ ∃g,QK (fun W g=>Ws D Γ mu H J n b0 y c (vr (fun t s=>hh.dec b0 t s W) Q) (hh.T g) (hh.S g)) m' g/\jn P b0 t' st' (hh.T g) (hh.S g)) Q) t s:=by
   rintro m t s ⟨g,hm,hc⟩;cases m with
   | zero=>exact hm.elim
   | succ m=>
    refine hc.awp (Yf (zW hD hΓ hdet hmx c hy _ _ _ hm) (ZR fun t' s' hk=> ?_))
    obtain ⟨g',g1,g2⟩:=Hint.dec_ok (P:=P) hk;exact ⟨m,Jbw m,g',g1,g2⟩
  refine qqR (j:=qVx H (Ya c)) (fun m t s=> ∃g,QK (fun W g=>Ws D Γ mu H J n b0 y c (vr (fun t s=>hh.dec b0 t s W) Q) (hh.T g) (hh.S g)) m g/\jn P b0 t s (hh.T g) (hh.S g)) ?_ round
  have down: ∀j t s,qz8 j (fun A=>Ws D Γ mu H J n b0 y c (vr A Q)) (fun t s=>hh.dec b0 t s (qy fun W g=>Ws D Γ mu H J n b0 y c (vr (fun t s=>hh.dec b0 t s W) Q) (hh.T g) (hh.S g))) t s->
    qz8 j (fun A=>awp P n b0 c (vr A Q)) (fun t s=> ∃m, ∃g,QK (fun W g=>Ws D Γ mu H J n b0 y c (vr (fun t s=>hh.dec b0 t s W) Q) (hh.T g) (hh.S g)) m g/\jn P b0 t s (hh.T g) (hh.S g)) t s:=by
   intro j;induction j with
   | zero=>
    intro t s hk;obtain ⟨g,⟨m,hm⟩,hc⟩:=Hint.dec_ok (P:=P) hk;exact ⟨m,g,hm,hc⟩
   | succ j ih=>
    intro t s hk;exact Yf (zW hD hΓ hdet hmx c hy _ _ _ hk) (ZR fun t' s' hk=>ih t' s' hk)
  exact down _ _ _ h
 | .ret,_,Q,t,st,h=>qcr h
 | .exit id,_,Q,t,st,h=>qVc h
 | .rangeFunc gop ps a b,hy,Q,t,st,h=>by
  obtain ⟨k,k1,k3⟩:=hy;simp only [Ws,k1] at h;split at h;case h_2=>exact h.elim
  rename_i yi f as bs k2 hv;split at h;case h_2=>exact h.elim
  rename_i hf;refine qXU hΓ k2 k3 hv (by simpa using hf) ?_
  have e:(fun (_:T) s'=>Jj s'=true/\Q .normal t s')=fun _ s'=>match Jj s' with | true=>Q .normal t s' | false=>False:=by
   funext _ s'
   cases Jj s'<;>simp
  rw [e];exact h
 | .scope _,_,_,_,_,h=>h.elim
 | .goto _,_,_,_,_,h=>h.elim
 | .refuse _,_,_,_,_,h=>h.elim
end
end
section
open Go.RowKit
variable {P:Program}
def YO:Nat->List T->Tm
 | _,[]=>[]
 | i,v::r=>(i,v)::YO (i+1) r
theorem qzw: ∀(us:List T) (i j:Nat),get (YO i us) j=if i<=j then us.getD (j-i) .undef else .undef
 | [],i,j=>by simp [YO,get]
 | v::r,i,j=>by
  simp only [YO,get];by_cases e:j=i
  . subst e;simp
  . rw [if_neg e,qzw r (i+1) j];by_cases h:i<=j
    . have h1:j-i=(j- (i+1))+1:=by omega
      rw [if_pos (by omega),if_pos h,h1];simp
    . rw [if_neg (by omega),if_neg h]
def qqH (D:TD) (t:Tm) (s:St):List ResultVar->(List T->Prop)->Prop
 | [],K=>K []
 | .tmp i::r,K=>qqH D t s r fun l=>K (get t i::l)
 | .cell i ty::r,K=>match zx D ty with
  | some ti=>Qd ti s (get t i) fun v=>qqH D t s r fun l=>K (v::l)
  | none=>False
def qki:List T->T
 | [v]=>v
 | vs=> .tu vs
def qrA (D:TD) (rs:List ResultVar) (K X:Kn):Kc
 | .ret,t,s=>qqH D t s rs fun l=>K (qki l) s
 | .normal,t,s=>qqH D t s rs fun l=>K (qki l) s
 | .pan v,_,s=>X v s
 | _,_,_=>False
def zb (D:TD) (Γ:Qy) (mu:FuncId->Bool) (H J:List (Nat×Hint)) (n:Nat) (rs:List ResultVar) (c:Code) (args:List T) (st:St) (K X:Kn) (c0:Nat:=0) (y:Nat:=0):Prop:=
 Ws D Γ mu H J n ⟨st.length,c0⟩ y c (qrA D rs K X) (YO 0 args) st
def FCalls (P:Program) (f:FuncId) (vs:List T) (st:St) (K X:Kn) (c0:Nat:=0):Prop:=
 ∀(g:G P) (w:World),Good g st w->Qw P f g vs w fun e w'=> ∃(g':G P) (st':St),Good g' st' w'/\Step ⟨st.length,c0⟩ g st w g' st' w'/\
  match e with
  | .returned x=> ∃r,K r st'/\R g' r x
  | .panicked ch=> ∃v u,ch=[{v,recovered:=false}]/\X u st'/\R g' u v
  | .outgrown=>False
section
variable {P:Program} {D:TD} {Γ:Qy} {mu:FuncId->Bool} {g:G P} {st:St} {w:World} {n:Nat} {b0:B0} {t:Tm} {a:Act}
theorem qzo {us:List T} {args:Array Value} (h:RL g us args) (hl:us.length<=n):RelT g n (YO 0 us) {tmps:=args++Array.replicate (n-args.size) Go.undef,defers:=[]}:=by
 refine ⟨by simp;have:=h.len;omega,⟨[],rfl,fun _=>rfl,by simp⟩,by simp,fun i=> ?_⟩
 rw [qzw];simp only [Jbt,if_true,Nat.sub_zero,Jbb,Jbq];by_cases hi:i<us.length
 . have hi':i<args.size:=by rw [<- h.len];exact hi
   rw [Jbi hi',Jao hi,Jaw hi'];exact h.val i _ _ (Jao hi) (Jaw hi')
 . rw [Ja0 (by omega)]
   exact .undef _
def qxA (tmps:Array Value):ResultVar->Sem Value
 | .tmp t=>pure (tmps.getD t Go.undef)
 | .cell p T=>do loadVar T (<- asAddr (tmps.getD p Go.undef))
theorem Z6 (hD:zY P D) (hg:Good g st w) (ht:RelT g n t a): ∀(rs:List ResultVar) (K:List T->Prop),qqH D t st rs K->
  ∃(xs:List Value) (vs:List T),K vs/\(rs.mapM (qxA a.tmps)).run P w= .ok xs w/\vs.length=xs.length/\ ∀(i:Nat) (v:T) (x:Value),vs[i]? =some v->xs[i]? =some x->R g v x
 | [],K,h=>⟨[],[],h,by simp,rfl,by simp⟩
 | .tmp i::r,K,h=>by
  obtain ⟨xs,vs,k0,k1,k2,k3⟩:=Z6 hD hg ht r _ h;refine ⟨a.tmps.getD i Go.undef::xs,_,k0,by simp only [List.mapM_cons,qxA,Sem.run_bind,Sem.run_pure,Result.andThen_ok,k1],by simp [k2],fun j v x hv hx=> ?_⟩
  cases j with
  | zero=>simp only [Jbh,Jah] at hv hx;subst hv;subst hx;exact ht.val i
  | succ j=>simp only [Jbd] at hv hx;exact k3 j v x hv hx
 | .cell p ty::r,K,h=>by
  simp only [qqH] at h;split at h;case h_2=>exact h.elim
  rename_i ti hti;obtain ⟨ad,y,u,hx,hload,hy,h⟩:=YR (hD _ _ hti) hg (ht.val p) h;obtain ⟨xs,vs,k0,k1,k2,k3⟩:=Z6 hD hg ht r _ h;refine ⟨y::xs,_,k0,by simp only [List.mapM_cons,qxA,Sem.run_bind,Sem.run_pure,Result.andThen_ok,hx,asAddr,hload,k1],by simp [k2],fun j v x hv hx=> ?_⟩
  cases j with
  | zero=>simp only [Jbh,Jah] at hv hx;subst hv;subst hx;exact hy
  | succ j=>simp only [Jbd] at hv hx;exact k3 j v x hv hx
theorem yX (hD:zY P D) {fn:Func} {K:T->Prop} (hg:Good g st w) (ht:RelT g n t a) (h:qqH D t st fn.results.toList fun l=>K (qki l)): ∃x v,K v/\(results fn a.tmps).run P w= .ok x w/\R g v x:=by
 obtain ⟨xs,vs,k0,k1,k2,k3⟩:=Z6 hD hg ht _ _ h;have hrun:(results fn a.tmps).run P w= .ok (if h:xs.toArray.size=1 then xs.toArray[0] else .tuple xs.toArray) w:=by
  have he:results fn a.tmps=(do let vs <- fn.results.mapM (qxA a.tmps);pure (if h:vs.size=1 then vs[0] else .tuple vs)):=rfl
  rw [he,Array.mapM_eq_mapM_toList];simp only [map_eq_pure_bind,Sem.run_bind,Sem.run_pure,k1,Result.andThen_ok]
 refine ⟨_,qki vs,k0,hrun, ?_⟩;cases vs with
 | nil=>
  have:xs=[]:=Jan k2.symm;subst this;exact .tu _ _ rfl (by simp)
 | cons v r=>
  cases r with
  | nil=>
   obtain ⟨x,rfl⟩: ∃x,xs=[x]:=by
    cases xs with
    | nil=>simp at k2
    | cons x l=>cases l with
     | nil=>exact ⟨x,rfl⟩
     | cons=>simp at k2
   exact k3 0 v x rfl rfl
  | cons v' r'=>
   have hne: ¬xs.toArray.size=1:=by simp;simp at k2;omega
   rw [dif_neg hne];exact .tu _ _ (by simpa using k2) (fun i c x hc hx=>k3 i c x hc (by simpa using hx))
theorem RelT.dm0 (h:RelT g n t a): ∀d∈a.defers, ∃D,d={target:= .collected D,args:= #[]}/\g.dm D:=by
 obtain ⟨ms,k1,_,k2⟩:=h.defers;have k1:a.defers=ms++[]:=k1;rw [k1,List.append_nil];exact k2
theorem qqg {fn:Func} {R':Ending->World->Prop} {u:FrameMode} {bs:List Deferred} (hu:u≠ .run): ∀(ds:List Deferred) (g:G P) (st:St) (w:World) (tmps:Array Value),Good g st w->(∀d∈ds, ∃D,d={target:= .collected D,args:= #[]}/\g.dm D)->ds.Nodup->
  (∀(g':G P) (w':World),Good g' st w'->g'.ro=g.ro->g'.ob=g.ob->g'.fx=g.fx->w'.os=w.os->w'.tape=w.tape->w'.output=w.output->w'.heap.size=w.heap.size->(∀b, ¬g.dm b->w'.heap[b]? =w.heap[b]?)->LeavesInM (WF none) 0 P fn tmps R' bs u w')->LeavesInM (WF none) 0 P fn tmps R' (ds++bs) u w
 | [],g,st,w,tmps,hg,_,_,h=>h g w hg rfl rfl rfl rfl rfl rfl rfl fun _ _=>rfl
 | d::ds,g,st,w,tmps,hg,hd,hn,h=>by
  obtain ⟨D,rfl,hD⟩:=hd d (by simp)
  have h1:=hg.dm D hD;have hother: ∀b,b≠D->(w.putObj D (.deferred none)).heap[b]? =w.heap[b]? :=fun b hb=>World.putObj_heap_other hb
  have hne: ∀b m c t fr,vO m w.heap[b]? =some (.cells c t fr)->b≠D:=fun b m c t fr hb e=>by subst e;rw [h1] at hb;cases m<;>cases hb
  refine ⟨hu,.inl ⟨D,w.putObj D (.deferred none),rfl,run_takeDeferred h1,qqg hu ds {g with dm:=fun b=>g.dm b/\b≠D} st _ tmps ?_ (fun d' hd'=> ?_) (List.nodup_cons.1 hn).2 fun g' w' k1 k2 k3 k4 k5 k6 k7 k8 k9=>h g' w' k1 k2 k3 k4 k5 k6 k7 (k8.trans (by simp [World.putObj])) fun b hb=> ?_⟩⟩
  . refine ⟨fun b cs hb=> ?_,fun k o ho=> ?_,hg.inj,hg.old,fun b o hb=> ?_,fun b hb=> ?_,hg.laid⟩
    . obtain ⟨blk,E,fr,p1,p2⟩:=hg.ro b cs hb;exact ⟨blk,E,fr,by rw [hother b (hne b false _ _ _ p1)];exact p1,p2.pure fun _ _ h=>h⟩
    . obtain ⟨oi,p1,p2,p3⟩:=hg.obj k o ho;refine ⟨oi,p1,p2, ?_⟩;rcases p3 with p3 | ⟨p3,blk,E,fr,p4,p5,p6,p7⟩
      . exact .inl p3
      . exact .inr ⟨p3,blk,E,fr,by rw [hother _ (hne _ _ _ _ _ p4)];exact p4,p5,p6.same rfl rfl fun _ _ h=>h,p7⟩
    . have:=hg.fx b o hb;rw [hother b (fun e=>by subst e;rw [h1] at this;cases this)]
      exact this
    . rw [hother b hb.2];exact hg.dm b hb.1
  . obtain ⟨D',rfl,hD'⟩:=hd d' (Jbe _ hd');refine ⟨D',rfl,hD', ?_⟩;rintro rfl;exact (List.nodup_cons.1 hn).1 hd'
  . by_cases e:b=D
    . subst e;exact absurd hD hb
    . rw [k9 b fun hx=>hb hx.1,hother b e]
theorem Vm {fn:Func} {R':Ending->World->Prop} {u:FrameMode} (hu:u≠ .run) (ds:List Deferred) (g:G P) (st:St) (w:World) (tmps:Array Value) (hg:Good g st w) (hd: ∀d∈ds, ∃D,d={target:= .collected D,args:= #[]}/\g.dm D) (hn:ds.Nodup)
  (h: ∀(g':G P) (w':World),Good g' st w'->g'.ro=g.ro->g'.ob=g.ob->g'.fx=g.fx->w'.os=w.os->w'.tape=w.tape->w'.output=w.output->w'.heap.size=w.heap.size->(∀b, ¬g.dm b->w'.heap[b]? =w.heap[b]?)->LeavesIn (WF none) 0 P fn tmps R' [] u w'):LeavesInM (WF none) 0 P fn tmps R' ds u w:=by
 have:=qqg (bs:=[]) hu ds g st w tmps hg hd hn h;rwa [List.append_nil] at this
theorem Zl (hD:zY P D) (hΓ:jV P Γ) (hdet:wl (fun _=>false) (qyJ mu Γ)) (hm:P.follows .mixedOrders=true) {H J:List (Nat×Hint)} {f:FuncId} {fn:Func} {c:Code} {rs:List ResultVar} {m:Nat} {us:List T} {K X:Kn} (hf:P.funcs[f]? =some fn) (hb:fn.body=some c) (hn:fn.ntmps=m) (hr:fn.results=rs.toArray) (he:vT P f=true) (hl:us.length<=m)
  {c0 y:Nat} (h:zb D Γ mu H J m rs c us st K X c0 y) (hy:yOk P y m c:=by exact vU (by kernel_rfl)):FCalls P f us st K X c0:=by
 subst hn;refine fun g w hg=>Qw.of he fun args hrl=> ?_
 -- the callee has no marks of its own yet
 have hgc:Good {g with dm:=fun _=>False} st w:=⟨fun b cs hb=>by obtain ⟨blk,E,fr,p1,p2⟩:=hg.ro b cs hb;exact ⟨blk,E,fr,p1,p2.pure fun _ _ h=>h⟩,fun k o ho=>by
  obtain ⟨oi,p1,p2,p3⟩:=hg.obj k o ho;refine ⟨oi,p1,p2, ?_⟩;rcases p3 with p3 | ⟨p3,blk,E,fr,p4,p5,p6,p7⟩
  . exact .inl p3
  . exact .inr ⟨p3,blk,E,fr,p4,p5,p6.same rfl rfl fun _ _ h=>h,p7⟩,hg.inj,hg.old,hg.fx,fun _ h=>h.elim,hg.laid⟩
 have hrc:RL {g with dm:=fun _=>False} us args:=⟨hrl.len,fun i u x hu hx=>(hrl.val i u x hu hx).same rfl rfl fun _ _ h=>h⟩
 refine callsIn_wide.1 (callsIn_of_wp_marks (F:=WF none) (n:=0) hf hb trivial (wpIn_mono (zW (P:=P) (b0:=⟨st.length,c0⟩) hD hΓ hdet hm c hy _ _ _ h none (.inl ⟨rfl,rfl⟩) _ w _ hgc (qzo hrc hl)) ?_));rintro e a' w' ⟨e0,g',t',st',h1,h2,h3,h4,h5⟩;-- what is left of the ghost once the marks are taken
 have fin: ∀(g1:G P) (w1:World),Good g1 st' w1->g1.ro=g'.ro->g1.ob=g'.ob->g1.fx=g'.fx->w1.os=w'.os->w1.tape=w'.tape->w1.output=w'.output->w1.heap.size=w'.heap.size->(∀b, ¬g'.dm b->w1.heap[b]? =w'.heap[b]?)->
   Good {g1 with dm:=g.dm} st' w1/\Step ⟨st.length,c0⟩ g st w {g1 with dm:=g.dm} st' w1:=by
  intro g1 w1 q1 q2 q3 q4 q5 q6 q7 q8 q9;have hmark: ∀b,b<w.heap.size-> ¬g'.dm b:=fun b hb hx=>by
   rcases h5.dmn b hx with h | h
   . exact h
   . omega
  have hsame: ∀b,b<w.heap.size-> ¬Own g st b->w1.heap[b]? =w.heap[b]? :=fun b hb hno=>by
   rw [q9 b (hmark b hb)];exact h5.block b hb hno
  refine ⟨⟨fun b cs hb=>by obtain ⟨blk,E,fr,p1,p2⟩:=q1.ro b cs hb;exact ⟨blk,E,fr,p1,p2.pure fun _ _ h=>h⟩,fun k o ho=>by
   obtain ⟨oi,p1,p2,p3⟩:=q1.obj k o ho;refine ⟨oi,p1,p2, ?_⟩;rcases p3 with p3 | ⟨p3,blk,E,fr,p4,p5,p6,p7⟩
   . exact .inl p3
   . exact .inr ⟨p3,blk,E,fr,p4,p5,p6.same rfl rfl fun _ _ h=>h,p7⟩,q1.inj,q1.old,q1.fx,fun b hb=>hg.dm_keep hsame hb,q1.laid⟩, ?_⟩
  obtain ⟨ro1,ob1,fx1,dm1⟩:=g1;simp only at q2 q3 q4;subst q2;subst q3;subst q4;exact ⟨q5.trans h5.os,q6.trans h5.tape,q7.trans h5.output,by rw [q8];exact h5.size,hsame,h5.ro,h5.own,h5.new,h5.kept,h5.fixd,h5.fx,fun _ h=>h,fun _ h=> .inl h⟩
 have hpost:(e0= .ret∨e0= .normal)->LeavesInM (WF none) 0 P fn a'.tmps (fun e w'=> ∃(g':G P) (st':St),Good g' st' w'/\Step ⟨st.length,c0⟩ g st w g' st' w'/\
   match e with
   | .returned x=> ∃r,K r st'/\R g' r x
   | .panicked ch=> ∃v u,ch=[{v,recovered:=false}]/\X u st'/\R g' u v
   | .outgrown=>False) a'.defers .returning w':=fun he=>by
  have h1':qqH D t' st' fn.results.toList fun l=>K (qki l) st':=by
   rw [hr];rcases he with rfl | rfl<;>simpa [qrA] using h1
  refine Vm (by simp) a'.defers g' st' w' a'.tmps h3 h4.dm0 h4.once fun g1 w1 q1 q2 q3 q4 q5 q6 q7 q8 q9=> ?_
  have h4':RelT g1 fn.ntmps t' {tmps:=a'.tmps,defers:=[]}:=⟨h4.size,⟨[],rfl,fun _=>rfl,by simp⟩,by simp,fun i=>(h4.val i).same q2.symm q3.symm fun b o h=>by rw [q4];exact h⟩
  obtain ⟨x,v,k1,k2,k3⟩:=yX hD (K:=fun v=>K v st') q1 h4' h1'
  obtain ⟨f1,f2⟩:=fin g1 w1 q1 q2 q3 q4 q5 q6 q7 q8 q9;exact ⟨x,k2,_,st',f1,f2,v,k1,k3.same rfl rfl fun _ _ h=>h⟩
 cases e0<;>cases e<;>first
  | (exact h2.elim)
  | (exact h1.elim)
  | (exact hpost (.inl rfl))
  | (exact hpost (.inr rfl))
  | skip
 obtain ⟨v,rfl,hv⟩:=h2;refine Vm (by simp) a'.defers g' st' w' a'.tmps h3 h4.dm0 h4.once fun g1 w1 q1 q2 q3 q4 q5 q6 q7 q8 q9=> ?_
 obtain ⟨f1,f2⟩:=fin g1 w1 q1 q2 q3 q4 q5 q6 q7 q8 q9;exact ⟨_,st',f1,f2,v,_,rfl,h1,(hv.same q2.symm q3.symm fun b o h=>by rw [q4];exact h).same rfl rfl fun _ _ h=>h⟩
def qa (D:TD) (Γ:Qy) (mu:FuncId->Bool) (H J:List (Nat×Hint)) (rd:Nat×Array Tmp×Code×Code) (live:List Tmp) (args:List T) (st:St) (K:Kn) (c0:Nat:=0):Prop:=
 match kW args&&Jj st with
 | true=>Ws D Γ mu H J rd.1 ⟨st.length,c0⟩ 0 rd.2.2.1 (fun e t s=>match e with
  | .normal=>match qer t&&Jj s with
   | true=>Ws D Γ mu H J rd.1 ⟨st.length,c0⟩ 0 rd.2.2.2 (fun e _ s=>match e with
    | .normal=>match Jj s with
     | true=>K (.bool true) s
     | false=>False
    | _=>False) t s
   | false=>False
  | _=>False) (qam rd.2.1 live (args.take rd.2.1.size) (args.drop rd.2.1.size)) st
 | false=>False
theorem qzF: ∀{l:List T} {m:Nat},kW l=true->kW (l.take m)=true
 | [],m,_=>by simp [kW]
 | _::_,0,_=>rfl
 | v::r,m+1,h=>by simp only [kW,Jaq,List.take_succ_cons] at h ⊢;exact ⟨h.1,qzF h.2⟩
theorem qzb: ∀{l:List T} {m:Nat},kW l=true->kW (l.drop m)=true
 | [],m,_=>by simp [kW]
 | _::_,0,h=>h
 | v::r,m+1,h=>by simp only [kW,Jaq,List.drop_succ_cons] at h ⊢;exact qzb h.2
theorem qz0 (hD:zY P D) (hΓ:jV P Γ) (hdet:wl (fun _=>false) (qyJ mu Γ)) (hm:P.follows .mixedOrders=true) {H J:List (Nat×Hint)} {f:FuncId} {yi:YI} (hy:ytab f=some yi) (hrd:(roundAt P f).isSome=true) {us:List T} {K X:Kn} {c0:Nat}
  (h2:us.length=(JJ P f).2.1.size+yi.live.length) (h3:(((JJ P f).2.1.toList.all fun d=>Nat.blt d (JJ P f).1)&&(zB (JJ P f).2.2.1&&zB (JJ P f).2.2.2))=true) (h:qa D Γ mu H J (JJ P f) yi.live us st K c0):FCalls P f us st K X c0:=by
 obtain ⟨⟨n,ps,ca,cb⟩,hcode⟩:=Jb2.1 hrd;have e0:JJ P f=(n,ps,ca,cb):=by unfold JJ;rw [hcode]
 rw [e0] at h2 h3 h;simp only [Jaq] at h3;obtain ⟨h3,h4,h5⟩:=h3;have h3: ∀d∈ps.toList,d<n:=fun d hd=>Jag (Jbu.1 h3 d hd)
 simp only at h2 h h4 h5;intro g w hg;unfold Qw;rw [hy];unfold qa at h;split at h;case h_2=>exact h.elim
 rename_i hno;rw [Jaq] at hno;obtain ⟨hn1,hn2⟩:=hno;refine ⟨us.take ps.size,us.drop ps.size,(Jcn _ _).symm,by simp;omega,fun args l r k1 k2 k3 k4=> ?_⟩
 have hcr:=k3.code;rw [hcode] at hcr;simp only [Jah,Jbg] at hcr;obtain ⟨c1,c2,c3,c4⟩:=hcr;refine ⟨by rw [<- c2, <- k1.len];simp;omega, ?_⟩
 have hl:=hg.fx l r k2;have hlt:l<w.heap.size:=(Jar.1 hl).1;let gB:G P:={g with fx:=fun b o=>g.fx b o/\b≠l,dm:=g.dm}
 have hgB:Good gB st w:=hg.swap (fun _ _ _ _ _ _=>rfl) (fun b o hb=>hg.fx b o hb.1) hg.dm fun k cs hk j u x hu hx=>KU hx rfl rfl (jP (QI hn2 hk) hu)
 have k1':RL gB (us.take ps.size) args:=⟨k1.len,fun i u x hu hx=>KU (k1.val i u x hu hx) rfl rfl (jP (qzF hn1) hu)⟩
 have k4':RY gB (us.drop ps.size) yi r:=fun i u d hu hd=>KU (k4 i u d hu hd) rfl rfl (jP (qzb hn1) hu)
 refine roundIn_of_wpIn (F:=WF none) trivial ?_;have hwp:=zW (P:=P) (b0:=⟨st.length,c0⟩) hD hΓ hdet hm ca (vU h4) _ _ _ h (some l) (.inr h4) gB w _ hgB (qXa k1' k3 hcode k4' h3);rw [c3] at hwp;refine wpIn_mono hwp ?_;rintro e a1 w1 ⟨e0,g1,t1,s1,q1,q2,q3,q4,q5⟩;cases e0<;>cases e<;>first
  | (exact q2.elim)
  | (exact q1.elim)
  | skip
 simp only at q1;split at q1;case h_2=>exact q1.elim
 rename_i hno1;rw [Jaq] at hno1;have hl1:w1.heap[l]? =some (.loop r):=by
  rw [q5.block l hlt (fun ho=>hgB.not_cells hl (by intro m;cases m<;>simp [vO]) ho)]
  exact hl
 have hlt1:l<w1.heap.size:=(Jar.1 hl1).1;refine ⟨_,run_beginRound hl1 k3.ready, ?_⟩;have hother: ∀(o:Obj) (w:World) b,b≠l->(w.putObj l o).heap[b]? =w.heap[b]? :=fun _ _ b hb=>World.putObj_heap_other hb
 have hnl: ∀(w:World) (o':Loop) b o,w.heap[l]? =some (.loop o')->w.heap[b]? =some o->(∀r,o≠ .loop r)->b≠l:=fun w o' b o hl hb hn e=>by
  subst e;rw [hl] at hb;simp only [Jah] at hb;exact hn _ hb.symm
 let g2:G P:={g1 with fx:=fun b o=>g1.fx b o/\b≠l,dm:=g1.dm}
 have hg2:Good g2 s1 (w1.putObj l (.loop {r with state:= .busy})):=q3.swap (fun b m c t fr hb=>by obtain ⟨o,o1,o2⟩:=qqY hb;exact hother _ _ b (hnl _ _ b _ hl1 o1 o2)) (fun b o hb=>by rw [hother _ _ b hb.2];exact q3.fx b o hb.1)
  (fun b hb=>by rw [hother _ _ b (hnl _ _ b _ hl1 (q3.dm b hb) (by intros;simp))];exact q3.dm b hb) fun k cs hk j u x hu hx=>KU hx rfl rfl (jP (QI hno1.2 hk) hu)
 have ht2:RelT g2 n t1 a1:=⟨q4.size,q4.defers,q4.once,fun i=>KU (q4.val i) rfl rfl (qx1 i hno1.1)⟩
 have hwp2:=zW (P:=P) (b0:=⟨st.length,c0⟩) hD hΓ hdet hm cb (vU h5) _ _ _ q1 (some l) (.inr h5) g2 _ _ hg2 ht2;rw [c4] at hwp2;refine wpIn_mono hwp2 ?_;rintro e a3 w3 ⟨e0,g3,t3,s3,p1,p2,p3,p4,p5⟩;cases e0<;>cases e<;>first
  | (exact p2.elim)
  | (exact p1.elim)
  | skip
 simp only at p1;split at p1;case h_2=>exact p1.elim
 rename_i hno3;have hl2:(w1.putObj l (.loop {r with state:= .busy})).heap[l]? =some (.loop {r with state:= .busy}):=World.putObj_heap_same hlt1;have hl3:w3.heap[l]? =some (.loop {r with state:= .busy}):=by
  rw [p5.block l (by simpa using hlt1) (fun ho=>hg2.not_cells hl2 (by intro m;cases m<;>simp [vO]) ho)]
  exact hl2
 have hr0:({{r with state:=LoopState.busy}with state:=if (none:Option Code).isNone then LoopState.ready else LoopState.done,pending:=none}:Loop)=r:=by
  obtain ⟨_,_,_,_,_,_,_,_⟩:=r;have e1:=k3.ready;have e2:=k3.none;simp only at e1 e2;subst e1;subst e2;rfl
 refine ⟨_,_,run_endRound none hl3, ?_⟩;rw [hr0];let g4:G P:={g3 with fx:=fun b o=>(g3.fx b o/\b≠l)∨(b=l/\o=r),dm:=g3.dm}
 have hlt3:l<w3.heap.size:=(Jar.1 hl3).1;have hg4:Good g4 s3 (w3.putObj l (.loop r)):=p3.swap (fun b m c t fr hb=>by obtain ⟨o,o1,o2⟩:=qqY hb;exact hother _ _ b (hnl _ _ b _ hl3 o1 o2)) (fun b o hb=>by
   rcases hb with hb | ⟨rfl,rfl⟩
   . rw [hother _ _ b hb.2];exact p3.fx b o hb.1
   . exact World.putObj_heap_same hlt3)
  (fun b hb=>by rw [hother _ _ b (hnl _ _ b _ hl3 (p3.dm b hb) (by intros;simp))];exact p3.dm b hb) fun k cs hk j u x hu hx=>KU hx rfl rfl (jP (QI hno3 hk) hu)
 have z1:=Step.put (o:= .loop r) q5 hlt (fx:=fun _ _=>False) (fx':=fun _ _=>False) fun _ _ h=>h
 have z2:=Step.put (o:= .loop r) p5 (by simpa using hlt1:l< (w1.putObj l (.loop {r with state:= .busy})).heap.size) (fx:=fun _ _=>False) (fx':=fun _ _=>False) fun _ _ h=>h
 rw [qyZ hl] at z1;rw [qyL] at z2;have z:=z1.trans z2;refine ⟨g4,s3,hg4,⟨z.os,z.tape,z.output,z.size,z.block,z.ro,z.own,z.new,z.kept,z.fixd,fun b o hb=> ?_,z.dm,z.dmn⟩,_,p1,.bool true⟩
 by_cases e:b=l
 . subst e;have:=hg.fx b o hb;rw [hl] at this;simp only [Jah,Obj.loop.injEq] at this;exact .inr ⟨rfl,this.symm⟩
 . exact .inl ⟨p5.fx b o ⟨q5.fx b o ⟨hb,e⟩,e⟩,e⟩
mutual
def Vo:T->List Nat
 | .pt k _=>[k]
 | .mp k=>[k]
 | .itr (some k) .. =>[k]
 | .as k _=>[k]
 | .oa _ k _=>[k]
 | .os _ k _ _ _=>[k]
 | .pe _ k _ _ _=>[k]
 | .ag cs=>objsL cs
 | .tu cs=>objsL cs
 | .fn _ xs ys=>objsL xs++objsL ys
 | .ic _ v=>Vo v
 | _=>[]
def objsL:List T->List Nat
 | []=>[]
 | v::r=>Vo v++objsL r
end
def xo (s:St):Nat->List Nat->List Nat->List Nat
 | 0,_,acc=>acc
 | _,[],acc=>acc
 | n+1,k::r,acc=>match zX acc k with
  | some _=>xo s n r acc
  | none=>match rd s k with
   | some (.cells cs)=>xo s n (r++objsL cs) (acc++[k])
   | some (.arr ..)=>xo s n r (acc++[k])
   | none=>xo s n r acc
def w0 (s:St) (ks:List Nat) (N:Nat) (fx:Nat->Bool) (i:Nat):Option (Nat×Nat):=
 match ks[i]? with
 | some k=>match rd s k with
  | some o=>some (k,match fx i with | true=>obVer o | false=>obVer o+1)
  | none=>none
 | none=>some (N+(i-ks.length),0)
def j5 (c0:Nat) (s1:St) (i:Nat):Bool:=
 match Nat.blt i c0,rd s1 i with
 | true,some (.arr 0 _ _)=>true
 | _,_=>false
def qj4 (v:Nat):Option Ob->Option Ob
 | some (.arr _ e l)=>some (.arr v e l)
 | o=>o
def kV (s:St) (ks:List Nat) (N:Nat) (fx:Nat->Bool) (s1:St) (i:Nat) (o:Option Ob):Option Ob:=
 qj4 (match w0 s ks N fx i with | some p=>p.2 | none=>0) (ke s1 false (w0 s ks N fx) o)
def Qg (s:St) (ks0:List Nat) (N:Nat) (fx:Nat->Bool) (s1:St):List Nat->Nat->St->St
 | [],_,st=>st
 | k::r,i,st=>Qg s ks0 N fx s1 r (i+1) (st.set k (kV s ks0 N fx s1 i (rd s1 i)))
def vf (s:St) (ks:List Nat) (N:Nat) (fx:Nat->Bool) (s1:St):Nat->St->St
 | _,[]=>[]
 | i,o::r=>kV s ks N fx s1 i o::vf s ks N fx s1 (i+1) r
def vB (s:St) (ks:List Nat) (fx:Nat->Bool) (s1:St):St:=Qg s ks s.length fx s1 ks 0 s++vf s ks s.length fx s1 ks.length (s1.drop ks.length)
def Wf (s:St):List Nat->Bool
 | []=>true
 | k::r=>match rd s k with
  | some _=>Wf s r
  | none=>false
def qxd (c0:Nat) (C:List T->St->Kn->Kn->Prop) (vs:List T) (s:St) (K X:Kn):Prop:=
 let ks:=xo s 64 (objsL vs) []
 match ZN ks,Wf s ks with
 | true,true=>C (rnL s false (wH ks) vs) (V8 s false ks) (fun r s1=>K (Q4 s1 false (w0 s ks s.length (j5 c0 s1)) r) (vB s ks (j5 c0 s1) s1)) fun r s1=>X (Q4 s1 false (w0 s ks s.length (j5 c0 s1)) r) (vB s ks (j5 c0 s1) s1)
 | _,_=>False
mutual
def flatT:T->Bool
 | .int .. | .bool _ | .str _ | .cst _ | .ub | .nil=>true
 | .ag cs=>Vq cs
 | .tu cs=>Vq cs
 | .ic _ v=>flatT v
 | _=>false
def Vq:List T->Bool
 | []=>true
 | v::r=>flatT v&&Vq r
end
def qYG (C:List T->St->Kn->Kn->Prop) (vs:List T) (s:St) (K:Kn):Prop:=
 C (rnL s true (wH []) vs) [] (fun r _=>match flatT r with | true=>K r s | false=>False) fun _ _=>False
theorem Jy: ∀{cs:List T} {i:Nat} {c:T},Vq cs=true->cs[i]? =some c->flatT c=true
 | [],_,_,_,h=>by simp at h
 | v::r,0,c,h,hc=>by simp only [Vq,Jaq] at h;simp at hc;subst hc;exact h.1
 | v::r,i+1,c,h,hc=>by simp only [Vq,Jaq] at h;simp at hc;exact Jy h.2 hc
theorem qnb {g g':G P} {v:T} {x:Value} (h:R g v x):flatT v=true->R g' v x:=by
 induction h with
 | int k n=>intro _;exact .int k n
 | bool b=>intro _;exact .bool b
 | str s=>intro _;exact .str s
 | cst v=>intro _;exact .cst v
 | ub b=>intro _;exact .ub b
 | nil A=>intro _;exact .nil A
 | ag cs xs h1 _ h3 ih=>intro hf;exact .ag cs xs h1 (fun i c x hc hx=>ih i c x hc hx (Jy hf hc)) h3
 | tu cs xs h1 _ ih=>intro hf;exact .tu cs xs h1 (fun i c x hc hx=>ih i c x hc hx (Jy hf hc))
 | ic t v x _ ih=>intro hf;exact .ic t v x (ih hf)
 | _=>intro hf;simp [flatT] at hf
theorem RL.rn {g':G P} {s:St} {gv:Bool} {pos:Nat->Option (Nat×Nat)} {vs:List T} {args:Array Value} (h:RL g vs args) (hR: ∀v x,R g v x->R g' (Q4 s gv pos v) x):RL g' (rnL s gv pos vs) args:=
 ⟨by rw [qP];exact h.len,fun i u x hu hx=>by obtain ⟨c,c1,rfl⟩:=jp hu;exact hR _ _ (h.val i c x c1 hx)⟩
theorem Qw.rn {f:FuncId} {g':G P} {s:St} {gv:Bool} {pos:Nat->Option (Nat×Nat)} {vs:List T} {Z:Ending->World->Prop} (hR: ∀v x,R g v x->R g' (Q4 s gv pos v) x) (hf: ∀l r,g.fx l r->g'.fx l r) (h:Qw P f g' (rnL s gv pos vs) w Z):Qw P f g vs w Z:=
 h.re qP (fun i u1 hu=>by obtain ⟨c,c1,rfl⟩:=jp hu;exact ⟨c,c1,hR c⟩) hf
theorem qwU {f:FuncId} {C:List T->St->Kn->Kn->Prop} (hC: ∀vs s K X,C vs s K X->FCalls P f vs s K X) {vs:List T} {s:St} {K X:Kn} (h:qYG C vs s K):kx P f vs s K X:=by
 have h:=hC _ _ _ _ h;intro g w hg;obtain ⟨g0,k1,k2,k3,_,_,_,k7⟩:=ZC hg (keep:=[]) List.nodup_nil true;have hst0:=k2 ⟨0,0⟩ (fun k hk=>absurd hk (Ja7 _)) fun k hk=>absurd hk (Ja7 _)
 refine Qw.rn k3 hst0.fx ((h g0 w k1).mono ?_);rintro e w' ⟨g1,s1,h1,h2,h3⟩;have hsame: ∀b,b<w.heap.size->w'.heap[b]? =w.heap[b]? :=fun b hb=>h2.block b hb fun ho=>by
  obtain ⟨k,o,hk,_⟩:=k7 b ho;simp at hk
 have hg':Good g s w':=by
  refine ⟨fun b cs hb=> ?_,fun k o ho=> ?_,hg.inj,hg.old,fun b o h=> ?_,fun b h=> ?_,hg.laid⟩
  . obtain ⟨blk,E,fr,p2,p3⟩:=hg.ro b cs hb;exact ⟨blk,E,fr,by rw [hsame b (hg.lt_ro hb)];exact p2,p3⟩
  . obtain ⟨oi,p1,p2,p3⟩:=hg.obj k o ho;refine ⟨oi,p1,p2, ?_⟩;rcases p3 with p3 | ⟨p3,blk,E,fr,p4,p5,p6,p7⟩
    . exact .inl p3
    . exact .inr ⟨p3,blk,E,fr,by rw [hsame _ (yw p4)];exact p4,p5,p6,p7⟩
  . exact hg.fx_keep (fun b hb _=>hsame b hb) h
  . exact hg.dm_keep (fun b hb _=>hsame b hb) h
 refine ⟨g,s,hg',GL.refl g s,fun b0=>⟨h2.os,h2.tape,h2.output,h2.size,fun b hb _=>hsame b hb,fun _ _ h=>h,fun _ h=> .inl h,fun _ _ h=> .inl h,fun _ _=>Kept.refl,fun _ _=>Fixd.refl,fun _ _ h=>h,fun _ h=>h,fun _ h=> .inl h⟩, ?_⟩
 cases e with
 | returned x=>
  obtain ⟨r,r1,r2⟩:=h3;split at r1
  . rename_i hf;exact ⟨r,r1,qnb r2 hf⟩
  . exact r1.elim
 | panicked ch=>obtain ⟨_,_,_,q,_⟩:=h3;exact q.elim
 | outgrown=>exact h3.elim
end
end
section
open Go.RowKit
variable {P:Program}
theorem Yt {s:St} {ks:List Nat} {N:Nat} {fx:Nat->Bool} {s1:St}: ∀(r:List Nat) (i:Nat) (st:St),r.Nodup->(∀k∈r,k<st.length)-> ∀k,(Qg s ks N fx s1 r i st)[k]? =match zX r k with
  | some j=>some (kV s ks N fx s1 (i+j) (rd s1 (i+j)))
  | none=>st[k]?
 | [],i,st,_,_,k=>rfl
 | a::r,i,st,hn,hl,k=>by
  have hn':=List.nodup_cons.1 hn;simp only [Qg];rw [Yt r (i+1) _ hn'.2 (fun k hk=>by rw [List.length_set];exact hl k (by simp [hk])) k]
  simp only [zX];by_cases e:k=a
  . subst e;have:zX r k=none:=by
     cases hf:zX r k with
     | none=>rfl
     | some j=>exact absurd (Ja3 (qS hf)) hn'.1
    rw [this,Jaa rfl];simp only [Jcg];rw [List.getElem?_set_self (hl k (by simp))]
  . rw [Jab e];simp only;cases hf:zX r k with
    | none=>simp only;rw [List.getElem?_set_ne (Ne.symm e)]
    | some j=>simp only;rw [show i+1+j=i+(j+1)by omega]
theorem ve {s:St} {ks:List Nat} {N:Nat} {fx:Nat->Bool} {s1:St}: ∀(r:List Nat) (i:Nat) (st:St),(Qg s ks N fx s1 r i st).length=st.length
 | [],_,_=>rfl
 | a::r,i,st=>by simp only [Qg];rw [ve r];simp
theorem VG {s:St} {ks:List Nat} {N:Nat} {fx:Nat->Bool} {s1:St}: ∀(l:St) (i j:Nat),(vf s ks N fx s1 i l)[j]? =(l[j]?).map (kV s ks N fx s1 (i+j))
 | [],_,_=>by simp [vf]
 | o::r,i,0=>by simp [vf]
 | o::r,i,j+1=>by
  simp only [vf,Jbd];rw [VG r,show i+1+j=i+(j+1)by omega]
theorem Qs {s:St} {ks:List Nat} {N:Nat} {fx:Nat->Bool} {s1:St}: ∀(l:St) (i:Nat),(vf s ks N fx s1 i l).length=l.length
 | [],_=>rfl
 | o::r,i=>by simp [vf,Qs r]
theorem W7 {s:St}: ∀{ks:List Nat},Wf s ks=true-> ∀k∈ks, ∃o,s[k]? =some (some o)
 | [],_,k,h=>by simp at h
 | a::r,h,k,hk=>by
  simp only [Wf] at h;split at h
  . rename_i o ho;simp only [Jbf] at hk;rcases hk with rfl | hk
    . exact ⟨o,qc.1 ho⟩
    . exact W7 h k hk
  . cases h
section
variable {P:Program} {f:FuncId} {C:List T->St->Kn->Kn->Prop}
theorem XG {c0:Nat} (hC: ∀vs s K X,C vs s K X->FCalls P f vs s K X c0) {vs:List T} {s:St} {K X:Kn} (h:qxd c0 C vs s K X):kx P f vs s K X:=by
 unfold qxd at h;simp only at h;generalize xo s 64 (objsL vs) []=ks at h;split at h;case h_2=>exact h.elim
 rename_i hnb hlv;have hn:=wK hnb;have hlive:=W7 hlv;have h:=hC _ _ _ _ h;intro g w hg;obtain ⟨g0,k1,k2,k3,k4,k5,k6,k7⟩:=ZC hg hn false;have hst0:=k2 ⟨0,0⟩ (fun k hk=>absurd hk (Ja7 _)) fun k hk=>absurd hk (Ja7 _)
 have k6:=k6 rfl;have hlen0:(V8 s false ks).length=ks.length:=by simp [V8]
 refine Qw.rn k3 hst0.fx ((h g0 w k1).mono ?_);rintro e w1 ⟨g1,s1,g1ok,st1,hend⟩;rw [hlen0] at st1;-- the callee's first objects
 have hold: ∀i k,ks[i]? =some k-> ∃o o1,s[k]? =some (some o)/\s1[i]? =some (some o1)/\qn o1=qn o/\(qn o=false->g1.ob i 0=g.ob k 0/\(qZ o1).length=(qZ o).length)/\(∀ver e l,o= .arr ver e l-> ∃ver' l',o1= .arr ver' e l'):=by
  intro i k hik;obtain ⟨o,ho⟩:=hlive k (Ja3 hik);have hi:i<ks.length:=(Jai.1 hik).1;have h0:(V8 s false ks)[i]? =some (ke s false (wH ks) (some o)):=by
   unfold V8;rw [Jax,hik];simp [qc.2 ho]
  have hob:=k5 i k o hik ho;cases o with
  | cells cs=>
   obtain ⟨cs',a1,a2,a3⟩:=st1.kept i hi _ h0;exact ⟨_,_,ho,a1,rfl,fun _=>⟨a3.trans hob,by simp only [qZ];rw [a2,qP]⟩,fun _ _ _ h=>by cases h⟩
  | arr ver e l=>
   obtain ⟨ver',l',a1⟩:=st1.kept i hi _ h0;exact ⟨_,_,ho,a1,rfl,(fun h=>by cases h),(fun _ _ _ h=>by cases h;exact ⟨_,_,rfl⟩)⟩
 have hfix: ∀i k o,ks[i]? =some k->s[k]? =some (some o)->j5 c0 s1 i=true-> ∃e l',s1[i]? =some (some (.arr 0 e l'))/\g1.ob i 0=g.ob k (obVer o):=by
  intro i k o hik ho hfx;unfold j5 at hfx;split at hfx;case h_2=>cases hfx
  rename_i e l' hlt hrd;have hlt:i<c0:=Jag hlt;have h1:=qc.1 hrd;obtain ⟨o',o1,b1,b2,b3,_⟩:=hold i k hik;rw [ho] at b1;simp only [Jah] at b1;subst b1;rw [h1] at b2;simp only [Jah] at b2;subst b2;have hob:=k5 i k o hik ho;cases o with
  | cells cs=>simp [qn] at b3
  | arr ver e2 l2=>
   have h0:(V8 s false ks)[i]? =some (some (.arr 0 e2 l2)):=by
    unfold V8;rw [Jax,hik];simp [qc.2 ho,ke]
   obtain ⟨ver',l3,a1,a2⟩:=st1.fixd i hlt 0 e2 l2 h0;rw [h1] at a1;simp only [Jah,Ob.arr.injEq] at a1;obtain ⟨rfl,_⟩:=a1;exact ⟨e,l',h1,((a2 rfl).2).trans hob⟩
 have hm:ks.length<=s1.length:=Nat.le_of_not_lt fun hlt=>by
  have hk:ks[s1.length]? =some ks[s1.length]:=Jao hlt;obtain ⟨_,_,_,h1,_⟩:=hold _ _ hk;have:=(Jai.1 h1).1;omega
 have hklt: ∀k∈ks,k<s.length:=fun k hk=>by obtain ⟨o,ho⟩:=hlive k hk;exact (Jai.1 ho).1
 -- the merged store
 have hget: ∀k,(vB s ks (j5 c0 s1) s1)[k]? =match zX ks k with
   | some i=>some (kV s ks s.length (j5 c0 s1) s1 i (rd s1 i))
   | none=>if k<s.length then s[k]? else (s1[ks.length+(k-s.length)]?).map (kV s ks s.length (j5 c0 s1) s1 (ks.length+(k-s.length))):=by
  intro k;unfold vB;have hl:=ve (s:=s) (ks:=ks) (N:=s.length) (fx:=j5 c0 s1) (s1:=s1) ks 0 s;by_cases hk:k<s.length
  . rw [Jav (by omega),Yt ks 0 s hn hklt k]
    cases zX ks k with
    | none=>simp [hk]
    | some i=>simp
  . rw [Jas (by omega),VG,hl,Jbo]
    have:zX ks k=none:=by
     cases hf:zX ks k with
     | none=>rfl
     | some i=>have:=hklt k (Ja3 (qS hf));omega
    rw [this];simp [hk]
 have hlen2:s.length<=(vB s ks (j5 c0 s1) s1).length:=by unfold vB;rw [Jak,ve];omega
 have hlen3:(vB s ks (j5 c0 s1) s1).length=s.length+(s1.length-ks.length):=by unfold vB;rw [Jak,ve,Qs,Jb9]
 obtain ⟨s2,hs2⟩: ∃s2,s2=vB s ks (j5 c0 s1) s1:=⟨_,rfl⟩;rw [<- hs2] at hget hlen2 hlen3;-- the ghost
 let ob2:Nat->Nat->Option OI:=fun k v=>match zX ks k with
  | some i=>match rd s k,rd s1 i with
   | some o,some (.arr v1 _ _)=>if j5 c0 s1 i=false/\v=obVer o+1 then g1.ob i v1 else g.ob k v
   | _,_=>g.ob k v
  | none=>if k<s.length then g.ob k v else if v=0 then (match rd s1 (ks.length+(k-s.length))with | some o1=>g1.ob (ks.length+(k-s.length)) (obVer o1) | none=>none)else none
 let g2:G P:=⟨.mk,g1.ro,ob2,g1.fx,g1.dm⟩
 have hpos: ∀i p,w0 s ks s.length (j5 c0 s1) i=some p->(∃k o,ks[i]? =some k/\s[k]? =some (some o)/\p=(k,match j5 c0 s1 i with | true=>obVer o | false=>obVer o+1))∨(ks.length<=i/\p=(s.length+(i-ks.length),0)):=by
  intro i p hp;unfold w0 at hp;split at hp
  . rename_i k hk;split at hp
    . rename_i o ho;injection hp with hp;exact .inl ⟨k,o,hk,qc.1 ho,hp.symm⟩
    . cases hp
  . rename_i hk;injection hp with hp;exact .inr ⟨List.getElem?_eq_none_iff.1 hk,hp.symm⟩
 have hob2: ∀i o1 p,s1[i]? =some (some o1)->w0 s ks s.length (j5 c0 s1) i=some p->g2.ob p.1 (if qn o1=true then p.2 else 0)=g1.ob i (obVer o1):=by
  intro i o1 p h1 hp;rcases hpos i p hp with ⟨k,o,a1,a2,rfl⟩ | ⟨a1,rfl⟩
  . obtain ⟨o',o1',b1,b2,b3,b4,_⟩:=hold i k a1;rw [a2] at b1;simp only [Jah] at b1;subst b1;rw [h1] at b2;simp only [Jah] at b2;subst b2;show ob2 k _=_
    simp only [ob2,Zk hn a1,qc.2 a2,qc.2 h1];cases o1 with
    | cells cs=>
     simp only [qn,obVer,Ja5,if_false];exact (b4 b3.symm).1.symm
    | arr v1 e l=>
     cases hfx:j5 c0 s1 i with
     | false=>simp [qn,obVer]
     | true=>
      obtain ⟨e',l',q1,q2⟩:=hfix i k o a1 a2 hfx;rw [h1] at q1;simp only [Jah,Ob.arr.injEq] at q1;obtain ⟨rfl,_⟩:=q1;simp only [qn,obVer,Bool.true_eq_false,false_and,if_false,if_true];exact q2.symm
  . have hnone:zX ks (s.length+(i-ks.length))=none:=by
     cases hf:zX ks (s.length+(i-ks.length))with
     | none=>rfl
     | some j=>have:=hklt _ (Ja3 (qS hf));omega
    show ob2 _ _=_
    simp only [ob2,hnone];rw [if_neg (by omega)]
    have hi:ks.length+(s.length+(i-ks.length) - s.length)=i:=by omega
    rw [hi,if_pos (by split<;>rfl)]
    simp only [qc.2 h1]
 have hfr: ∀k v,zX ks k=none->k<s.length->g2.ob k v=g.ob k v:=by
  intro k v h1 h2;show ob2 k v=_
  simp only [ob2,h1];rw [if_pos h2]
 have hle:g.le g2:=by
  refine ⟨fun b cs hb=>st1.ro b cs (by rw [k6];exact hb),fun k v oi hv=> ?_,fun b o h=>st1.fx b o (hst0.fx b o h),fun b h=>st1.dm b (hst0.dm b h)⟩
  obtain ⟨hk,hv'⟩:=hg.old k v oi hv;cases hp:zX ks k with
  | none=>rw [hfr k v hp hk];exact hv
  | some i=>
   show ob2 k v=_
   simp only [ob2,hp];split
   . rename_i o v1 e l ho _;have:=hv' o (qc.1 ho);rw [if_neg (by omega)];exact hv
   . exact hv
 have hR: ∀v x,R g1 v x->R g2 (Q4 s1 false (w0 s ks s.length (j5 c0 s1)) v) x:=by
  intro v x h;induction h with
  | undef x=>exact .undef x
  | int k n=>exact .int k n
  | bool b=>exact .bool b
  | str s=>exact .str s
  | cst v=>exact .cst v
  | ub b=>exact .ub b
  | fp=>exact .fp
  | mp k oi h1=>
   simp only [Q4];split;case h_2=>exact .undef _
   rename_i cs hcs;split;case h_2=>exact .undef _
   rename_i p hp;have:=hob2 k _ p (qc.1 hcs) hp;simp only [qn,Ja5,if_false,obVer] at this;exact .mp _ oi (this.trans h1)
  | as k c oi h1=>
   simp only [Q4];split;case h_2=>exact .undef _
   rename_i cs hcs;split;case h_2=>exact .undef _
   rename_i p hp;have:=hob2 k _ p (qc.1 hcs) hp;simp only [qn,Ja5,if_false,obVer] at this;exact .as _ c oi (this.trans h1)
  | me e l=>exact .me e l
  | fe b l h=>exact .fe b l h
  | it q e all left cur oi seen h1 h2 h3=>
   simp only [Q4];split;case h_2=>exact .iz _ _ _ _ _ rfl
   rename_i cs hcs;split;case h_2=>exact .iz _ _ _ _ _ rfl
   rename_i p hp;have:=hob2 q _ p (qc.1 hcs) hp;simp only [qn,Ja5,if_false,obVer] at this;exact .it _ e all left cur oi seen (this.trans h1) h2 h3
  | iz e all left cur v h=>exact .iz e all left cur v h
  | nil A=>exact .nil A
  | sl full e l A c h1 h2 h3 h4=>exact .sl full e l A c h1 h2 h3 h4
  | oa e k ver oi A h1 h2 h3 h4=>
   simp only [Q4];split;case h_2=>exact .undef _
   rename_i l hl;split;case h_2=>exact .undef _
   rename_i p hp;have:=hob2 k _ p (qh hl) hp;simp only [qn,if_true,obVer] at this;exact .oa e _ _ oi A (this.trans h1) h2 h3 h4
  | os e k ver off n oi A c h1 h2 h3 h4 h5 h6=>
   simp only [Q4];split;case h_2=>exact .undef _
   rename_i l hl;split;case h_2=>exact .undef _
   rename_i p hp;have:=hob2 k _ p (qh hl) hp;simp only [qn,if_true,obVer] at this;exact .os e _ _ off n oi A c (this.trans h1) h2 h3 h4 h5 h6
  | pt k off oi h1=>
   simp only [Q4];split;case h_2=>exact .undef _
   rename_i cs hcs;split;case h_2=>exact .undef _
   rename_i p hp;have:=hob2 k _ p (qc.1 hcs) hp;simp only [qn,Ja5,if_false,obVer] at this;exact .pt _ off oi (this.trans h1)
  | pe e k ver i j oi h1 h2=>
   simp only [Q4];split;case h_2=>exact .undef _
   rename_i l hl;split;case h_2=>exact .undef _
   rename_i p hp;have:=hob2 k _ p (qh hl) hp;simp only [qn,if_true,obVer] at this;exact .pe e _ _ i j oi (this.trans h1) h2
  | pr e x j b off cs h1 h2=>exact .pr e x j b off cs h1 h2
  | ag cs xs h1 _ h3 ih=>exact .ag _ xs (by rw [qP];exact h1) (fun i c x hc hx=>by obtain ⟨c0,c1,rfl⟩:=jp hc;exact ih i c0 x c1 hx) h3
  | tu cs xs h1 _ ih=>exact .tu _ xs (by rw [qP];exact h1) (fun i c x hc hx=>by obtain ⟨c0,c1,rfl⟩:=jp hc;exact ih i c0 x c1 hx)
  | fn f as bs xs ys h0 h1 h2 _ _ ih1 ih2=>exact .fn f _ _ xs ys h0 (by rw [qP];exact h1) (by rw [qP];exact h2) (fun i c x hc hx=>by obtain ⟨c0,c1,rfl⟩:=jp hc;exact ih1 i c0 x c1 hx) (fun i c x hc hx=>by obtain ⟨c0,c1,rfl⟩:=jp hc;exact ih2 i c0 x c1 hx)
  | ic t v x _ ih=>exact .ic t _ x ih
  | yl f us yi l r h1 h2 h3 h4 _ ih=>exact .yl f _ yi l r h1 h2 h3 (by rw [qP];exact h4) fun i c d hc hd=>by obtain ⟨c0,c1,rfl⟩:=jp hc;exact ih i c0 d c1 hd
  | fd0 x f h=>exact .fd0 x f h
  | fd1 x f e c b off cs h h1 h2=>exact .fd1 x f e c b off cs h h1 h2
  | al e l xs h1 h2 h3 _=>exact .al e l xs h1 (fun i c x hc hx=>(h2 i c x hc hx).pure (zo c (Ja3 hc)) fun _ _ h=>h) h3
 -- what the merged store's objects are
 have hbk: ∀i o1 o2,kV s ks s.length (j5 c0 s1) s1 i (some o1)=some o2-> ∃p,w0 s ks s.length (j5 c0 s1) i=some p/\qn o2=qn o1/\vo o2=vo o1/\obVer o2=(if qn o1=true then p.2 else 0)/\(∀oi,obFits o1 oi->obFits o2 oi)/\(∀oi E m,jt o1 oi E m->jt o2 oi E m)/\
   (∀blk,Cells g1 (qZ o1) blk->Cells g2 (qZ o2) blk)/\(qZ o2).length=(qZ o1).length/\ ∀ver e l,o1= .arr ver e l->o2= .arr p.2 e l:=by
  intro i o1 o2 h;obtain ⟨p,hp⟩: ∃p,w0 s ks s.length (j5 c0 s1) i=some p:=by
   unfold w0;cases hk:ks[i]? with
   | none=>exact ⟨_,rfl⟩
   | some k=>
    obtain ⟨o,ho⟩:=hlive k (Ja3 hk);simp [qc.2 ho]
  refine ⟨p,hp, ?_⟩;unfold kV at h;rw [hp] at h;cases o1 with
  | cells cs=>
   simp only [ke,qj4,Jah] at h;subst h;refine ⟨rfl,qKe,rfl,fun _ _=>trivial,fun _ _ _ h=>yF qvl h,fun blk hc=>⟨by simp only [qZ,qP];exact hc.le,fun j u hj=> ?_⟩,by simp [qZ,qP],fun _ _ _ h=>by cases h⟩
   obtain ⟨c,c1,rfl⟩:=jp hj;obtain ⟨x,x1,x2,x3⟩:=hc.at_ j c c1;exact ⟨x,x1,x2,hR c x x3⟩
  | arr ver e l=>
   simp only [ke,qj4,Jah] at h;subst h;exact ⟨rfl,rfl,by simp [obVer,qn],fun _ h=>h,fun _ _ _ h=>h,fun blk hc=>hc.pure zo (fun _ _ h=>h),rfl,fun _ _ _ h=>by cases h;rfl⟩
 have hsplit: ∀k o2,s2[k]? =some (some o2)->(zX ks k=none/\k<s.length/\s[k]? =some (some o2))∨ ∃i o1 p,s1[i]? =some (some o1)/\kV s ks s.length (j5 c0 s1) s1 i (some o1)=some o2/\w0 s ks s.length (j5 c0 s1) i=some p/\p.1=k:=by
  intro k o2 h2;rw [hget] at h2;cases hp:zX ks k with
  | none=>
   rw [hp] at h2;simp only at h2;split at h2
   . rename_i hk;exact .inl ⟨rfl,hk,h2⟩
   . rename_i hk;right;cases h1:s1[ks.length+(k-s.length)]? with
     | none=>simp [h1] at h2
     | some o1=>
      simp only [h1,Ja8,Jah] at h2;cases o1 with
      | none=>simp [kV,ke,qj4] at h2
      | some o1=>
       obtain ⟨p,hp,_⟩:=hbk _ _ _ h2;refine ⟨_,o1,p,h1,h2,hp, ?_⟩;rcases hpos _ _ hp with ⟨k',o,a1,_,_⟩ | ⟨_,rfl⟩
       . have:=(Jai.1 a1).1;omega
       . simp only;omega
  | some i=>
   rw [hp] at h2;simp only [Jah] at h2;right;have hik:=qS hp;obtain ⟨o,o1,b1,b2,_⟩:=hold i k hik;rw [qc.2 b2] at h2;obtain ⟨p,hp2,_⟩:=hbk _ _ _ h2;refine ⟨i,o1,p,b2,h2,hp2, ?_⟩;rcases hpos _ _ hp2 with ⟨k',o',a1,_,rfl⟩ | ⟨a1,_⟩
   . rw [hik] at a1;injection a1 with a1;exact a1.symm
   . have:=(Jai.1 hik).1;omega
 have hblkB: ∀i o1 o2 p,s1[i]? =some (some o1)->kV s ks s.length (j5 c0 s1) s1 i (some o1)=some o2->w0 s ks s.length (j5 c0 s1) i=some p->obBlk g2 p.1 o2=obBlk g1 i o1:=by
  intro i o1 o2 p h1 h2 hp;obtain ⟨p',hp',a1,_,a2,_⟩:=hbk i o1 o2 h2;rw [hp] at hp';injection hp' with hp';subst hp';unfold obBlk;rw [a1,a2,hob2 i o1 p h1 hp]
 have hblkA: ∀k o2,zX ks k=none->k<s.length->obBlk g2 k o2=obBlk g k o2:=fun k o2 h1 h2=>by unfold obBlk;rw [hfr k _ h1 h2]
 have hown0: ∀b,Own g0 (V8 s false ks) b->Own g s b:=fun b hb=>by obtain ⟨k,o,_,h1,h2⟩:=k7 b hb;exact ⟨k,o,h1,h2⟩
 have hframe: ∀k o2 b,zX ks k=none->s[k]? =some (some o2)->obBlk g k o2=some b-> ¬Own g0 (V8 s false ks) b/\b<w.heap.size:=by
  intro k o2 b h1 h2 h3;refine ⟨fun hb=> ?_,hg.lt_own ⟨k,o2,h2,h3⟩⟩
  obtain ⟨k',o',c1,c2,c3⟩:=k7 b hb;have:k=k':=hg.inj k k' _ _ b h2 c2 h3 c3;subst this;exact kY h1 c1
 have hB: ∀i o1 b,s1[i]? =some (some o1)->obBlk g1 i o1=some b->Own g0 (V8 s false ks) b∨w.heap.size<=b:=fun i o1 b h1 h2=>st1.own b ⟨i,o1,h1,h2⟩
 have hg2:Good g2 s2 w1:=by
  refine ⟨fun b cs hb=> ?_,fun k o2 ho2=> ?_,fun k k' o2 o2' b h1 h2 h3 h4=> ?_,fun k v oi hv=> ?_,g1ok.fx,g1ok.dm,g1ok.laid⟩
  . obtain ⟨blk,E,fr,p2,p3⟩:=g1ok.ro b cs hb;exact ⟨blk,E,fr,p2,p3.pure fun _ _ h=>h⟩
  . rcases hsplit k o2 ho2 with ⟨a1,a2,a3⟩ | ⟨i,o1,p,a1,a2,a3,rfl⟩
    . obtain ⟨oi,q1,q2,q3⟩:=hg.obj k o2 a3;refine ⟨oi,by rw [hfr k _ a1 a2];exact q1,q2, ?_⟩
      by_cases hreal:qn o2=true/\oi.cap=0
      . exact .inl hreal
      rcases q3 with q3 | ⟨q3,blk,E,fr,q4,q5,q6,q7⟩
      . exact absurd q3 hreal
      obtain ⟨f1,f2⟩:=hframe k o2 oi.b a1 a3 (zS q1 hreal);refine .inr ⟨?_,blk,E,fr,by rw [st1.block _ f2 f1];exact q4,q5,q6.mono hle,q7⟩
      show (∀cs0, ¬g1.ro oi.b cs0)
      intro cs hro
      . rcases st1.new _ _ hro with h5 | h5 | h5
        . rw [k6] at h5;exact q3 _ h5
        . exact absurd h5 f1
        . omega
    . obtain ⟨oi,q1,q2,q3⟩:=g1ok.obj i o1 a1;obtain ⟨p',hp',c1,cM,c2,c3,c4,c5,_⟩:=hbk i o1 o2 a2;rw [a3] at hp';injection hp' with hp';subst hp';refine ⟨oi,by rw [c2,hob2 i o1 p a1 a3];exact q1,c3 oi q2, ?_⟩
      unfold obRow;rw [c1,cM];rcases q3 with q3 | ⟨q3,blk,E,fr,q4,q5,q6,q7⟩
      . exact .inl q3
      . exact .inr ⟨q3,blk,E,fr,q4,q5,c5 blk q6,c4 oi _ _ q7⟩
  . rcases hsplit k o2 h1 with ⟨a1,a2,a3⟩ | ⟨i,o1,p,a1,a2,a3,rfl⟩<;>rcases hsplit k' o2' h2 with ⟨b1,b2,b3⟩ | ⟨i',o1',p',b1,b2,b3,rfl⟩
    . rw [hblkA k o2 a1 a2] at h3;rw [hblkA k' o2' b1 b2] at h4;exact hg.inj k k' o2 o2' b a3 b3 h3 h4
    . exfalso;rw [hblkA k o2 a1 a2] at h3;rw [hblkB i' o1' o2' p' b1 b2 b3] at h4;obtain ⟨f1,f2⟩:=hframe k o2 b a1 a3 h3;rcases hB i' o1' b b1 h4 with h5 | h5
      . exact f1 h5
      . omega
    . exfalso;rw [hblkB i o1 o2 p a1 a2 a3] at h3;rw [hblkA k' o2' b1 b2] at h4;obtain ⟨f1,f2⟩:=hframe k' o2' b b1 b3 h4;rcases hB i o1 b a1 h3 with h5 | h5
      . exact f1 h5
      . omega
    . rw [hblkB i o1 o2 p a1 a2 a3] at h3;rw [hblkB i' o1' o2' p' b1 b2 b3] at h4;have:i=i':=g1ok.inj i i' o1 o1' b a1 b1 h3 h4;subst this;rw [a3] at b3;injection b3 with b3;rw [b3]
  . have hv:ob2 k v=some oi:=hv;simp only [ob2] at hv;cases hp:zX ks k with
    | some i=>
     have hik:=qS hp;obtain ⟨o,o1,b1,b2,b3,b4,b5⟩:=hold i k hik;have hk:k<s.length:=hklt k (Ja3 hik);simp only [hp,qc.2 b1,qc.2 b2] at hv;refine ⟨by omega,fun o2 ho2=> ?_⟩
     rw [hget,hp] at ho2;simp only [Jah,qc.2 b2] at ho2;obtain ⟨p,hp2,c1,_,c2,_⟩:=hbk i o1 o2 ho2;rcases hpos i p hp2 with ⟨k',o',d1,d2,rfl⟩ | ⟨d1,_⟩
     . rw [hik] at d1;injection d1 with d1;subst d1;rw [b1] at d2;simp only [Jah] at d2;subst d2;rw [c2];cases o1 with
       | cells cs=>
        simp only [qn,Ja5,if_false];have:=(hg.old k v oi hv).2 o b1;cases o with
        | cells cs=>simpa [obVer] using this
        | arr=>simp [qn] at b3
       | arr v1 e l=>
        simp only [qn,if_true];simp only at hv;split at hv
        . rename_i hc;rw [hc.1];exact Nat.le_of_eq hc.2
        . have:=(hg.old k v oi hv).2 o b1;cases j5 c0 s1 i
          . exact Nat.le_succ_of_le this
          . exact this
     . have:=(Jai.1 hik).1;omega
    | none=>
     simp only [hp] at hv;split at hv
     . rename_i hk;obtain ⟨e1,e2⟩:=hg.old k v oi hv;refine ⟨by omega,fun o2 ho2=>e2 o2 ?_⟩
       rw [hget,hp] at ho2;simp only [hk,if_true] at ho2;exact ho2
     . rename_i hk;split at hv;case isFalse=>cases hv
       rename_i hv0;split at hv;case h_2=>cases hv
       rename_i o1 ho1;have:=(Jai.1 (qc.1 ho1)).1;exact ⟨by omega,fun o2 _=>by rw [hv0];exact Jbt _⟩
 refine ⟨g2,s2,hg2,⟨hle,fun k u hk=>hfr k u (by
  cases hp:zX ks k with
  | none=>rfl
  | some i=>obtain ⟨o,ho⟩:=hlive k (Ja3 (qS hp));rw [hk] at ho;cases ho) (Jai.1 hk).1⟩,fun b0=>⟨st1.os,st1.tape,st1.output,st1.size,fun b hb hno=>st1.block b hb fun h=>hno (hown0 b h),hle.ro,fun b hb=> ?_,fun b cs hb=> ?_,fun k _ o ho=> ?_,fun k _ ver e l ho=> ?_,hle.fx,hle.dm,fun b h=>(st1.dmn b h).elim (fun h=>(hst0.dmn b h).elim .inl .inr) .inr⟩, ?_⟩
 . obtain ⟨k,o2,h1,h2⟩:=hb;rcases hsplit k o2 h1 with ⟨a1,a2,a3⟩ | ⟨i,o1,p,a1,a2,a3,rfl⟩
   . rw [hblkA k o2 a1 a2] at h2;exact .inl ⟨k,o2,a3,h2⟩
   . rw [hblkB i o1 o2 p a1 a2 a3] at h2;exact (hB i o1 b a1 h2).imp (hown0 b) id
 . rcases st1.new b cs hb with h5 | h5 | h5
   . rw [k6] at h5;exact .inl h5
   . exact .inr (.inl (hown0 b h5))
   . exact .inr (.inr h5)
 . have hk:k<s.length:=(Jai.1 ho).1;cases hp:zX ks k with
   | none=>
    have h2:s2[k]? =some (some o):=by rw [hget,hp];simp only [hk,if_true];exact ho
    cases o with
    | cells cs=>exact ⟨cs,h2,rfl,hfr k 0 hp hk⟩
    | arr ver e l=>exact ⟨ver,l,h2⟩
   | some i=>
    have hik:=qS hp;obtain ⟨o',o1,b1,b2,b3,b4,b5⟩:=hold i k hik;rw [ho] at b1;simp only [Jah] at b1;subst b1;have h2:s2[k]? =some (kV s ks s.length (j5 c0 s1) s1 i (some o1)):=by rw [hget,hp];simp only [qc.2 b2]
    obtain ⟨o2,ho2⟩: ∃o2,kV s ks s.length (j5 c0 s1) s1 i (some o1)=some o2:=by
     unfold kV;cases o1 with
     | cells cs=>exact ⟨_,rfl⟩
     | arr ver e l=>exact ⟨_,rfl⟩
    obtain ⟨p,hp2,c1,_,_,_,_,_,c6,c7⟩:=hbk i o1 o2 ho2;rw [ho2] at h2;cases o with
    | cells cs=>
     cases o2 with
     | cells cs2=>
      refine ⟨cs2,h2, ?_, ?_⟩
      . have:=(b4 rfl).2;simp only [qZ] at c6 this;omega
      . show ob2 k 0=_
        simp only [ob2,hp,qc.2 ho,qc.2 b2];cases o1 with
        | cells=>rfl
        | arr=>simp [qn] at b3
     | arr=>rw [b3] at c1;simp [qn] at c1
    | arr ver e l=>
     obtain ⟨ver',l',rfl⟩:=b5 ver e l rfl;have:=c7 _ _ _ rfl;subst this;exact ⟨_,_,h2⟩
 . have hk:k<s.length:=(Jai.1 ho).1;cases hp:zX ks k with
   | none=>exact ⟨ver,l,by rw [hget,hp];simp only [hk,if_true];exact ho,fun e0=>⟨e0,hfr k 0 hp hk⟩⟩
   | some i=>
    have hik:=qS hp;obtain ⟨o',o1,b1,b2,b3,b4,b5⟩:=hold i k hik;rw [ho] at b1;simp only [Jah] at b1;subst b1;have h2:s2[k]? =some (kV s ks s.length (j5 c0 s1) s1 i (some o1)):=by rw [hget,hp];simp only [qc.2 b2]
    obtain ⟨o2,ho2⟩: ∃o2,kV s ks s.length (j5 c0 s1) s1 i (some o1)=some o2:=by
     unfold kV;cases o1 with
     | cells cs=>exact ⟨_,rfl⟩
     | arr ver e l=>exact ⟨_,rfl⟩
    obtain ⟨p,hp2,c1,_,_,_,_,_,c6,c7⟩:=hbk i o1 o2 ho2;rw [ho2] at h2;obtain ⟨ver',l',rfl⟩:=b5 ver e l rfl;have:=c7 _ _ _ rfl;subst this;refine ⟨_,_,h2,fun e0=> ?_⟩
    rcases hpos i p hp2 with ⟨k',o',d1,d2,rfl⟩ | ⟨d1,_⟩
    . rw [hik] at d1;injection d1 with d1;subst d1;rw [ho] at d2;simp only [Jah] at d2;subst d2;cases hfx:j5 c0 s1 i with
      | false=>rw [hfx] at e0;simp at e0
      | true=>
       rw [hfx] at e0;simp only [obVer] at e0;subst e0;obtain ⟨oi,h1,_⟩:=hg.obj k _ ho;have h1:g.ob k 0=some oi:=h1;exact ⟨rfl,by rw [h1];exact hle.ob _ _ _ h1⟩
    . have:=(Jai.1 hik).1;omega
 . cases e with
   | returned x=>obtain ⟨r,r1,r2⟩:=hend;exact ⟨_,by rw [hs2];exact r1,hR _ _ r2⟩
   | panicked ch=>obtain ⟨v,u,e1,u1,u2⟩:=hend;exact ⟨v,_,e1,by rw [hs2];exact u1,hR _ _ u2⟩
   | outgrown=>exact hend.elim
end
end
end Go.Proofs.YtbglndogddddoaaGreatDoor
