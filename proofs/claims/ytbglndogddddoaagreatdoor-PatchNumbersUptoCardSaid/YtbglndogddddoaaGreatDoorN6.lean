import Derived.Shelf.SlSortCmp.WholeK
import Derived.Shelf.RegionOpenPlain
import Derived.WalkKit
import Derived.Lib.Walk
import Derived.Lib.Bytealg
import Derived.Lib.BytesEntry
import Derived.BigCall
import Derived.BigGuard
import Derived.Deep.Draws
import Derived.Deep.QuietTactic
import Derived.BigQuiet
import Derived.Shelf.SlSortCmp.NoneTotal
import Derived.Test.YtbglndogddddoaaGreatDoorCards
import Derived.LaidLaws
import Derived.LaidHandle
import Derived.MakeChecks
import Derived.LaidMore
import Derived.OpenShut
import Derived.ProofKit
import Derived.Stop.Joined
import Derived.JoinedCond
import Derived.Test.YtbglndogddddoaaGreatDoorN5
set_option linter.unusedVariables false
set_option linter.unusedSimpArgs false
set_option linter.unusedSectionVars false
namespace Go.Proofs.YtbglndogddddoaaGreatDoor
open Go.RowKit
set_option maxRecDepth 100000
def kX (l:List Chg):Int:=l.foldl (fun n c=>n+XS c) 0
def firP2 (cs:List Chg) (i:Int) (b:Bool):Int:=bif b then 0 else kX (cs.take i.toNat)
def firP (a m:ByteArray) (t:Int) (ds:List Dig) (cs:List Chg) (i:Int):Int:=firP2 cs i (bif !decide ((jQ a m t ds cs).2.2=0)then true else bif decide (i<0)then true else decide ((cs.length:Int)<=i))
theorem XL {f:Chg->Int} {r:Chg->List Atm->Int}: ∀{cs:List Chg} {own:List Atm},(xO f r cs own).2=0-> ∀c∈cs,f c=0
 | [],_,_=>fun c hc=>by cases hc
 | c::l,own,h=>by
  rw [xO] at h
  by_cases z:f c=0
  . rw [decide_eq_true z,Bool.not_true,cond_false] at h
    by_cases y:r c own=0
    . rw [decide_eq_true y,Bool.not_true,cond_false] at h
      intro d hd
      rcases List.mem_cons.1 hd with rfl | hd
      . exact z
      . exact XL h d hd
    . rw [decide_eq_false y] at h;exact absurd h y
  . rw [decide_eq_false z] at h;exact absurd h z
theorem XA {a m:ByteArray} {t:Int} {ds:List Dig} {cs:List Chg} (h:(jQ a m t ds cs).2.2=0):xG zD a m t ds cs=0/\(yP cs).2=0/\(wL (jV a m t (jA ds) cs)).2=0/\((wL (jV a m t (jA ds) cs)).1.size:Int)<=65536:=by
 unfold jQ at h
 by_cases z:xG zD a m t ds cs=0
 rotate_left
 . rw [decide_eq_false z] at h;exact absurd h z
 rw [decide_eq_true z,Bool.not_true,cond_false] at h
 unfold kM at h
 by_cases y:(yP cs).2=0
 rotate_left
 . rw [decide_eq_false y] at h;exact absurd h y
 rw [decide_eq_true y,Bool.not_true,cond_false] at h
 unfold exP5 at h
 by_cases x:(wL (jV a m t (jA ds) cs)).2=0
 rotate_left
 . rw [decide_eq_false x] at h;exact absurd h (show (4:Int)≠0 by decide)
 rw [decide_eq_true x,Bool.not_true,cond_false] at h
 by_cases w:65536< ((wL (jV a m t (jA ds) cs)).1.size:Int)
 . rw [decide_eq_true w] at h;exact absurd h (show (4:Int)≠0 by decide)
 . exact ⟨z,y,x,by omega⟩
theorem exP_eq {a m:ByteArray} {t:Int} {ds:List Dig} {cs:List Chg} (h:(jQ a m t ds cs).2.2=0):jQ a m t ds cs=((yP cs).1,(wL (jV a m t (jA ds) cs)).1,0):=by
 obtain ⟨h1,h2,h3,h4⟩:=XA h
 unfold jQ kM exP5
 rw [decide_eq_true h1,decide_eq_true h2,decide_eq_true h3,decide_eq_false (show¬65536< ((wL (jV a m t (jA ds) cs)).1.size:Int)by omega)]
 rfl
theorem cntC_eq {c:Chg} (h:c.lines.length<=4194304):XS c=if c.kind=5 then 2*(c.lines.length:Int)+1 else 1:=by
 unfold XS
 by_cases e:c.kind=5
 . rw [decide_eq_true e,cond_true,if_pos e,w64 (n:=2*(c.lines.length:Int)) (by omega),w64 (by omega)]
 . rw [decide_eq_false e,cond_false,if_neg e]
theorem cntC_le {c:Chg} (h:ZS c):0<=XS c/\XS c<=2*(qf c:Int):=by
 have hl:=zF h
 rw [cntC_eq hl.2.2.1]
 have:=vY zt 1 c.lines fun x _=>by unfold zt;omega
 unfold qf
 split<;>omega
theorem Zh {cs:List Chg} {n:Nat} (h:n<cs.length):kX (cs.take (n+1))=kX (cs.take n)+XS cs[n]:=by
 unfold kX
 rw [zg h,List.foldl_append];rfl
theorem cntS_le {cs:List Chg} (h:(cs.map qf).sum<=4194304) (n:Nat):0<=kX (cs.take n)/\kX (cs.take n)<=8388608:=by
 have key: ∀n,n<=cs.length->0<=kX (cs.take n)/\kX (cs.take n)<=2*(((cs.take n).map qf).sum:Int):=by
  intro n
  induction n with
  | zero=>intro _;simp [kX]
  | succ n ih=>
   intro hn
   have h1:=ih (by omega)
   have h2:=cntC_le (ZJ h (List.getElem_mem (show n<cs.length by omega)))
   rw [Zh (by omega),zg (by omega),List.map_append,List.sum_append]
   simp only [List.map_cons,List.map_nil,List.sum_cons,List.sum_nil]
   omega
 have hs: ∀n,((cs.take n).map qf).sum<=(cs.map qf).sum:=fun n=>by
  have e:(cs.map qf).sum=((cs.take n).map qf).sum+((cs.drop n).map qf).sum:=by
   rw [<- List.sum_append, <- List.map_append,List.take_append_drop]
  omega
 by_cases hn:n<=cs.length
 . have:=key n hn;have:=hs n;omega
 . rw [List.take_of_length_le (by omega)]
   have h1:=key cs.length (Nat.le_refl _)
   have h2:=hs cs.length
   rw [List.take_length] at h1 h2
   omega
end Go.Proofs.YtbglndogddddoaaGreatDoor
namespace Go.Proofs.YtbglndogddddoaaGreatDoor
open Go.RowKit
attribute [local irreducible] qJ qd
set_option maxRecDepth 100000
def H13:List (Nat×Hint):=[]
def J13:List (Nat×Hint):=[]
abbrev S13:List Sh:=[.ag [.leaf, .leaf, .leaf, .leaf, .leaf]]
abbrev L13:List Lf:=[.str, .str, .int .i64, .sl .dig, .sl .chg]
def F13 (g:prodL L13) (K:Kn):Prop:=
 v8.pre (g.1,g.2.1,g.2.2.1,g.2.2.2.1,g.2.2.2.2.1,())/\
 K (.tu [.str ((jQ g.1 g.2.1 g.2.2.1 g.2.2.2.1 g.2.2.2.2.1).2.1), .int .i64 ((jQ g.1 g.2.1 g.2.2.1 g.2.2.2.1 g.2.2.2.2.1).2.2)]) []
theorem F13_eq (g:prodL L13) (K X:Kn):F13 g K=qJ D (qQ [] [(36,false,v8)]) (qw []) H13 J13 15 [.tmp 2, .tmp 3] (qz Tryz.f13) (argsT S13 L13 g) [] (settle0 K) X:=by kernel_rfl
theorem F13_ok (g:prodL L13) (K X:Kn) (h:F13 g K):FCalls Tryz.prog 13 (argsT S13 L13 g) [] K X:=
 FCalls.settle0 (qq (Γ:=qQ [] [(36,false,v8)]) (mu:=qw []) (H:=H13) (J:=J13) qh (qX (rs:=[]) (l:=[(36,false,v8)]) (fun p hp=>by cases hp) (by intro p hp;simp only [List.mem_cons,List.not_mem_nil,or_false] at hp;subst hp;exact Z2)) qx rfl Tryz.func13 (c:=qz Tryz.f13) rfl Tryz.ntmps13 Tryz.results13 (by unfold qk;rw [Tryz.func13];kernel_rfl) (Nat.le_of_ble_eq_true (by kernel_rfl)) (c0:=0) (Eq.mp (F13_eq g K X) h))
def sp13:Sp:=⟨S13,L13,fun g=>v8.pre g,fun g=> .tu [.str ((jQ g.1 g.2.1 g.2.2.1 g.2.2.2.1 g.2.2.2.2.1).2.1), .int .i64 ((jQ g.1 g.2.1 g.2.2.1 g.2.2.2.1 g.2.2.2.2.1).2.2)],fun _=>none⟩
theorem sp13_ok:sp13.Ok Tryz.prog 13 true:=
 ⟨fun g K X hp h=>F13_ok g K X (by
  have h:K (.tu [.str ((jQ g.1 g.2.1 g.2.2.1 g.2.2.2.1 g.2.2.2.2.1).2.1), .int .i64 ((jQ g.1 g.2.1 g.2.2.1 g.2.2.2.1 g.2.2.2.2.1).2.2)]) []:=h
  exact ⟨hp,h⟩),fun _ _ _=>rfl,fun _=>rfl,by first | exact fun _ _=>⟨rfl,rfl⟩ | (intro h;cases h)⟩
def H19:List (Nat×Hint):=[]
def J19:List (Nat×Hint):=[]
abbrev S19:List Sh:=[.ag [.leaf, .leaf, .leaf, .leaf, .leaf]]
abbrev L19:List Lf:=[.str, .str, .int .i64, .sl .dig, .sl .chg]
def F19 (g:prodL L19) (K:Kn):Prop:=
 v8.pre (g.1,g.2.1,g.2.2.1,g.2.2.2.1,g.2.2.2.2.1,())/\
 K (.int .i64 ((jQ g.1 g.2.1 g.2.2.1 g.2.2.2.1 g.2.2.2.2.1).2.2)) []
theorem F19_eq (g:prodL L19) (K X:Kn):F19 g K=qJ D (qQ [] [(36,false,v8)]) (qw []) H19 J19 13 [.tmp 2] (qz Tryz.f19) (argsT S19 L19 g) [] (settle0 K) X:=by kernel_rfl
theorem F19_ok (g:prodL L19) (K X:Kn) (h:F19 g K):FCalls Tryz.prog 19 (argsT S19 L19 g) [] K X:=
 FCalls.settle0 (qq (Γ:=qQ [] [(36,false,v8)]) (mu:=qw []) (H:=H19) (J:=J19) qh (qX (rs:=[]) (l:=[(36,false,v8)]) (fun p hp=>by cases hp) (by intro p hp;simp only [List.mem_cons,List.not_mem_nil,or_false] at hp;subst hp;exact Z2)) qx rfl Tryz.func19 (c:=qz Tryz.f19) rfl Tryz.ntmps19 Tryz.results19 (by unfold qk;rw [Tryz.func19];kernel_rfl) (Nat.le_of_ble_eq_true (by kernel_rfl)) (c0:=0) (Eq.mp (F19_eq g K X) h))
def sp19:Sp:=⟨S19,L19,fun g=>v8.pre g,fun g=> .int .i64 ((jQ g.1 g.2.1 g.2.2.1 g.2.2.2.1 g.2.2.2.2.1).2.2),fun _=>none⟩
theorem sp19_ok:sp19.Ok Tryz.prog 19 true:=
 ⟨fun g K X hp h=>F19_ok g K X (by
  have h:K (.int .i64 ((jQ g.1 g.2.1 g.2.2.1 g.2.2.2.1 g.2.2.2.2.1).2.2)) []:=h
  exact ⟨hp,h⟩),fun _ _ _=>rfl,fun _=>rfl,by first | exact fun _ _=>⟨rfl,rfl⟩ | (intro h;cases h)⟩
def H21:List (Nat×Hint):=[]
def J21:List (Nat×Hint):=[]
abbrev S21:List Sh:=[.ag [.leaf, .leaf, .leaf, .leaf, .leaf]]
abbrev L21:List Lf:=[.str, .str, .int .i64, .sl .dig, .sl .chg]
def F21 (g:prodL L21) (K:Kn):Prop:=
 v8.pre (g.1,g.2.1,g.2.2.1,g.2.2.2.1,g.2.2.2.2.1,())/\
 K (.int .i64 ((((jQ g.1 g.2.1 g.2.2.1 g.2.2.2.1 g.2.2.2.2.1).1).length:Nat):Int)) []
theorem F21_eq (g:prodL L21) (K X:Kn):F21 g K=qJ D (qQ [] [(36,false,v8)]) (qw []) H21 J21 14 [.tmp 2] (qz Tryz.f21) (argsT S21 L21 g) [] (settle0 K) X:=by kernel_rfl
theorem F21_ok (g:prodL L21) (K X:Kn) (h:F21 g K):FCalls Tryz.prog 21 (argsT S21 L21 g) [] K X:=
 FCalls.settle0 (qq (Γ:=qQ [] [(36,false,v8)]) (mu:=qw []) (H:=H21) (J:=J21) qh (qX (rs:=[]) (l:=[(36,false,v8)]) (fun p hp=>by cases hp) (by intro p hp;simp only [List.mem_cons,List.not_mem_nil,or_false] at hp;subst hp;exact Z2)) qx rfl Tryz.func21 (c:=qz Tryz.f21) rfl Tryz.ntmps21 Tryz.results21 (by unfold qk;rw [Tryz.func21];kernel_rfl) (Nat.le_of_ble_eq_true (by kernel_rfl)) (c0:=0) (Eq.mp (F21_eq g K X) h))
def sp21:Sp:=⟨S21,L21,fun g=>v8.pre g,fun g=> .int .i64 (((jQ g.1 g.2.1 g.2.2.1 g.2.2.2.1 g.2.2.2.2.1).1.length:Nat):Int),fun _=>none⟩
theorem sp21_ok:sp21.Ok Tryz.prog 21 true:=
 ⟨fun g K X hp h=>F21_ok g K X (by
  have h:K (.int .i64 (((jQ g.1 g.2.1 g.2.2.1 g.2.2.2.1 g.2.2.2.2.1).1.length:Nat):Int)) []:=h
  exact ⟨hp,h⟩),fun _ _ _=>rfl,fun _=>rfl,by first | exact fun _ _=>⟨rfl,rfl⟩ | (intro h;cases h)⟩
def H23:List (Nat×Hint):=[(5,⟨[((5,[]),none)],[(5, .pt 0 0),(25, .leaf),(26, .leaf),(27, .leaf)],[.cells [.leaf]],[.sl .chg, .int .i64, .int .i64, .int .i64]⟩)]
def J23:List (Nat×Hint):=[(2,⟨[((2,[]),none)],[(1, .leaf),(2, .pt 0 0),(21, .leaf)],[.cells [.leaf, .leaf, .leaf, .leaf, .leaf]],[.int .i64, .bool, .str, .str, .int .i64, .sl .dig, .sl .chg]⟩)]
abbrev S23:List Sh:=[.ag [.leaf, .leaf, .leaf, .leaf, .leaf], .leaf]
abbrev L23:List Lf:=[.str, .str, .int .i64, .sl .dig, .sl .chg, .int .i64]
def F23_B4 (K:Kn) (W4:prodL [.sl .chg, .int .i64, .int .i64, .int .i64]->Prop) (t_3:List Chg) (t2_3 t3_3 n_3:Int):Prop:=
 bif decide (t3_3<t2_3)then (
  At t_3 t3_3 fun u5=>
 True/\
 pre84b (n_3,u5,n_3,())/\
 W4 (t_3,t2_3,IntKind.i64.wrap (t3_3+1),n_3+XS u5,()))
 else (
  K (.int .i64 n_3) [])
def F23_L4 (K:Kn) (g:prodL [.sl .chg, .int .i64, .int .i64, .int .i64]):Prop:=
 qZ (γ:=prodL [.sl .chg, .int .i64, .int .i64, .int .i64]) (fun V y=>F23_B4 K V y.1 y.2.1 y.2.2.1 y.2.2.2.1) g
def J9 (K:Kn) (change_1:Int) (t_1:Bool) (p1_1 p2_1:ByteArray) (p3_1:Int) (p4_1:List Dig) (p5_1:List Chg):Prop:=
 bif t_1 then (
  K (.int .i64 0) [])
 else (
  (0:Int)<=0/\0<=change_1/\change_1<=(p5_1.length:Int)/\
 F23_L4 K ((p5_1.take change_1.toNat).drop ((0:Int).toNat),((((p5_1.take change_1.toNat).drop ((0:Int).toNat)).length:Nat):Int),0,0,()))
def F23 (g:prodL L23) (K:Kn):Prop:=
 sp19.pre (g.1,g.2.1,g.2.2.1,g.2.2.2.1,g.2.2.2.2.1,())/\
 bif !decide ((jQ g.1 g.2.1 g.2.2.1 g.2.2.2.1 g.2.2.2.2.1).2.2=0)then (
  J9 K g.2.2.2.2.2.1 true g.1 g.2.1 g.2.2.1 g.2.2.2.1 g.2.2.2.2.1)
 else (
  bif decide (g.2.2.2.2.2.1<0)then (
   J9 K g.2.2.2.2.2.1 true g.1 g.2.1 g.2.2.1 g.2.2.2.1 g.2.2.2.2.1)
  else (
   J9 K g.2.2.2.2.2.1 (decide ((g.2.2.2.2.1.length:Int)<=g.2.2.2.2.2.1)) g.1 g.2.1 g.2.2.1 g.2.2.2.1 g.2.2.2.2.1))
theorem F23_eq (g:prodL L23) (K X:Kn):F23 g K=qJ D (qQ [(84,V3)] [(19,true,sp19),(43,false,sp43)]) (qw [(84,V3)]) H23 J23 39 [.tmp 4] (qz Tryz.f23) (argsT S23 L23 g) [] (settle0 K) X 0 1023000:=by kernel_rfl
theorem F23_ok (g:prodL L23) (K X:Kn) (h:F23 g K):FCalls Tryz.prog 23 (argsT S23 L23 g) [] K X:=
 FCalls.settle0 (qq (Γ:=qQ [(84,V3)] [(19,true,sp19),(43,false,sp43)]) (mu:=qw [(84,V3)]) (H:=H23) (J:=J23) qh (qX (rs:=[(84,V3)]) (l:=[(19,true,sp19),(43,false,sp43)]) (by intro p hp;simp only [List.mem_cons,List.not_mem_nil,or_false] at hp;subst hp;exact rw84b_ok) (by intro p hp;simp only [List.mem_cons,List.not_mem_nil,or_false] at hp;rcases hp with rfl | rfl<;>first | exact sp19_ok | exact sp43_ok)) qx rfl Tryz.func23 (c:=qz Tryz.f23) rfl Tryz.ntmps23 Tryz.results23 (by unfold qk;rw [Tryz.func23];kernel_rfl) (Nat.le_of_ble_eq_true (by kernel_rfl)) (c0:=0) (Eq.mp (F23_eq g K X) h) (wT [8] (by kernel_rfl) (by kernel_rfl)))
end Go.Proofs.YtbglndogddddoaaGreatDoor
namespace Go.Proofs.YtbglndogddddoaaGreatDoor
open Go.RowKit
set_option maxRecDepth 100000
theorem F23_is {a m:ByteArray} {t:Int} {ds:List Dig} {cs:List Chg} {i:Int} {K:Kn} (hp:xP a m t ds cs) (h:KI K (firP a m t ds cs i)):F23 (a,m,t,ds,cs,i,()) K:=by
 have hp':=hp
 obtain ⟨h1,h2,h3,h4,h5,h6⟩:=hp'
 have hl:=Q8 h5
 unfold F23
 refine ⟨hp, ?_⟩
 unfold firP at h
 have hJ: ∀b,(b=false->(∀c∈cs,jJ c)/\0<=i/\i< (cs.length:Int))->KI K (firP2 cs i b)->J9 K i b a m t ds cs:=by
  intro b hb h
  unfold J9
  unfold firP2 at h
  cases b
  rotate_left
  . exact h
  obtain ⟨hk,i0,i1⟩:=hb rfl
  rw [cond_false] at h ⊢
  refine ⟨Int.le_refl 0,i0,by omega, ?_⟩
  rw [show (cs.take i.toNat).drop (0:Int).toNat=cs.take i.toNat from rfl]
  have hlen:(cs.take i.toNat).length=i.toNat:=by rw [List.length_take];omega
  unfold F23_L4
  refine qZ.countTo (cs.take i.toNat).length (fun n=>(cs.take i.toNat,(((cs.take i.toNat).length:Nat):Int),(n:Int),kX (cs.take n),())) (fun _=>True) rfl (fun n hn _ W hW=> ?_) trivial
  show F23_B4 K W (cs.take i.toNat) (((cs.take i.toNat).length:Nat):Int) n (kX (cs.take n))
  unfold F23_B4
  have hcn:=cntS_le h5 n
  by_cases hlt:n< (cs.take i.toNat).length
  . rw [qH hlt,cond_true]
    have hn2:n<cs.length:=by omega
    have hg:(cs.take i.toNat)[n]=cs[n]:=by simp
    have hm:=List.getElem_mem hn2
    refine qM hlt ⟨trivial, ?_⟩
    rw [hg,zU hlt (by omega), <- Zh hn2]
    exact ⟨⟨⟨hk _ hm,(zF (ZJ h5 hm)).2.2.1,hcn.1,by show kX (cs.take n)<=_;omega⟩,hcn.1,by show kX (cs.take n)<=_;omega⟩,hW hlt trivial⟩
  . have:n=(cs.take i.toNat).length:=by omega
    subst this
    rw [qt,cond_false,hlen]
    exact h
 show bif !decide ((jQ a m t ds cs).2.2=0)then _ else _
 by_cases z:(jQ a m t ds cs).2.2=0
 rotate_left
 . rw [decide_eq_false z] at h ⊢
   exact hJ true (fun e=>by cases e) h
 have hk: ∀c∈cs,jJ c:=fun c hc=>zC (XL (XA z).2.1 c hc)
 rw [decide_eq_true z] at h ⊢
 rw [Bool.not_true,cond_false] at h ⊢
 show bif decide (i<0)then _ else _
 cases e1:decide (i<0)
 . rw [e1] at h
   exact hJ _ (fun e2=>⟨hk,by have e3: ¬i<0:=of_decide_eq_false e1;omega,by have e3: ¬(cs.length:Int)<=i:=of_decide_eq_false e2;omega⟩) h
 . rw [e1] at h
   exact hJ true (fun e=>by cases e) h
def sp23:Sp:=⟨S23,L23,fun g=>xP g.1 g.2.1 g.2.2.1 g.2.2.2.1 g.2.2.2.2.1,fun g=> .int .i64 (firP g.1 g.2.1 g.2.2.1 g.2.2.2.1 g.2.2.2.2.1 g.2.2.2.2.2.1),fun _=>none⟩
theorem sp23_ok:sp23.Ok Tryz.prog 23 true:=
 ⟨fun g K X hp h=>F23_ok g K X (F23_is hp h),fun _ _ _=>rfl,fun _=>rfl,fun _ _=>⟨rfl,rfl⟩⟩
end Go.Proofs.YtbglndogddddoaaGreatDoor
namespace Go.Proofs.YtbglndogddddoaaGreatDoor
open Go.RowKit
attribute [local irreducible] qJ qd
set_option maxRecDepth 100000
end Go.Proofs.YtbglndogddddoaaGreatDoor
namespace Go.Proofs.YtbglndogddddoaaGreatDoor
open Go.RowKit
set_option maxRecDepth 100000
end Go.Proofs.YtbglndogddddoaaGreatDoor
namespace Go.Proofs.YtbglndogddddoaaGreatDoor
open Go.RowKit
attribute [local irreducible] qJ qd
set_option maxRecDepth 100000
end Go.Proofs.YtbglndogddddoaaGreatDoor
namespace Go.Proofs.YtbglndogddddoaaGreatDoor
open Go.RowKit
set_option maxRecDepth 100000
set_option maxRecDepth 100000
def rotL (x k:Int):Int:=qY .or .u32 (IntKind.u32.wrap (x*2^(min (qY .and .u64 (IntKind.u64.wrap k) 31).toNat IntKind.u32.bits))) (Int.fdiv x (2^(min (IntKind.u64.wrap (32- (qY .and .u64 (IntKind.u64.wrap k) 31))).toNat IntKind.u32.bits)))
def xX (x n:Int):Int:=rotL x (IntKind.i64.wrap (0-n))
def kL:List Int:=[1116352408,1899447441,3049323471,3921009573,961987163,1508970993,2453635748,2870763221,3624381080,310598401,607225278,1426881987,1925078388,2162078206,2614888103,3248222580,3835390401,4022224774,264347078,604807628,770255983,1249150122,1555081692,1996064986,2554220882,2821834349,2952996808,3210313671,3336571891,3584528711,113926993,338241895,666307205,773529912,1294757372,1396182291,1695183700,1986661051,2177026350,2456956037,2730485921,2820302411,3259730800,3345764771,3516065817,3600352804,4094571909,275423344,430227734,506948616,659060556,883997877,958139571,1322822218,1537002063,1747873779,1955562222,2024104815,2227730452,2361852424,2428436474,2756734187,3204031479,3329325298]
theorem u64_nn (n:Int):0<=IntKind.u64.wrap n:=by
 simp only [IntKind.wrap,IntKind.bits,IntKind.signed,Bool.false_and,Bool.false_eq_true,if_false]
 omega
theorem and_nn (a b:Int):0<=qY .and .u64 a b:=u64_nn _
def orB (x c:Int):Int:=qY .or .u32 (IntKind.u32.wrap (x*2^(min (8:Int).toNat IntKind.u32.bits))) (IntKind.u32.wrap c)
def ki (b:ByteArray) (t:Nat):List Int:=qS (b.extract (4*t) (4*t+4))
def sg1 (x:Int):Int:=qY .xor .u32 (qY .xor .u32 (xX x 17) (xX x 19)) (Int.fdiv x (2^(min (10:Int).toNat IntKind.u32.bits)))
def sg0 (x:Int):Int:=qY .xor .u32 (qY .xor .u32 (xX x 7) (xX x 18)) (Int.fdiv x (2^(min (3:Int).toNat IntKind.u32.bits)))
def schW (w:List Int) (t:Nat):Int:=IntKind.u32.wrap (IntKind.u32.wrap (IntKind.u32.wrap (sg1 (w.getD (t-2) 0)+w.getD (t-7) 0)+sg0 (w.getD (t-15) 0))+w.getD (t-16) 0)
def schA (b:ByteArray) (w:List Int) (t:Nat):List Int:=if t<16 then w.set t ((ki b t).foldl orB (w.getD t 0))else w.set t (schW w t)
def zL:List Int:=List.replicate 64 0
def Yp (b:ByteArray) (n:Nat):List Int:=(List.range n).foldl (schA b) zL
def qqA (b:ByteArray):List Int:=Yp b 64
theorem schA_len (b:ByteArray) (w:List Int) (t:Nat):(schA b w t).length=w.length:=by
 unfold schA;split<;>simp
theorem wAt_succ (b:ByteArray) (n:Nat):Yp b (n+1)=schA b (Yp b n) n:=by
 unfold Yp;rw [List.range_succ,List.foldl_append];rfl
theorem YA (b:ByteArray): ∀n,(Yp b n).length=64
 | 0=>by simp [Yp,zL]
 | n+1=>by rw [wAt_succ,schA_len,YA b n]
def Xl (w:List Int) (t:Nat) (e f g h:Int):Int:=IntKind.u32.wrap (IntKind.u32.wrap (IntKind.u32.wrap (IntKind.u32.wrap (h+(qY .xor .u32 (qY .xor .u32 (xX e 6) (xX e 11)) (xX e 25)))+(qY .xor .u32 (qY .and .u32 e f) (qY .and .u32 (qY .xor .u32 IntKind.u32.max e) g)))+kL.getD t 0)+w.getD t 0)
def rndT2 (a b c:Int):Int:=IntKind.u32.wrap ((qY .xor .u32 (qY .xor .u32 (xX a 2) (xX a 13)) (xX a 22))+(qY .xor .u32 (qY .xor .u32 (qY .and .u32 a b) (qY .and .u32 a c)) (qY .and .u32 b c)))
def rnd (w:List Int) (v:List Int) (t:Nat):List Int:=match v with
 | [a,b,c,d,e,f,g,h]=>[IntKind.u32.wrap (Xl w t e f g h+rndT2 a b c),a,b,c,IntKind.u32.wrap (d+Xl w t e f g h),e,f,g]
 | v=>v
def vAt (w s:List Int) (n:Nat):List Int:=(List.range n).foldl (rnd w) s
def XN (s v:List Int):List Int:=List.zipWith (fun x y=>IntKind.u32.wrap (x+y)) s v
def ql (s:List Int) (b:ByteArray):List Int:=XN s (vAt (qqA b) s 64)
theorem Kz {v:List Int} (h:v.length=8): ∃a b c d e f g k,v=[a,b,c,d,e,f,g,k]:=by
 match v,h with
 | [a,b,c,d,e,f,g,k],_=>exact ⟨a,b,c,d,e,f,g,k,rfl⟩
theorem rnd_len (w:List Int) {v:List Int} (t:Nat) (h:v.length=8):(rnd w v t).length=8:=by
 obtain ⟨a,b,c,d,e,f,g,k,rfl⟩:=Kz h
 rfl
theorem vAt_succ (w s:List Int) (n:Nat):vAt w s (n+1)=rnd w (vAt w s n) n:=by
 unfold vAt;rw [List.range_succ,List.foldl_append];rfl
theorem Wp (w:List Int) {s:List Int} (h:s.length=8): ∀n,(vAt w s n).length=8
 | 0=>h
 | n+1=>by rw [vAt_succ];exact rnd_len w n (Wp w h n)
theorem compP_len {s:List Int} (h:s.length=8) (b:ByteArray):(ql s b).length=8:=by
 unfold ql XN
 rw [List.length_zipWith,Wp _ h,h];rfl
def padN (n:Nat):Nat:=(120-n%64)%64
def lenB (s:ByteArray) (i:Nat):Int:=IntKind.u8.wrap (Int.fdiv (IntKind.u64.wrap ((IntKind.u64.wrap (s.size:Int))*8)) (2^(min (56-8*(i:Int)).toNat IntKind.u64.bits)))
def ZO (s:ByteArray):List Int:=qS (s.extract (s.size / 64*64) s.size)++[128]
def qqq (s:ByteArray):List Int:=ZO s++List.replicate (padN (ZO s).length) 0
def Xf (s:ByteArray):List Int:=qqq s++(List.range 8).map (lenB s)
def blkW (s:ByteArray) (i:Nat):ByteArray:=s.extract (64*i) (64*i+64)
def wY (l:List Int) (i:Nat):ByteArray:=jT ((l.drop (64*i)).take 64)
def ZU (s:ByteArray):List ByteArray:=(List.range (s.size / 64)).map (blkW s)
def blkB (s:ByteArray):List ByteArray:=(List.range ((Xf s).length / 64)).map (wY (Xf s))
def zj (st:List Int) (s:ByteArray):List Int:=(ZU s++blkB s).foldl ql st
def pre111 (g:prodL [.pr .str, .int .u32, .int .u32, .int .u32, .int .u32, .int .u32, .int .u32, .int .u32, .int .u32]):Prop:=g.1.size<=4194304
def st0:List Int:=[1779033703,3144134277,1013904242,2773480762,1359893119,2600822924,528734635,1541459225]
def zQ (v:List Int) (i j:Nat):Int:=IntKind.u8.wrap (Int.fdiv (v.getD i 0) (2^(min ((24:Int) - 8*j).toNat IntKind.u32.bits)))
def digW (v:List Int):Dig:=⟨zQ v 0 0,zQ v 0 1,zQ v 0 2,zQ v 0 3,zQ v 1 0,zQ v 1 1,zQ v 1 2,zQ v 1 3,zQ v 2 0,zQ v 2 1,zQ v 2 2,zQ v 2 3,zQ v 3 0,zQ v 3 1,zQ v 3 2,zQ v 3 3,zQ v 4 0,zQ v 4 1,zQ v 4 2,zQ v 4 3,zQ v 5 0,zQ v 5 1,zQ v 5 2,zQ v 5 3,zQ v 6 0,zQ v 6 1,zQ v 6 2,zQ v 6 3,zQ v 7 0,zQ v 7 1,zQ v 7 2,zQ v 7 3⟩
def X2 (s:ByteArray):Dig:=digW (zj st0 s)
theorem foldl_len {l:List ByteArray}: ∀{st:List Int},st.length=8->(l.foldl ql st).length=8:=by
 induction l with
 | nil=>intro st h;exact h
 | cons b l ih=>intro st h;exact ih (compP_len h b)
end Go.Proofs.YtbglndogddddoaaGreatDoor
namespace Go.Proofs.YtbglndogddddoaaGreatDoor
open Go.RowKit
attribute [local irreducible] qJ qd
set_option maxRecDepth 100000
def H156:List (Nat×Hint):=[]
def J156:List (Nat×Hint):=[]
abbrev S156:List Sh:=[.leaf, .leaf]
abbrev L156:List Lf:=[.int .u32, .int .i64]
def F156 (g:prodL L156) (K:Kn):Prop:=
 (0:Int)<=qY .and .u64 (IntKind.u64.wrap g.2.1) 31/\
 (0:Int)<=IntKind.u64.wrap (32- (qY .and .u64 (IntKind.u64.wrap g.2.1) 31))/\
 K (.int .u32 (qY .or .u32 (IntKind.u32.wrap (g.1*2^(min (qY .and .u64 (IntKind.u64.wrap g.2.1) 31).toNat IntKind.u32.bits))) (Int.fdiv g.1 (2^(min (IntKind.u64.wrap (32- (qY .and .u64 (IntKind.u64.wrap g.2.1) 31))).toNat IntKind.u32.bits))))) []
theorem F156_eq (g:prodL L156) (K X:Kn):F156 g K=qJ D (qQ [] []) (qw []) H156 J156 17 [.tmp 4] (qz Tryz.f156) (argsT S156 L156 g) [] (settle0 K) X:=by kernel_rfl
theorem F156_ok (g:prodL L156) (K X:Kn) (h:F156 g K):FCalls Tryz.prog 156 (argsT S156 L156 g) [] K X:=
 FCalls.settle0 (qq qh (wQ wZ) qx rfl Tryz.func156 (c:=qz Tryz.f156) rfl Tryz.ntmps156 Tryz.results156 (by unfold qk;rw [Tryz.func156];kernel_rfl) (Nat.le_of_ble_eq_true (by kernel_rfl)) (c0:=0) (Eq.mp (F156_eq g K X) h))
def sp156:Sp:=⟨S156,L156,fun _=>True,fun g=> .int .u32 (rotL g.1 g.2.1),fun _=>none⟩
theorem sp156_ok:sp156.Ok Tryz.prog 156 true:=
 ⟨fun g K X hp h=>F156_ok g K X (by
  have h:K (.int .u32 (rotL g.1 g.2.1)) []:=h
  exact ⟨and_nn _ _,u64_nn _,h⟩),fun _ _ _=>rfl,fun _=>rfl,by first | exact fun _ _=>⟨rfl,rfl⟩ | (intro h;cases h)⟩
def H114:List (Nat×Hint):=[]
def J114:List (Nat×Hint):=[]
abbrev S114:List Sh:=[.leaf, .leaf]
abbrev L114:List Lf:=[.int .u32, .int .i64]
def F114 (g:prodL L114) (K:Kn):Prop:=
 True/\
 K (.int .u32 (rotL g.1 (IntKind.i64.wrap (0-g.2.1)))) []
theorem F114_eq (g:prodL L114) (K X:Kn):F114 g K=qJ D (qQ [] [(156,true,sp156)]) (qw []) H114 J114 9 [.tmp 4] (qz Tryz.f114) (argsT S114 L114 g) [] (settle0 K) X:=by kernel_rfl
theorem F114_ok (g:prodL L114) (K X:Kn) (h:F114 g K):FCalls Tryz.prog 114 (argsT S114 L114 g) [] K X:=
 FCalls.settle0 (qq (Γ:=qQ [] [(156,true,sp156)]) (mu:=qw []) (H:=H114) (J:=J114) qh (qX (rs:=[]) (l:=[(156,true,sp156)]) (fun p hp=>by cases hp) (by intro p hp;simp only [List.mem_cons,List.not_mem_nil,or_false] at hp;subst hp;exact sp156_ok)) qx rfl Tryz.func114 (c:=qz Tryz.f114) rfl Tryz.ntmps114 Tryz.results114 (by unfold qk;rw [Tryz.func114];kernel_rfl) (Nat.le_of_ble_eq_true (by kernel_rfl)) (c0:=0) (Eq.mp (F114_eq g K X) h))
def qqu:Sp:=⟨S114,L114,fun _=>True,fun g=> .int .u32 (xX g.1 g.2.1),fun _=>none⟩
theorem sp114_ok:qqu.Ok Tryz.prog 114 true:=
 ⟨fun g K X hp h=>F114_ok g K X (by
  have h:K (.int .u32 (xX g.1 g.2.1)) []:=h
  exact ⟨trivial,h⟩),fun _ _ _=>rfl,fun _=>rfl,by first | exact fun _ _=>⟨rfl,rfl⟩ | (intro h;cases h)⟩
def H113:List (Nat×Hint):=[]
def J113:List (Nat×Hint):=[]
abbrev S113:List Sh:=[]
abbrev L113:List Lf:=[]
def F113 (g:prodL L113) (K:Kn):Prop:=
 xM ([1116352408,1899447441,3049323471,3921009573,961987163,1508970993,2453635748,2870763221,3624381080,310598401,607225278,1426881987,1925078388,2162078206,2614888103,3248222580,3835390401,4022224774,264347078,604807628,770255983,1249150122,1555081692,1996064986,2554220882,2821834349,2952996808,3210313671,3336571891,3584528711,113926993,338241895,666307205,773529912,1294757372,1396182291,1695183700,1986661051,2177026350,2456956037,2730485921,2820302411,3259730800,3345764771,3516065817,3600352804,4094571909,275423344,430227734,506948616,659060556,883997877,958139571,1322822218,1537002063,1747873779,1955562222,2024104815,2227730452,2361852424,2428436474,2756734187,3204031479,3329325298].length*1=64/\[1116352408,1899447441,3049323471,3921009573,961987163,1508970993,2453635748,2870763221,3624381080,310598401,607225278,1426881987,1925078388,2162078206,2614888103,3248222580,3835390401,4022224774,264347078,604807628,770255983,1249150122,1555081692,1996064986,2554220882,2821834349,2952996808,3210313671,3336571891,3584528711,113926993,338241895,666307205,773529912,1294757372,1396182291,1695183700,1986661051,2177026350,2456956037,2730485921,2820302411,3259730800,3345764771,3516065817,3600352804,4094571909,275423344,430227734,506948616,659060556,883997877,958139571,1322822218,1537002063,1747873779,1955562222,2024104815,2227730452,2361852424,2428436474,2756734187,3204031479,3329325298].length=(List.replicate 64 (0:Int)).length) (
 xM ([1116352408,1899447441,3049323471,3921009573,961987163,1508970993,2453635748,2870763221,3624381080,310598401,607225278,1426881987,1925078388,2162078206,2614888103,3248222580,3835390401,4022224774,264347078,604807628,770255983,1249150122,1555081692,1996064986,2554220882,2821834349,2952996808,3210313671,3336571891,3584528711,113926993,338241895,666307205,773529912,1294757372,1396182291,1695183700,1986661051,2177026350,2456956037,2730485921,2820302411,3259730800,3345764771,3516065817,3600352804,4094571909,275423344,430227734,506948616,659060556,883997877,958139571,1322822218,1537002063,1747873779,1955562222,2024104815,2227730452,2361852424,2428436474,2756734187,3204031479,3329325298].length*1=64) (
 K (.al .u32 [1116352408,1899447441,3049323471,3921009573,961987163,1508970993,2453635748,2870763221,3624381080,310598401,607225278,1426881987,1925078388,2162078206,2614888103,3248222580,3835390401,4022224774,264347078,604807628,770255983,1249150122,1555081692,1996064986,2554220882,2821834349,2952996808,3210313671,3336571891,3584528711,113926993,338241895,666307205,773529912,1294757372,1396182291,1695183700,1986661051,2177026350,2456956037,2730485921,2820302411,3259730800,3345764771,3516065817,3600352804,4094571909,275423344,430227734,506948616,659060556,883997877,958139571,1322822218,1537002063,1747873779,1955562222,2024104815,2227730452,2361852424,2428436474,2756734187,3204031479,3329325298]) []))
theorem F113_eq (g:prodL L113) (K X:Kn):F113 g K=qJ D (qQ [] []) (qw []) H113 J113 2 [.cell 0 138] (qz Tryz.f113) (argsT S113 L113 g) [] (settle0 K) X:=by kernel_rfl
theorem F113_ok (g:prodL L113) (K X:Kn) (h:F113 g K):FCalls Tryz.prog 113 (argsT S113 L113 g) [] K X:=
 FCalls.settle0 (qq qh (wQ wZ) qx rfl Tryz.func113 (c:=qz Tryz.f113) rfl Tryz.ntmps113 Tryz.results113 (by unfold qk;rw [Tryz.func113];kernel_rfl) (Nat.le_of_ble_eq_true (by kernel_rfl)) (c0:=0) (Eq.mp (F113_eq g K X) h))
def sp113:Sp:=⟨S113,L113,fun _=>True,fun g=> .al .u32 kL,fun _=>none⟩
theorem sp113_ok:sp113.Ok Tryz.prog 113 false:=
 ⟨fun g K X hp h=>F113_ok g K X (by
  have h:K (.al .u32 kL) []:=h
  exact ⟨⟨rfl,rfl⟩,rfl,h⟩),fun _ _ _=>rfl,fun _=>rfl,by first | exact fun _ _=>⟨rfl,rfl⟩ | (intro h;cases h)⟩
def H112:List (Nat×Hint):=[(3,⟨[((2,[]),none),((3,[]),none)],[(0, .leaf),(2, .pa .u32 0),(3, .pa .u32 1),(9, .leaf)],[.arr .u32, .arr .u32],[.str, .int .i64, .sl .u32, .sl .u32]⟩),(7,⟨[((2,[]),none),((3,[]),none),((21,[]),none)],[(0, .leaf),(2, .pa .u32 0),(3, .pa .u32 1),(4, .leaf),(9, .leaf),(21, .oa .u8 2),(22, .leaf),(23, .leaf)],[.arr .u32, .arr .u32, .arr .u8],[.str, .int .i64, .int .i64, .int .i64, .int .i64, .sl .u32, .sl .u32, .sl .u8]⟩)]
def J112:List (Nat×Hint):=[(13,⟨[((2,[]),none),((3,[]),none)],[(0, .leaf),(2, .pa .u32 0),(3, .pa .u32 1),(9, .leaf)],[.arr .u32, .arr .u32],[.str, .int .i64, .sl .u32, .sl .u32]⟩)]
abbrev S112:List Sh:=[.leaf]
abbrev L112:List Lf:=[.str]
def Qe (K:Kn) (W2:prodL [.str, .int .i64, .sl .u32, .sl .u32]->Prop) (block_13:ByteArray) (t_13:Int) (t2_13:List Int) (w_13:List Int):Prop:=
 W2 (block_13,IntKind.i64.wrap (t_13+1),t2_13,w_13,())
def YH (K:Kn) (W2:prodL [.str, .int .i64, .sl .u32, .sl .u32]->Prop) (W4:prodL [.str, .int .i64, .int .i64, .int .i64, .int .i64, .sl .u32, .sl .u32, .sl .u8]->Prop) (block_3:ByteArray) (t_3 t2_3 t3_3 t4_3:Int) (t5_3:List Int) (w_3:List Int) (t6_3:List Int):Prop:=
 bif decide (t4_3<t3_3)then (
   0<=t4_3/\t4_3.toNat<t6_3.length/\
  Y1 t6_3 t4_3.toNat fun x5=>
  0<=t_3/\t_3.toNat<64/\
  Y1 w_3 t_3.toNat fun x6=>
  (0:Int)<=8/\
  0<=t_3/\t_3.toNat<64/\
  Y1 w_3 t_3.toNat fun x7=>
  W4 (block_3,t_3,t2_3,t3_3,IntKind.i64.wrap (t4_3+1),t5_3,w_3.set t_3.toNat (qY .or .u32 (IntKind.u32.wrap (x6*2^(min (8:Int).toNat IntKind.u32.bits))) (IntKind.u32.wrap x5)),t6_3,()))
  else (
   Qe K W2 block_3 t2_3 t5_3 w_3)
def Yi (K:Kn) (W2:prodL [.str, .int .i64, .sl .u32, .sl .u32]->Prop) (g:prodL [.str, .int .i64, .int .i64, .int .i64, .int .i64, .sl .u32, .sl .u32, .sl .u8]):Prop:=
 qZ (γ:=prodL [.str, .int .i64, .int .i64, .int .i64, .int .i64, .sl .u32, .sl .u32, .sl .u8]) (fun V y=>YH K W2 V y.1 y.2.1 y.2.2.1 y.2.2.2.1 y.2.2.2.2.1 y.2.2.2.2.2.1 y.2.2.2.2.2.2.1 y.2.2.2.2.2.2.2.1) g
def YC (K:Kn) (W2:prodL [.str, .int .i64, .sl .u32, .sl .u32]->Prop) (block_1:ByteArray) (t_1:Int) (t2_1:List Int) (w_1:List Int):Prop:=
 bif decide (t_1<64)then (
  bif decide (t_1<16)then (
  (0:Int)<=IntKind.i64.wrap (4*t_1)/\IntKind.i64.wrap (4*t_1)<=IntKind.i64.wrap ((IntKind.i64.wrap (4*t_1))+4)/\IntKind.i64.wrap ((IntKind.i64.wrap (4*t_1))+4)<=(block_1.size:Int)/\
  qG (block_1.extract (IntKind.i64.wrap (4*t_1)).toNat (IntKind.i64.wrap ((IntKind.i64.wrap (4*t_1))+4)).toNat).size 1 (
  Yi K W2 (block_1,t_1,t_1,(((qS (block_1.extract (IntKind.i64.wrap (4*t_1)).toNat (IntKind.i64.wrap ((IntKind.i64.wrap (4*t_1))+4)).toNat)).length:Nat):Int),0,t2_1,w_1,qS (block_1.extract (IntKind.i64.wrap (4*t_1)).toNat (IntKind.i64.wrap ((IntKind.i64.wrap (4*t_1))+4)).toNat),())))
 else (
  0<=IntKind.i64.wrap (t_1-15)/\(IntKind.i64.wrap (t_1-15)).toNat<64/\
 Y1 w_1 ((IntKind.i64.wrap (t_1-15)).toNat) fun x8=>
 0<=IntKind.i64.wrap (t_1-2)/\(IntKind.i64.wrap (t_1-2)).toNat<64/\
 Y1 w_1 ((IntKind.i64.wrap (t_1-2)).toNat) fun x9=>
 True/\
 True/\
 (0:Int)<=10/\
 0<=IntKind.i64.wrap (t_1-7)/\(IntKind.i64.wrap (t_1-7)).toNat<64/\
 Y1 w_1 ((IntKind.i64.wrap (t_1-7)).toNat) fun x10=>
 True/\
 True/\
 (0:Int)<=3/\
 0<=IntKind.i64.wrap (t_1-16)/\(IntKind.i64.wrap (t_1-16)).toNat<64/\
 Y1 w_1 ((IntKind.i64.wrap (t_1-16)).toNat) fun x11=>
 0<=t_1/\t_1.toNat<64/\
 Y1 w_1 t_1.toNat fun x12=>
 Qe K W2 block_1 t_1 t2_1 (w_1.set t_1.toNat (IntKind.u32.wrap ((IntKind.u32.wrap ((IntKind.u32.wrap ((qY .xor .u32 (qY .xor .u32 (xX x9 17) (xX x9 19)) (Int.fdiv x9 (2^(min (10:Int).toNat IntKind.u32.bits))))+x10))+(qY .xor .u32 (qY .xor .u32 (xX x8 7) (xX x8 18)) (Int.fdiv x8 (2^(min (3:Int).toNat IntKind.u32.bits))))))+x11)))))
 else (
  xM (w_1.length*1=64) (
 xM (w_1.length*1=64/\w_1.length=t2_1.length) (
 xM (w_1.length*1=64) (
 K (.al .u32 w_1) []))))
def W1 (K:Kn) (g:prodL [.str, .int .i64, .sl .u32, .sl .u32]):Prop:=
 qZ (γ:=prodL [.str, .int .i64, .sl .u32, .sl .u32]) (fun V y=>YC K V y.1 y.2.1 y.2.2.1 y.2.2.2.1) g
def F112 (g:prodL L112) (K:Kn):Prop:=
 W1 K (g.1,0,(List.replicate 64 (0:Int)),(List.replicate 64 (0:Int)),())
theorem F112_eq (g:prodL L112) (K X:Kn):F112 g K=qJ D (qQ [] [(114,true,qqu)]) (qw []) H112 J112 76 [.cell 2 138] (qz Tryz.f112) (argsT S112 L112 g) [] (settle0 K) X:=by kernel_rfl
theorem F112_ok (g:prodL L112) (K X:Kn) (h:F112 g K):FCalls Tryz.prog 112 (argsT S112 L112 g) [] K X:=
 FCalls.settle0 (qq (Γ:=qQ [] [(114,true,qqu)]) (mu:=qw []) (H:=H112) (J:=J112) qh (qX (rs:=[]) (l:=[(114,true,qqu)]) (fun p hp=>by cases hp) (by intro p hp;simp only [List.mem_cons,List.not_mem_nil,or_false] at hp;subst hp;exact sp114_ok)) qx rfl Tryz.func112 (c:=qz Tryz.f112) rfl Tryz.ntmps112 Tryz.results112 (by unfold qk;rw [Tryz.func112];kernel_rfl) (Nat.le_of_ble_eq_true (by kernel_rfl)) (c0:=0) (Eq.mp (F112_eq g K X) h))
def H65:List (Nat×Hint):=[]
def J65:List (Nat×Hint):=[]
abbrev S65:List Sh:=[.leaf]
abbrev L65:List Lf:=[.str]
def F65 (g:prodL L65) (K:Kn):Prop:=
 K (.fn 111 [] [.pr .str g.1 0]) []
theorem F65_eq (g:prodL L65) (K X:Kn):F65 g K=qJ D (qQ [] []) (qw []) H65 J65 4 [.tmp 2] (qz Tryz.f65) (argsT S65 L65 g) [] (settle0 K) X:=by kernel_rfl
theorem F65_ok (g:prodL L65) (K X:Kn) (h:F65 g K):FCalls Tryz.prog 65 (argsT S65 L65 g) [] K X:=
 FCalls.settle0 (qq qh (wQ wZ) qx rfl Tryz.func65 (c:=qz Tryz.f65) rfl Tryz.ntmps65 Tryz.results65 (by unfold qk;rw [Tryz.func65];kernel_rfl) (Nat.le_of_ble_eq_true (by kernel_rfl)) (c0:=0) (Eq.mp (F65_eq g K X) h))
def sp65:Sp:=⟨S65,L65,fun _=>True,fun g=> .fn 111 [] [.pr .str g.1 0],fun _=>none⟩
theorem sp65_ok:sp65.Ok Tryz.prog 65 false:=
 ⟨fun g K X hp h=>F65_ok g K X (by
  have h:K (.fn 111 [] [.pr .str g.1 0]) []:=h
  exact h),fun _ _ _=>rfl,fun _=>rfl,by first | exact fun _ _=>⟨rfl,rfl⟩ | (intro h;cases h)⟩
end Go.Proofs.YtbglndogddddoaaGreatDoor
namespace Go.Proofs.YtbglndogddddoaaGreatDoor
open Go.RowKit
set_option maxRecDepth 100000
theorem vp {α:Type} {l:List α} {n:Nat} {K:α->Prop} (h:n<l.length) (hK:K l[n]):Y1 l n K:=⟨l[n],jI h,hK⟩
theorem Jm {l:List Int} {n:Nat} (h:n<l.length):l.getD n 0=l[n]:=by rw [List.getD_eq_getElem?_getD,jI h];rfl
theorem toN (n:Nat):((n:Nat):Int).toNat=n:=by omega
theorem wI {n:Int} (h: -4294967296<=n/\n<=4294967296):IntKind.i64.wrap n=n:=QP (by omega) (by omega)
theorem set_getD (w:List Int) (t:Nat) (h:t<w.length):w.set t (w.getD t 0)=w:=by
 rw [Jm h,List.set_getElem_self]
theorem F112_is {b:ByteArray} {K:Kn} (hb:b.size=64) (h:K (.al .u32 (qqA b)) []):F112 (b,()) K:=by
 unfold F112
 show W1 K _
 unfold W1
 refine qZ.countTo 64 (fun t=>(b,(t:Int),zL,Yp b t,())) (fun _=>True) rfl (fun t ht _ W hW=> ?_) trivial
 show YC K W b t zL (Yp b t)
 have hlen:=YA b t
 unfold YC
 by_cases hlt:t<64
 . rw [decide_eq_true (show (t:Int) <64 by omega),cond_true]
   have hW:=hW hlt trivial
   rw [wAt_succ] at hW
   by_cases h16:t<16
   . rw [decide_eq_true (show (t:Int) <16 by omega),cond_true]
     have e4:IntKind.i64.wrap (4*(t:Int))=((4*t:Nat):Int):=by rw [wI (by omega)];omega
     have e5:IntKind.i64.wrap (((4*t:Nat):Int)+4)=((4*t+4:Nat):Int):=by rw [wI (by omega)];omega
     rw [e4,e5,toN,toN]
     refine ⟨by omega,by omega,by rw [hb];omega, ?_⟩
     have hsz:(b.extract (4*t) (4*t+4)).size=4:=by rw [ByteArray.size_extract,hb];omega
     refine ⟨by rw [hsz];exact Nat.le_of_ble_eq_true rfl, ?_⟩
     have hbl:(ki b t).length=4:=by unfold ki qS;simp;rw [hb];omega
     unfold schA at hW
     rw [if_pos h16] at hW
     show Yi K W (b,(t:Int),(t:Int),(((ki b t).length:Nat):Int),0,zL,Yp b t,ki b t,())
     unfold Yi
     refine qZ.countTo (ki b t).length (fun j=>(b,(t:Int),(t:Int),(((ki b t).length:Nat):Int),(j:Int),zL,(Yp b t).set t (((ki b t).take j).foldl orB ((Yp b t).getD t 0)),ki b t,())) (fun _=>True) (by rw [List.take_zero,List.foldl_nil,set_getD _ _ (by omega)];rfl) (fun j hj _ W4 hW4=> ?_) trivial
     show YH K W W4 b t t (((ki b t).length:Nat):Int) j zL ((Yp b t).set t (((ki b t).take j).foldl orB ((Yp b t).getD t 0))) (ki b t)
     unfold YH
     by_cases hjl:j< (ki b t).length
     . rw [qH hjl,cond_true]
       simp only [toN]
       have hl2:t< ((Yp b t).set t (((ki b t).take j).foldl orB ((Yp b t).getD t 0))).length:=by rw [List.length_set];omega
       refine ⟨by omega,hjl,vp hjl ⟨by omega,by omega,vp hl2 ⟨by omega,by omega,by omega,vp hl2 ?_⟩⟩⟩
       have:=hW4 hjl trivial
       rw [zg hjl,List.foldl_append] at this
       rw [zU hjl (by omega),List.set_set,List.getElem_set_self]
       exact this
     . have:j=(ki b t).length:=by omega
       subst this
       rw [qt,cond_false,List.take_length]
       unfold Qe
       rw [wI (by omega)]
       exact hW
   . rw [decide_eq_false (show¬(t:Int) <16 by omega),cond_false]
     unfold schA at hW
     rw [if_neg h16] at hW
     have e15:IntKind.i64.wrap ((t:Int) - 15)=((t-15:Nat):Int):=by rw [wI (by omega)];omega
     have e2:IntKind.i64.wrap ((t:Int) - 2)=((t-2:Nat):Int):=by rw [wI (by omega)];omega
     have e7:IntKind.i64.wrap ((t:Int) - 7)=((t-7:Nat):Int):=by rw [wI (by omega)];omega
     have e16:IntKind.i64.wrap ((t:Int) - 16)=((t-16:Nat):Int):=by rw [wI (by omega)];omega
     rw [e15,e2,e7,e16]
     simp only [toN]
     refine ⟨by omega,by omega,vp (by omega) ⟨by omega,by omega,vp (by omega) ⟨trivial,trivial,by omega,by omega,by omega,vp (by omega) ⟨trivial,trivial,by omega,by omega,by omega,vp (by omega) ⟨by omega,by omega,vp (by omega) ?_⟩⟩⟩⟩⟩
     unfold Qe
     unfold schW at hW
     rw [Jm (show t-2< (Yp b t).length by omega),Jm (show t-7< (Yp b t).length by omega),Jm (show t-15< (Yp b t).length by omega),Jm (show t-16< (Yp b t).length by omega)] at hW
     rw [wI (by omega)]
     exact hW
 . have:t=64:=by omega
   subst this
   rw [decide_eq_false (by omega),cond_false]
   exact ⟨by omega,⟨by omega,by rw [hlen];rfl⟩,by omega,h⟩
def sp112:Sp:=⟨S112,L112,fun g=>g.1.size=64,fun g=> .al .u32 (qqA g.1),fun _=>none⟩
theorem sp112_ok:sp112.Ok Tryz.prog 112 false:=
 ⟨fun g K X hp h=>F112_ok g K X (F112_is hp h),fun _ _ _=>rfl,fun _=>rfl,fun h=>(by cases h)⟩
end Go.Proofs.YtbglndogddddoaaGreatDoor
namespace Go.Proofs.YtbglndogddddoaaGreatDoor
open Go.RowKit
attribute [local irreducible] qJ qd
set_option maxRecDepth 100000
def H66:List (Nat×Hint):=[(4,⟨[((2,[]),none),((4,[]),none),((5,[]),none),((6,[]),none)],[(2, .pt 0 0),(4, .pt 1 0),(5, .pa .u32 2),(6, .pa .u32 3),(7, .leaf),(8, .leaf),(9, .leaf),(10, .leaf),(11, .leaf),(12, .leaf),(13, .leaf),(14, .leaf),(39, .leaf)],[.cells [.leaf, .leaf, .leaf, .leaf, .leaf, .leaf, .leaf, .leaf], .cells [.leaf, .leaf, .leaf, .leaf, .leaf, .leaf, .leaf, .leaf], .arr .u32, .arr .u32],[.int .u32, .int .u32, .int .u32, .int .u32, .int .u32, .int .u32, .int .u32, .int .u32, .int .i64, .int .u32, .int .u32, .int .u32, .int .u32, .int .u32, .int .u32, .int .u32, .int .u32, .int .u32, .int .u32, .int .u32, .int .u32, .int .u32, .int .u32, .int .u32, .int .u32, .sl .u32, .sl .u32]⟩),(11,⟨[],[],[],[]⟩),(9000011,⟨[],[],[],[]⟩)]
def J66:List (Nat×Hint):=[]
abbrev S66:List Sh:=[.ag [.leaf, .leaf, .leaf, .leaf, .leaf, .leaf, .leaf, .leaf], .leaf]
abbrev L66:List Lf:=[.int .u32, .int .u32, .int .u32, .int .u32, .int .u32, .int .u32, .int .u32, .int .u32, .str]
def Xo (K:Kn) (W2:prodL [.int .u32, .int .u32, .int .u32, .int .u32, .int .u32, .int .u32, .int .u32, .int .u32, .int .i64, .int .u32, .int .u32, .int .u32, .int .u32, .int .u32, .int .u32, .int .u32, .int .u32, .int .u32, .int .u32, .int .u32, .int .u32, .int .u32, .int .u32, .int .u32, .int .u32, .sl .u32, .sl .u32]->Prop) (a_1 b_1 c_1 d_1 e_1 f_1 g_1 h_1 t_1 state1_1 state2_1 state3_1 state4_1 state5_1 state6_1 state7_1 state8_1 t1_1 t2_1 t3_1 t4_1 t5_1 t6_1 t7_1 t8_1:Int) (w_1:List Int) (k_1:List Int):Prop:=
 bif decide (t_1<64)then (
  True/\
 True/\
 True/\
 0<=t_1/\t_1.toNat<64/\
 Y1 k_1 t_1.toNat fun x3=>
 0<=t_1/\t_1.toNat<64/\
 Y1 w_1 t_1.toNat fun x4=>
 True/\
 True/\
 True/\
 W2 (IntKind.u32.wrap ((IntKind.u32.wrap ((IntKind.u32.wrap ((IntKind.u32.wrap ((IntKind.u32.wrap (h_1+(qY .xor .u32 (qY .xor .u32 (xX e_1 6) (xX e_1 11)) (xX e_1 25))))+(qY .xor .u32 (qY .and .u32 e_1 f_1) (qY .and .u32 (qY .xor .u32 IntKind.u32.max e_1) g_1))))+x3))+x4))+(IntKind.u32.wrap ((qY .xor .u32 (qY .xor .u32 (xX a_1 2) (xX a_1 13)) (xX a_1 22))+(qY .xor .u32 (qY .xor .u32 (qY .and .u32 a_1 b_1) (qY .and .u32 a_1 c_1)) (qY .and .u32 b_1 c_1))))),a_1,b_1,c_1,IntKind.u32.wrap (d_1+(IntKind.u32.wrap ((IntKind.u32.wrap ((IntKind.u32.wrap ((IntKind.u32.wrap (h_1+(qY .xor .u32 (qY .xor .u32 (xX e_1 6) (xX e_1 11)) (xX e_1 25))))+(qY .xor .u32 (qY .and .u32 e_1 f_1) (qY .and .u32 (qY .xor .u32 IntKind.u32.max e_1) g_1))))+x3))+x4))),e_1,f_1,g_1,IntKind.i64.wrap (t_1+1),state1_1,state2_1,state3_1,state4_1,state5_1,state6_1,state7_1,state8_1,t1_1,t2_1,t3_1,t4_1,t5_1,t6_1,t7_1,t8_1,w_1,k_1,()))
 else (
  (0:Int)<=0/\(0:Int).toNat<8/\
 0<=(0:Int)/\(0:Int).toNat<8/\
 0<=(0:Int)/\(0:Int).toNat<8/\
 (0:Int)<=1/\(1:Int).toNat<8/\
 0<=(1:Int)/\(1:Int).toNat<8/\
 0<=(1:Int)/\(1:Int).toNat<8/\
 (0:Int)<=2/\(2:Int).toNat<8/\
 0<=(2:Int)/\(2:Int).toNat<8/\
 0<=(2:Int)/\(2:Int).toNat<8/\
 (0:Int)<=3/\(3:Int).toNat<8/\
 0<=(3:Int)/\(3:Int).toNat<8/\
 0<=(3:Int)/\(3:Int).toNat<8/\
 (0:Int)<=4/\(4:Int).toNat<8/\
 0<=(4:Int)/\(4:Int).toNat<8/\
 0<=(4:Int)/\(4:Int).toNat<8/\
 (0:Int)<=5/\(5:Int).toNat<8/\
 0<=(5:Int)/\(5:Int).toNat<8/\
 0<=(5:Int)/\(5:Int).toNat<8/\
 (0:Int)<=6/\(6:Int).toNat<8/\
 0<=(6:Int)/\(6:Int).toNat<8/\
 0<=(6:Int)/\(6:Int).toNat<8/\
 (0:Int)<=7/\(7:Int).toNat<8/\
 0<=(7:Int)/\(7:Int).toNat<8/\
 0<=(7:Int)/\(7:Int).toNat<8/\
 K (.ag [.int .u32 (IntKind.u32.wrap (state1_1+a_1)), .int .u32 (IntKind.u32.wrap (state2_1+b_1)), .int .u32 (IntKind.u32.wrap (state3_1+c_1)), .int .u32 (IntKind.u32.wrap (state4_1+d_1)), .int .u32 (IntKind.u32.wrap (state5_1+e_1)), .int .u32 (IntKind.u32.wrap (state6_1+f_1)), .int .u32 (IntKind.u32.wrap (state7_1+g_1)), .int .u32 (IntKind.u32.wrap (state8_1+h_1))]) [])
def F66_L2 (K:Kn) (g:prodL [.int .u32, .int .u32, .int .u32, .int .u32, .int .u32, .int .u32, .int .u32, .int .u32, .int .i64, .int .u32, .int .u32, .int .u32, .int .u32, .int .u32, .int .u32, .int .u32, .int .u32, .int .u32, .int .u32, .int .u32, .int .u32, .int .u32, .int .u32, .int .u32, .int .u32, .sl .u32, .sl .u32]):Prop:=
 qZ (γ:=prodL [.int .u32, .int .u32, .int .u32, .int .u32, .int .u32, .int .u32, .int .u32, .int .u32, .int .i64, .int .u32, .int .u32, .int .u32, .int .u32, .int .u32, .int .u32, .int .u32, .int .u32, .int .u32, .int .u32, .int .u32, .int .u32, .int .u32, .int .u32, .int .u32, .int .u32, .sl .u32, .sl .u32]) (fun V y=>Xo K V y.1 y.2.1 y.2.2.1 y.2.2.2.1 y.2.2.2.2.1 y.2.2.2.2.2.1 y.2.2.2.2.2.2.1 y.2.2.2.2.2.2.2.1 y.2.2.2.2.2.2.2.2.1 y.2.2.2.2.2.2.2.2.2.1 y.2.2.2.2.2.2.2.2.2.2.1 y.2.2.2.2.2.2.2.2.2.2.2.1 y.2.2.2.2.2.2.2.2.2.2.2.2.1 y.2.2.2.2.2.2.2.2.2.2.2.2.2.1 y.2.2.2.2.2.2.2.2.2.2.2.2.2.2.1 y.2.2.2.2.2.2.2.2.2.2.2.2.2.2.2.1 y.2.2.2.2.2.2.2.2.2.2.2.2.2.2.2.2.1 y.2.2.2.2.2.2.2.2.2.2.2.2.2.2.2.2.2.1 y.2.2.2.2.2.2.2.2.2.2.2.2.2.2.2.2.2.2.1 y.2.2.2.2.2.2.2.2.2.2.2.2.2.2.2.2.2.2.2.1 y.2.2.2.2.2.2.2.2.2.2.2.2.2.2.2.2.2.2.2.2.1 y.2.2.2.2.2.2.2.2.2.2.2.2.2.2.2.2.2.2.2.2.2.1 y.2.2.2.2.2.2.2.2.2.2.2.2.2.2.2.2.2.2.2.2.2.2.1 y.2.2.2.2.2.2.2.2.2.2.2.2.2.2.2.2.2.2.2.2.2.2.2.1 y.2.2.2.2.2.2.2.2.2.2.2.2.2.2.2.2.2.2.2.2.2.2.2.2.1 y.2.2.2.2.2.2.2.2.2.2.2.2.2.2.2.2.2.2.2.2.2.2.2.2.2.1 y.2.2.2.2.2.2.2.2.2.2.2.2.2.2.2.2.2.2.2.2.2.2.2.2.2.2.1) g
def F66 (g:prodL L66) (K:Kn):Prop:=
 sp112.pre (g.2.2.2.2.2.2.2.2.1,())/\
 True/\
 xM ((qqA g.2.2.2.2.2.2.2.2.1).length*1=64/\(qqA g.2.2.2.2.2.2.2.2.1).length=(List.replicate 64 (0:Int)).length) (
 xM (kL.length*1=64/\kL.length=(List.replicate 64 (0:Int)).length) (
 0<=(0:Int)/\(0:Int).toNat<8/\
 0<=(1:Int)/\(1:Int).toNat<8/\
 0<=(2:Int)/\(2:Int).toNat<8/\
 0<=(3:Int)/\(3:Int).toNat<8/\
 0<=(4:Int)/\(4:Int).toNat<8/\
 0<=(5:Int)/\(5:Int).toNat<8/\
 0<=(6:Int)/\(6:Int).toNat<8/\
 0<=(7:Int)/\(7:Int).toNat<8/\
 F66_L2 K (g.1,g.2.1,g.2.2.1,g.2.2.2.1,g.2.2.2.2.1,g.2.2.2.2.2.1,g.2.2.2.2.2.2.1,g.2.2.2.2.2.2.2.1,0,g.1,g.2.1,g.2.2.1,g.2.2.2.1,g.2.2.2.2.1,g.2.2.2.2.2.1,g.2.2.2.2.2.2.1,g.2.2.2.2.2.2.2.1,0,0,0,0,0,0,0,0,qqA g.2.2.2.2.2.2.2.2.1,kL,())))
theorem F66_eq (g:prodL L66) (K X:Kn):F66 g K=qJ D (qQ [] [(112,false,sp112),(113,false,sp113),(114,true,qqu)]) (qw []) H66 J66 123 [.cell 4 101] (qz Tryz.f66) (argsT S66 L66 g) [] (settle0 K) X:=by kernel_rfl
theorem F66_ok (g:prodL L66) (K X:Kn) (h:F66 g K):FCalls Tryz.prog 66 (argsT S66 L66 g) [] K X:=
 FCalls.settle0 (qq qh (wQ (vf sp112_ok (vf sp113_ok (vf sp114_ok wZ)))) qx rfl Tryz.func66 (c:=qz Tryz.f66) rfl Tryz.ntmps66 Tryz.results66 (by unfold qk;rw [Tryz.func66];kernel_rfl) (Nat.le_of_ble_eq_true (by kernel_rfl)) (c0:=0) (Eq.mp (F66_eq g K X) h))
end Go.Proofs.YtbglndogddddoaaGreatDoor
namespace Go.Proofs.YtbglndogddddoaaGreatDoor
open Go.RowKit
set_option maxRecDepth 100000
theorem addW_8 (x0 x1 x2 x3 x4 x5 x6 x7 a b c d e f g k:Int):XN [x0,x1,x2,x3,x4,x5,x6,x7] [a,b,c,d,e,f,g,k]=[IntKind.u32.wrap (x0+a),IntKind.u32.wrap (x1+b),IntKind.u32.wrap (x2+c),IntKind.u32.wrap (x3+d),IntKind.u32.wrap (x4+e),IntKind.u32.wrap (x5+f),IntKind.u32.wrap (x6+g),IntKind.u32.wrap (x7+k)]:=rfl
theorem rnd_8 (w:List Int) (t:Nat) (a b c d e f g k:Int):rnd w [a,b,c,d,e,f,g,k] t=[IntKind.u32.wrap (Xl w t e f g k+rndT2 a b c),a,b,c,IntKind.u32.wrap (d+Xl w t e f g k),e,f,g]:=rfl
theorem kL_len:kL.length=64:=rfl
theorem vAt_zero (w s:List Int):vAt w s 0=s:=rfl
theorem F66_B2_is {K:Kn} {W:prodL [.int .u32, .int .u32, .int .u32, .int .u32, .int .u32, .int .u32, .int .u32, .int .u32, .int .i64, .int .u32, .int .u32, .int .u32, .int .u32, .int .u32, .int .u32, .int .u32, .int .u32, .int .u32, .int .u32, .int .u32, .int .u32, .int .u32, .int .u32, .int .u32, .int .u32, .sl .u32, .sl .u32]->Prop}
  {w:List Int} (hw:w.length=64) {t:Nat} (ht:t<64) {a b c d e f g k x0 x1 x2 x3 x4 x5 x6 x7:Int}
  (h:W (IntKind.u32.wrap (Xl w t e f g k+rndT2 a b c),a,b,c,IntKind.u32.wrap (d+Xl w t e f g k),e,f,g,((t+1:Nat):Int),x0,x1,x2,x3,x4,x5,x6,x7,0,0,0,0,0,0,0,0,w,kL,())):
  Xo K W a b c d e f g k t x0 x1 x2 x3 x4 x5 x6 x7 0 0 0 0 0 0 0 0 w kL:=by
 have hk:=kL_len
 unfold Xo
 rw [decide_eq_true (show (t:Int) <64 by omega),cond_true]
 unfold Xl rndT2 at h
 rw [Jm (show t<kL.length by omega),Jm (show t<w.length by omega)] at h
 simp only [toN]
 rw [wI (by omega)]
 exact ⟨trivial,trivial,trivial,by omega,by omega,vp (show t<kL.length by omega) ⟨by omega,by omega,vp (show t<w.length by omega) ⟨trivial,trivial,trivial,h⟩⟩⟩
theorem F66_B2_end {K:Kn} {W:prodL [.int .u32, .int .u32, .int .u32, .int .u32, .int .u32, .int .u32, .int .u32, .int .u32, .int .i64, .int .u32, .int .u32, .int .u32, .int .u32, .int .u32, .int .u32, .int .u32, .int .u32, .int .u32, .int .u32, .int .u32, .int .u32, .int .u32, .int .u32, .int .u32, .int .u32, .sl .u32, .sl .u32]->Prop}
  {w l:List Int} {a b c d e f g k x0 x1 x2 x3 x4 x5 x6 x7:Int}
  (h:K (.ag [.int .u32 (IntKind.u32.wrap (x0+a)), .int .u32 (IntKind.u32.wrap (x1+b)), .int .u32 (IntKind.u32.wrap (x2+c)), .int .u32 (IntKind.u32.wrap (x3+d)), .int .u32 (IntKind.u32.wrap (x4+e)), .int .u32 (IntKind.u32.wrap (x5+f)), .int .u32 (IntKind.u32.wrap (x6+g)), .int .u32 (IntKind.u32.wrap (x7+k))]) []):
  Xo K W a b c d e f g k 64 x0 x1 x2 x3 x4 x5 x6 x7 0 0 0 0 0 0 0 0 w l:=by
 unfold Xo
 rw [decide_eq_false (by omega),cond_false]
 repeat (refine And.intro (by decide) ?_)
 exact h
theorem F66_L2_is {w:List Int} (hw:w.length=64) {x0 x1 x2 x3 x4 x5 x6 x7:Int} {K:Kn} (h:K (.ag [.int .u32 ((XN [x0,x1,x2,x3,x4,x5,x6,x7] (vAt w [x0,x1,x2,x3,x4,x5,x6,x7] 64)).getD 0 0), .int .u32 ((XN [x0,x1,x2,x3,x4,x5,x6,x7] (vAt w [x0,x1,x2,x3,x4,x5,x6,x7] 64)).getD 1 0), .int .u32 ((XN [x0,x1,x2,x3,x4,x5,x6,x7] (vAt w [x0,x1,x2,x3,x4,x5,x6,x7] 64)).getD 2 0), .int .u32 ((XN [x0,x1,x2,x3,x4,x5,x6,x7] (vAt w [x0,x1,x2,x3,x4,x5,x6,x7] 64)).getD 3 0), .int .u32 ((XN [x0,x1,x2,x3,x4,x5,x6,x7] (vAt w [x0,x1,x2,x3,x4,x5,x6,x7] 64)).getD 4 0), .int .u32 ((XN [x0,x1,x2,x3,x4,x5,x6,x7] (vAt w [x0,x1,x2,x3,x4,x5,x6,x7] 64)).getD 5 0), .int .u32 ((XN [x0,x1,x2,x3,x4,x5,x6,x7] (vAt w [x0,x1,x2,x3,x4,x5,x6,x7] 64)).getD 6 0), .int .u32 ((XN [x0,x1,x2,x3,x4,x5,x6,x7] (vAt w [x0,x1,x2,x3,x4,x5,x6,x7] 64)).getD 7 0)]) []):
  F66_L2 K (x0,x1,x2,x3,x4,x5,x6,x7,0,x0,x1,x2,x3,x4,x5,x6,x7,0,0,0,0,0,0,0,0,w,kL,()):=by
 have hs:[x0,x1,x2,x3,x4,x5,x6,x7].length=8:=rfl
 have key: ∀t,(vAt w [x0,x1,x2,x3,x4,x5,x6,x7] t).length=8:=Wp w hs
 have hz:=vAt_zero w [x0,x1,x2,x3,x4,x5,x6,x7]
 have hsu:=vAt_succ w [x0,x1,x2,x3,x4,x5,x6,x7]
 generalize vAt w [x0,x1,x2,x3,x4,x5,x6,x7]=v at h key hz hsu
 unfold F66_L2
 refine qZ.countTo 64 (fun t=>((v t).getD 0 0,(v t).getD 1 0,(v t).getD 2 0,(v t).getD 3 0,(v t).getD 4 0,(v t).getD 5 0,(v t).getD 6 0,(v t).getD 7 0,(t:Int),x0,x1,x2,x3,x4,x5,x6,x7,0,0,0,0,0,0,0,0,w,kL,())) (fun _=>True) (by rw [hz];rfl) (fun t ht _ W hW=> ?_) trivial
 obtain ⟨a,b,c,d,e,f,g,k,hv⟩:=Kz (key t)
 by_cases hlt:t<64
 . have hW:=hW hlt trivial
   rw [hsu,hv,rnd_8] at hW
   rw [hv]
   exact F66_B2_is hw hlt hW
 . have:t=64:=by omega
   subst this
   rw [hv,addW_8] at h
   rw [hv]
   exact F66_B2_end h
theorem F66_is {x0 x1 x2 x3 x4 x5 x6 x7:Int} {b:ByteArray} {K:Kn} (hb:b.size=64) (h:K (.ag [.int .u32 ((ql [x0,x1,x2,x3,x4,x5,x6,x7] b).getD 0 0), .int .u32 ((ql [x0,x1,x2,x3,x4,x5,x6,x7] b).getD 1 0), .int .u32 ((ql [x0,x1,x2,x3,x4,x5,x6,x7] b).getD 2 0), .int .u32 ((ql [x0,x1,x2,x3,x4,x5,x6,x7] b).getD 3 0), .int .u32 ((ql [x0,x1,x2,x3,x4,x5,x6,x7] b).getD 4 0), .int .u32 ((ql [x0,x1,x2,x3,x4,x5,x6,x7] b).getD 5 0), .int .u32 ((ql [x0,x1,x2,x3,x4,x5,x6,x7] b).getD 6 0), .int .u32 ((ql [x0,x1,x2,x3,x4,x5,x6,x7] b).getD 7 0)]) []):F66 (x0,x1,x2,x3,x4,x5,x6,x7,b,()) K:=by
 have hw:(qqA b).length=64:=YA b 64
 unfold ql at h
 unfold F66
 refine ⟨hb,trivial, ?_⟩
 dsimp only
 generalize qqA b=w at hw h ⊢
 refine ⟨⟨by omega,by rw [hw];rfl⟩,⟨rfl,rfl⟩, ?_⟩
 repeat (refine And.intro (by decide) ?_)
 exact F66_L2_is hw h
def sp66:Sp:=⟨S66,L66,fun g=>g.2.2.2.2.2.2.2.2.1.size=64,fun g=> .ag [.int .u32 ((ql [g.1,g.2.1,g.2.2.1,g.2.2.2.1,g.2.2.2.2.1,g.2.2.2.2.2.1,g.2.2.2.2.2.2.1,g.2.2.2.2.2.2.2.1] g.2.2.2.2.2.2.2.2.1).getD 0 0), .int .u32 ((ql [g.1,g.2.1,g.2.2.1,g.2.2.2.1,g.2.2.2.2.1,g.2.2.2.2.2.1,g.2.2.2.2.2.2.1,g.2.2.2.2.2.2.2.1] g.2.2.2.2.2.2.2.2.1).getD 1 0), .int .u32 ((ql [g.1,g.2.1,g.2.2.1,g.2.2.2.1,g.2.2.2.2.1,g.2.2.2.2.2.1,g.2.2.2.2.2.2.1,g.2.2.2.2.2.2.2.1] g.2.2.2.2.2.2.2.2.1).getD 2 0), .int .u32 ((ql [g.1,g.2.1,g.2.2.1,g.2.2.2.1,g.2.2.2.2.1,g.2.2.2.2.2.1,g.2.2.2.2.2.2.1,g.2.2.2.2.2.2.2.1] g.2.2.2.2.2.2.2.2.1).getD 3 0), .int .u32 ((ql [g.1,g.2.1,g.2.2.1,g.2.2.2.1,g.2.2.2.2.1,g.2.2.2.2.2.1,g.2.2.2.2.2.2.1,g.2.2.2.2.2.2.2.1] g.2.2.2.2.2.2.2.2.1).getD 4 0), .int .u32 ((ql [g.1,g.2.1,g.2.2.1,g.2.2.2.1,g.2.2.2.2.1,g.2.2.2.2.2.1,g.2.2.2.2.2.2.1,g.2.2.2.2.2.2.2.1] g.2.2.2.2.2.2.2.2.1).getD 5 0), .int .u32 ((ql [g.1,g.2.1,g.2.2.1,g.2.2.2.1,g.2.2.2.2.1,g.2.2.2.2.2.1,g.2.2.2.2.2.2.1,g.2.2.2.2.2.2.2.1] g.2.2.2.2.2.2.2.2.1).getD 6 0), .int .u32 ((ql [g.1,g.2.1,g.2.2.1,g.2.2.2.1,g.2.2.2.2.1,g.2.2.2.2.2.1,g.2.2.2.2.2.2.1,g.2.2.2.2.2.2.2.1] g.2.2.2.2.2.2.2.2.1).getD 7 0)],fun _=>none⟩
theorem sp66_ok:sp66.Ok Tryz.prog 66 true:=
 ⟨fun g K X hp h=>F66_ok g K X (F66_is hp h),fun _ _ _=>rfl,fun _=>rfl,fun _ _=>⟨rfl,rfl⟩⟩
end Go.Proofs.YtbglndogddddoaaGreatDoor
namespace Go.Proofs.YtbglndogddddoaaGreatDoor
open Go.RowKit
attribute [local irreducible] qJ qd
set_option maxRecDepth 100000
def H1033004:List (Nat×Hint):=[]
def qqx:List (Nat×Hint):=[]
abbrev vF:List Sh:=[.leaf, .pt 0 0]
abbrev jL:List Lf:=[.str, .int .u32, .int .u32, .int .u32, .int .u32, .int .u32, .int .u32, .int .u32, .int .u32]
abbrev QO:List ObSh:=[.cells [.leaf, .leaf, .leaf, .leaf, .leaf, .leaf, .leaf, .leaf]]
def Xp (g:prodL jL) (K:Kn):Prop:=
 sp66.pre (g.2.1,g.2.2.1,g.2.2.2.1,g.2.2.2.2.1,g.2.2.2.2.2.1,g.2.2.2.2.2.2.1,g.2.2.2.2.2.2.2.1,g.2.2.2.2.2.2.2.2.1,g.1,())/\
 K (.bool true) [some (.cells [.int .u32 ((ql [g.2.1,g.2.2.1,g.2.2.2.1,g.2.2.2.2.1,g.2.2.2.2.2.1,g.2.2.2.2.2.2.1,g.2.2.2.2.2.2.2.1,g.2.2.2.2.2.2.2.2.1] g.1).getD 0 0), .int .u32 ((ql [g.2.1,g.2.2.1,g.2.2.2.1,g.2.2.2.2.1,g.2.2.2.2.2.1,g.2.2.2.2.2.2.1,g.2.2.2.2.2.2.2.1,g.2.2.2.2.2.2.2.2.1] g.1).getD 1 0), .int .u32 ((ql [g.2.1,g.2.2.1,g.2.2.2.1,g.2.2.2.2.1,g.2.2.2.2.2.1,g.2.2.2.2.2.2.1,g.2.2.2.2.2.2.2.1,g.2.2.2.2.2.2.2.2.1] g.1).getD 2 0), .int .u32 ((ql [g.2.1,g.2.2.1,g.2.2.2.1,g.2.2.2.2.1,g.2.2.2.2.2.1,g.2.2.2.2.2.2.1,g.2.2.2.2.2.2.2.1,g.2.2.2.2.2.2.2.2.1] g.1).getD 3 0), .int .u32 ((ql [g.2.1,g.2.2.1,g.2.2.2.1,g.2.2.2.2.1,g.2.2.2.2.2.1,g.2.2.2.2.2.2.1,g.2.2.2.2.2.2.2.1,g.2.2.2.2.2.2.2.2.1] g.1).getD 4 0), .int .u32 ((ql [g.2.1,g.2.2.1,g.2.2.2.1,g.2.2.2.2.1,g.2.2.2.2.2.1,g.2.2.2.2.2.2.1,g.2.2.2.2.2.2.2.1,g.2.2.2.2.2.2.2.2.1] g.1).getD 5 0), .int .u32 ((ql [g.2.1,g.2.2.1,g.2.2.2.1,g.2.2.2.2.1,g.2.2.2.2.2.1,g.2.2.2.2.2.2.1,g.2.2.2.2.2.2.2.1,g.2.2.2.2.2.2.2.2.1] g.1).getD 6 0), .int .u32 ((ql [g.2.1,g.2.2.1,g.2.2.2.1,g.2.2.2.2.1,g.2.2.2.2.2.1,g.2.2.2.2.2.2.1,g.2.2.2.2.2.2.2.1,g.2.2.2.2.2.2.2.2.1] g.1).getD 7 0)])]
theorem Kx (g:prodL jL) (K:Kn):Xp g K=qd D (qQ [] [(66,true,sp66)]) (qw []) H1033004 qqx (yH Tryz.prog 1033004) [3] (argsT vF jL g) (qa vF QO jL g) (settleD (qa vF QO jL g).length 0 K) 0:=by kernel_rfl
theorem KZ (g:prodL jL) (K X:Kn) (h:Xp g K):FCalls Tryz.prog 1033004 (argsT vF jL g) (qa vF QO jL g) K X 0:=
 FCalls.settleD (Q3 (Γ:=qQ [] [(66,true,sp66)]) (mu:=qw []) (H:=H1033004) (J:=qqx) qh (qX (rs:=[]) (l:=[(66,true,sp66)]) (fun p hp=>by cases hp) (by intro p hp;simp only [List.mem_cons,List.not_mem_nil,or_false] at hp;subst hp;exact sp66_ok)) qx rfl (yi:=⟨33,4,[3]⟩) rfl (by kernel_rfl) (by kernel_rfl) (by kernel_rfl) (by rw [Kx g K] at h;exact h))
def xn:Raw:=⟨vF,QO,jL,0,fun g K _=>Xp g K⟩
theorem Yq:xn.Ok Tryz.prog 1033004:=fun g K X h=>KZ g K X h
def H111:List (Nat×Hint):=[(2,⟨[],[(0, .fn 1033004 [] [.pt 0 0]),(1, .leaf),(3, .leaf),(4, .leaf)],[.cells [.leaf, .leaf, .leaf, .leaf, .leaf, .leaf, .leaf, .leaf]],[.pr .str, .int .i64, .int .i64, .int .u32, .int .u32, .int .u32, .int .u32, .int .u32, .int .u32, .int .u32, .int .u32]⟩),(6,⟨[((5,[]),none)],[(0, .fn 1033004 [] [.pt 0 0]),(1, .leaf),(5, .oa .u8 1)],[.cells [.leaf, .leaf, .leaf, .leaf, .leaf, .leaf, .leaf, .leaf], .arr .u8],[.pr .str, .int .u32, .int .u32, .int .u32, .int .u32, .int .u32, .int .u32, .int .u32, .int .u32, .sl .u8]⟩),(9,⟨[((5,[]),none)],[(0, .fn 1033004 [] [.pt 0 0]),(1, .leaf),(5, .oa .u8 1),(6, .leaf)],[.cells [.leaf, .leaf, .leaf, .leaf, .leaf, .leaf, .leaf, .leaf], .arr .u8],[.pr .str, .int .i64, .int .u32, .int .u32, .int .u32, .int .u32, .int .u32, .int .u32, .int .u32, .int .u32, .sl .u8]⟩),(13,⟨[((5,[]),none)],[(0, .fn 1033004 [] [.pt 0 0]),(5, .oa .u8 1),(7, .leaf)],[.cells [.leaf, .leaf, .leaf, .leaf, .leaf, .leaf, .leaf, .leaf], .arr .u8],[.int .i64, .int .u32, .int .u32, .int .u32, .int .u32, .int .u32, .int .u32, .int .u32, .int .u32, .sl .u8]⟩)]
def J111:List (Nat×Hint):=[]
abbrev S111:List Sh:=[.fn 1033004 [] [.pt 0 0], .leaf]
abbrev WS:List Lf:=[.pr .str, .int .u32, .int .u32, .int .u32, .int .u32, .int .u32, .int .u32, .int .u32, .int .u32]
abbrev O111:List ObSh:=[.cells [.leaf, .leaf, .leaf, .leaf, .leaf, .leaf, .leaf, .leaf]]
def WB (K:Kn) (W9:prodL [.int .i64, .int .u32, .int .u32, .int .u32, .int .u32, .int .u32, .int .u32, .int .u32, .int .u32, .sl .u8]->Prop) (i_8 o01_8 o02_8 o03_8 o04_8 o05_8 o06_8 o07_8 o08_8:Int) (last_8:List Int):Prop:=
 bif decide (i_8< (last_8.length:Int))then (
  (0:Int)<=i_8/\i_8<=IntKind.i64.wrap (i_8+64)/\IntKind.i64.wrap (i_8+64)<=(last_8.length:Int)/\
 let g10:prodL [.str, .int .u32, .int .u32, .int .u32, .int .u32, .int .u32, .int .u32, .int .u32, .int .u32]:=(jT ((last_8.drop i_8.toNat).take ((IntKind.i64.wrap (i_8+64)).toNat-i_8.toNat)),o01_8,o02_8,o03_8,o04_8,o05_8,o06_8,o07_8,o08_8,());
 sp66.pre (g10.2.1,g10.2.2.1,g10.2.2.2.1,g10.2.2.2.2.1,g10.2.2.2.2.2.1,g10.2.2.2.2.2.2.1,g10.2.2.2.2.2.2.2.1,g10.2.2.2.2.2.2.2.2.1,g10.1,())/\
 W9 (IntKind.i64.wrap (i_8+64),(ql [g10.2.1,g10.2.2.1,g10.2.2.2.1,g10.2.2.2.2.1,g10.2.2.2.2.2.1,g10.2.2.2.2.2.2.1,g10.2.2.2.2.2.2.2.1,g10.2.2.2.2.2.2.2.2.1] g10.1).getD 0 0,(ql [g10.2.1,g10.2.2.1,g10.2.2.2.1,g10.2.2.2.2.1,g10.2.2.2.2.2.1,g10.2.2.2.2.2.2.1,g10.2.2.2.2.2.2.2.1,g10.2.2.2.2.2.2.2.2.1] g10.1).getD 1 0,(ql [g10.2.1,g10.2.2.1,g10.2.2.2.1,g10.2.2.2.2.1,g10.2.2.2.2.2.1,g10.2.2.2.2.2.2.1,g10.2.2.2.2.2.2.2.1,g10.2.2.2.2.2.2.2.2.1] g10.1).getD 2 0,(ql [g10.2.1,g10.2.2.1,g10.2.2.2.1,g10.2.2.2.2.1,g10.2.2.2.2.2.1,g10.2.2.2.2.2.2.1,g10.2.2.2.2.2.2.2.1,g10.2.2.2.2.2.2.2.2.1] g10.1).getD 3 0,(ql [g10.2.1,g10.2.2.1,g10.2.2.2.1,g10.2.2.2.2.1,g10.2.2.2.2.2.1,g10.2.2.2.2.2.2.1,g10.2.2.2.2.2.2.2.1,g10.2.2.2.2.2.2.2.2.1] g10.1).getD 4 0,(ql [g10.2.1,g10.2.2.1,g10.2.2.2.1,g10.2.2.2.2.1,g10.2.2.2.2.2.1,g10.2.2.2.2.2.2.1,g10.2.2.2.2.2.2.2.1,g10.2.2.2.2.2.2.2.2.1] g10.1).getD 5 0,(ql [g10.2.1,g10.2.2.1,g10.2.2.2.1,g10.2.2.2.2.1,g10.2.2.2.2.2.1,g10.2.2.2.2.2.2.1,g10.2.2.2.2.2.2.2.1,g10.2.2.2.2.2.2.2.2.1] g10.1).getD 6 0,(ql [g10.2.1,g10.2.2.1,g10.2.2.2.1,g10.2.2.2.2.1,g10.2.2.2.2.2.1,g10.2.2.2.2.2.2.1,g10.2.2.2.2.2.2.2.1,g10.2.2.2.2.2.2.2.2.1] g10.1).getD 7 0,last_8,()))
 else (
  K (.tu []) [some (.cells [.int .u32 o01_8, .int .u32 o02_8, .int .u32 o03_8, .int .u32 o04_8, .int .u32 o05_8, .int .u32 o06_8, .int .u32 o07_8, .int .u32 o08_8])])
def Jv (K:Kn) (g:prodL [.int .i64, .int .u32, .int .u32, .int .u32, .int .u32, .int .u32, .int .u32, .int .u32, .int .u32, .sl .u8]):Prop:=
 qZ (γ:=prodL [.int .i64, .int .u32, .int .u32, .int .u32, .int .u32, .int .u32, .int .u32, .int .u32, .int .u32, .sl .u8]) (fun V y=>WB K V y.1 y.2.1 y.2.2.1 y.2.2.2.1 y.2.2.2.2.1 y.2.2.2.2.2.1 y.2.2.2.2.2.2.1 y.2.2.2.2.2.2.2.1 y.2.2.2.2.2.2.2.2.1 y.2.2.2.2.2.2.2.2.2.1) g
def Qx (K:Kn) (W7:prodL [.pr .str, .int .i64, .int .u32, .int .u32, .int .u32, .int .u32, .int .u32, .int .u32, .int .u32, .int .u32, .sl .u8]->Prop) (t_6:ByteArray) (i_6 o01_6 o02_6 o03_6 o04_6 o05_6 o06_6 o07_6 o08_6:Int) (last_6:List Int):Prop:=
 bif decide (0<=i_6)then (
  (0:Int)<=i_6/\
 qG (last_6.length+[IntKind.u8.wrap (Int.fdiv (IntKind.u64.wrap ((IntKind.u64.wrap (t_6.size:Int))*8)) (2^(min i_6.toNat IntKind.u64.bits)))].length) 1 (
 W7 (t_6,IntKind.i64.wrap (i_6-8),o01_6,o02_6,o03_6,o04_6,o05_6,o06_6,o07_6,o08_6,last_6++[IntKind.u8.wrap (Int.fdiv (IntKind.u64.wrap ((IntKind.u64.wrap (t_6.size:Int))*8)) (2^(min i_6.toNat IntKind.u64.bits)))],())))
 else (
  Jv K (0,o01_6,o02_6,o03_6,o04_6,o05_6,o06_6,o07_6,o08_6,last_6,()))
def Z5 (K:Kn) (g:prodL [.pr .str, .int .i64, .int .u32, .int .u32, .int .u32, .int .u32, .int .u32, .int .u32, .int .u32, .int .u32, .sl .u8]):Prop:=
 qZ (γ:=prodL [.pr .str, .int .i64, .int .u32, .int .u32, .int .u32, .int .u32, .int .u32, .int .u32, .int .u32, .int .u32, .sl .u8]) (fun V y=>Qx K V y.1 y.2.1 y.2.2.1 y.2.2.2.1 y.2.2.2.2.1 y.2.2.2.2.2.1 y.2.2.2.2.2.2.1 y.2.2.2.2.2.2.2.1 y.2.2.2.2.2.2.2.2.1 y.2.2.2.2.2.2.2.2.2.1 y.2.2.2.2.2.2.2.2.2.2.1) g
def WO (K:Kn) (W5:prodL [.pr .str, .int .u32, .int .u32, .int .u32, .int .u32, .int .u32, .int .u32, .int .u32, .int .u32, .sl .u8]->Prop) (t_4:ByteArray) (o01_4 o02_4 o03_4 o04_4 o05_4 o06_4 o07_4 o08_4:Int) (last_4:List Int):Prop:=
 ¬64=(0:Int)/\
 bif !decide (Int.tmod (last_4.length:Int) 64=56)then (
  qG (last_4.length+[0].length) 1 (
 W5 (t_4,o01_4,o02_4,o03_4,o04_4,o05_4,o06_4,o07_4,o08_4,last_4++[0],())))
 else (
  Z5 K (t_4,56,o01_4,o02_4,o03_4,o04_4,o05_4,o06_4,o07_4,o08_4,last_4,()))
def WA (K:Kn) (g:prodL [.pr .str, .int .u32, .int .u32, .int .u32, .int .u32, .int .u32, .int .u32, .int .u32, .int .u32, .sl .u8]):Prop:=
 qZ (γ:=prodL [.pr .str, .int .u32, .int .u32, .int .u32, .int .u32, .int .u32, .int .u32, .int .u32, .int .u32, .sl .u8]) (fun V y=>WO K V y.1 y.2.1 y.2.2.1 y.2.2.2.1 y.2.2.2.2.1 y.2.2.2.2.2.1 y.2.2.2.2.2.2.1 y.2.2.2.2.2.2.2.1 y.2.2.2.2.2.2.2.2.1 y.2.2.2.2.2.2.2.2.2.1) g
def WD (K:Kn) (W2:prodL [.pr .str, .int .i64, .int .i64, .int .u32, .int .u32, .int .u32, .int .u32, .int .u32, .int .u32, .int .u32, .int .u32]->Prop) (t_1:ByteArray) (whole_1 i_1 o01_1 o02_1 o03_1 o04_1 o05_1 o06_1 o07_1 o08_1:Int):Prop:=
 bif decide (i_1<whole_1)then (
  (0:Int)<=i_1/\i_1<=IntKind.i64.wrap (i_1+64)/\IntKind.i64.wrap (i_1+64)<=(t_1.size:Int)/\
 let g3:prodL [.str, .int .u32, .int .u32, .int .u32, .int .u32, .int .u32, .int .u32, .int .u32, .int .u32]:=(t_1.extract i_1.toNat (IntKind.i64.wrap (i_1+64)).toNat,o01_1,o02_1,o03_1,o04_1,o05_1,o06_1,o07_1,o08_1,());
 sp66.pre (g3.2.1,g3.2.2.1,g3.2.2.2.1,g3.2.2.2.2.1,g3.2.2.2.2.2.1,g3.2.2.2.2.2.2.1,g3.2.2.2.2.2.2.2.1,g3.2.2.2.2.2.2.2.2.1,g3.1,())/\
 W2 (t_1,whole_1,IntKind.i64.wrap (i_1+64),(ql [g3.2.1,g3.2.2.1,g3.2.2.2.1,g3.2.2.2.2.1,g3.2.2.2.2.2.1,g3.2.2.2.2.2.2.1,g3.2.2.2.2.2.2.2.1,g3.2.2.2.2.2.2.2.2.1] g3.1).getD 0 0,(ql [g3.2.1,g3.2.2.1,g3.2.2.2.1,g3.2.2.2.2.1,g3.2.2.2.2.2.1,g3.2.2.2.2.2.2.1,g3.2.2.2.2.2.2.2.1,g3.2.2.2.2.2.2.2.2.1] g3.1).getD 1 0,(ql [g3.2.1,g3.2.2.1,g3.2.2.2.1,g3.2.2.2.2.1,g3.2.2.2.2.2.1,g3.2.2.2.2.2.2.1,g3.2.2.2.2.2.2.2.1,g3.2.2.2.2.2.2.2.2.1] g3.1).getD 2 0,(ql [g3.2.1,g3.2.2.1,g3.2.2.2.1,g3.2.2.2.2.1,g3.2.2.2.2.2.1,g3.2.2.2.2.2.2.1,g3.2.2.2.2.2.2.2.1,g3.2.2.2.2.2.2.2.2.1] g3.1).getD 3 0,(ql [g3.2.1,g3.2.2.1,g3.2.2.2.1,g3.2.2.2.2.1,g3.2.2.2.2.2.1,g3.2.2.2.2.2.2.1,g3.2.2.2.2.2.2.2.1,g3.2.2.2.2.2.2.2.2.1] g3.1).getD 4 0,(ql [g3.2.1,g3.2.2.1,g3.2.2.2.1,g3.2.2.2.2.1,g3.2.2.2.2.2.1,g3.2.2.2.2.2.2.1,g3.2.2.2.2.2.2.2.1,g3.2.2.2.2.2.2.2.2.1] g3.1).getD 5 0,(ql [g3.2.1,g3.2.2.1,g3.2.2.2.1,g3.2.2.2.2.1,g3.2.2.2.2.2.1,g3.2.2.2.2.2.2.1,g3.2.2.2.2.2.2.2.1,g3.2.2.2.2.2.2.2.2.1] g3.1).getD 6 0,(ql [g3.2.1,g3.2.2.1,g3.2.2.2.1,g3.2.2.2.2.1,g3.2.2.2.2.2.1,g3.2.2.2.2.2.2.1,g3.2.2.2.2.2.2.2.1,g3.2.2.2.2.2.2.2.2.1] g3.1).getD 7 0,()))
 else (
  (0:Int)<=whole_1/\whole_1<=(t_1.size:Int)/\(t_1.size:Int)<=(t_1.size:Int)/\
 qG (t_1.extract whole_1.toNat (t_1.size:Int).toNat).size 1 (
 qG ((qS (t_1.extract whole_1.toNat (t_1.size:Int).toNat)).length+[128].length) 1 (
 WA K (t_1,o01_1,o02_1,o03_1,o04_1,o05_1,o06_1,o07_1,o08_1,(qS (t_1.extract whole_1.toNat (t_1.size:Int).toNat))++[128],()))))
def Yr (K:Kn) (g:prodL [.pr .str, .int .i64, .int .i64, .int .u32, .int .u32, .int .u32, .int .u32, .int .u32, .int .u32, .int .u32, .int .u32]):Prop:=
 qZ (γ:=prodL [.pr .str, .int .i64, .int .i64, .int .u32, .int .u32, .int .u32, .int .u32, .int .u32, .int .u32, .int .u32, .int .u32]) (fun V y=>WD K V y.1 y.2.1 y.2.2.1 y.2.2.2.1 y.2.2.2.2.1 y.2.2.2.2.2.1 y.2.2.2.2.2.2.1 y.2.2.2.2.2.2.2.1 y.2.2.2.2.2.2.2.2.1 y.2.2.2.2.2.2.2.2.2.1 y.2.2.2.2.2.2.2.2.2.2.1) g
def F111 (g:prodL WS) (K:Kn):Prop:=
 ¬64=(0:Int)/\
 Yr K (g.1,IntKind.i64.wrap ((IntKind.i64.wrap (Int.tdiv (g.1.size:Int) 64))*64),0,g.2.1,g.2.2.1,g.2.2.2.1,g.2.2.2.2.1,g.2.2.2.2.2.1,g.2.2.2.2.2.2.1,g.2.2.2.2.2.2.2.1,g.2.2.2.2.2.2.2.2.1,())
theorem F111_eq (g:prodL WS) (K X:Kn):F111 g K=qJ D (qQ [(1033004,xn)] []) (qw [(1033004,xn)]) H111 J111 67 [] (qz Tryz.f111) (argsT S111 WS g) (qa S111 O111 WS g) (settleD (qa S111 O111 WS g).length 0 K) X 0:=by kernel_rfl
theorem F111_ok (g:prodL WS) (K X:Kn) (h:F111 g K):FCalls Tryz.prog 111 (argsT S111 WS g) (qa S111 O111 WS g) K X 0:=
 FCalls.settleD (qq (Γ:=qQ [(1033004,xn)] []) (mu:=qw [(1033004,xn)]) (H:=H111) (J:=J111) qh (qX (rs:=[(1033004,xn)]) (l:=[]) (by intro p hp;simp only [List.mem_cons,List.not_mem_nil,or_false] at hp;subst hp;exact Yq) (fun p hp=>by cases hp)) qx rfl Tryz.func111 (c:=qz Tryz.f111) rfl Tryz.ntmps111 (rs:=[]) Tryz.results111 (by unfold qk;rw [Tryz.func111];kernel_rfl) (Nat.le_of_ble_eq_true (by kernel_rfl)) (X:=X) (c0:=0) (Eq.mp (F111_eq g K X) h))
end Go.Proofs.YtbglndogddddoaaGreatDoor
namespace Go.Proofs.YtbglndogddddoaaGreatDoor
open Go.RowKit
set_option maxRecDepth 100000
def vA (st:List Int) (l:List ByteArray) (n:Nat):List Int:=(l.take n).foldl ql st
theorem vA_zero (st:List Int) (l:List ByteArray):vA st l 0=st:=by simp [vA]
theorem vA_succ (st:List Int) {l:List ByteArray} {n:Nat} (h:n<l.length):vA st l (n+1)=ql (vA st l n) l[n]:=by
 unfold vA
 rw [zg h,List.foldl_append];rfl
theorem vA_len {st:List Int} (h:st.length=8) (l:List ByteArray) (n:Nat):(vA st l n).length=8:=foldl_len h
theorem vA_all (st:List Int) (l:List ByteArray):vA st l l.length=l.foldl ql st:=by unfold vA;rw [List.take_length]
theorem bStr_size (l:List Int):(jT l).size=l.length:=by
 show (l.map fun n=>UInt8.ofNat n.toNat).toArray.size=_
 simp
theorem qqa (s:ByteArray) (a b:Nat) (hb:b<=s.size):(qS (s.extract a b)).length=b-a:=by
 rw [jB,ByteArray.size_extract];omega
theorem K4 (s:ByteArray):(ZO s).length=s.size%64+1:=by
 unfold ZO
 rw [List.length_append,qqa _ _ _ (Nat.le_refl _),List.length_singleton];omega
theorem KF (s:ByteArray):(qqq s).length%64=56/\(qqq s).length<=130:=by
 unfold qqq
 rw [List.length_append,List.length_replicate,K4]
 unfold padN
 omega
theorem lastL_len (s:ByteArray):(Xf s).length%64=0/\(Xf s).length<=138:=by
 have:=KF s
 unfold Xf
 rw [List.length_append,List.length_map,List.length_range]
 omega
theorem F111_L9_is {x0 x1 x2 x3 x4 x5 x6 x7:Int} {last:List Int} {K:Kn} (h1:last.length%64=0) (h2:last.length<=1000) (h:K (.tu []) [some (.cells [.int .u32 ((((List.range (last.length / 64)).map (wY last)).foldl ql [x0,x1,x2,x3,x4,x5,x6,x7]).getD 0 0), .int .u32 ((((List.range (last.length / 64)).map (wY last)).foldl ql [x0,x1,x2,x3,x4,x5,x6,x7]).getD 1 0), .int .u32 ((((List.range (last.length / 64)).map (wY last)).foldl ql [x0,x1,x2,x3,x4,x5,x6,x7]).getD 2 0), .int .u32 ((((List.range (last.length / 64)).map (wY last)).foldl ql [x0,x1,x2,x3,x4,x5,x6,x7]).getD 3 0), .int .u32 ((((List.range (last.length / 64)).map (wY last)).foldl ql [x0,x1,x2,x3,x4,x5,x6,x7]).getD 4 0), .int .u32 ((((List.range (last.length / 64)).map (wY last)).foldl ql [x0,x1,x2,x3,x4,x5,x6,x7]).getD 5 0), .int .u32 ((((List.range (last.length / 64)).map (wY last)).foldl ql [x0,x1,x2,x3,x4,x5,x6,x7]).getD 6 0), .int .u32 ((((List.range (last.length / 64)).map (wY last)).foldl ql [x0,x1,x2,x3,x4,x5,x6,x7]).getD 7 0)])]):Jv K (0,x0,x1,x2,x3,x4,x5,x6,x7,last,()):=by
 have hN:((List.range (last.length / 64)).map (wY last)).length=last.length / 64:=by simp
 have hg: ∀n (hn:n< ((List.range (last.length / 64)).map (wY last)).length),((List.range (last.length / 64)).map (wY last))[n]=wY last n:=fun n hn=>by simp
 rw [<- vA_all,hN] at h
 have hz:=vA_zero [x0,x1,x2,x3,x4,x5,x6,x7] ((List.range (last.length / 64)).map (wY last))
 have hs: ∀n,n<last.length / 64->vA [x0,x1,x2,x3,x4,x5,x6,x7] ((List.range (last.length / 64)).map (wY last)) (n+1)=ql (vA [x0,x1,x2,x3,x4,x5,x6,x7] ((List.range (last.length / 64)).map (wY last)) n) (wY last n):=fun n hn=>by
  rw [vA_succ _ (by rw [hN];exact hn),hg]
 have hl:=vA_len (st:=[x0,x1,x2,x3,x4,x5,x6,x7]) rfl ((List.range (last.length / 64)).map (wY last))
 generalize vA [x0,x1,x2,x3,x4,x5,x6,x7] ((List.range (last.length / 64)).map (wY last))=v at h hz hs hl
 unfold Jv
 refine qZ.countTo (last.length / 64) (fun n=>(((64*n:Nat):Int),(v n).getD 0 0,(v n).getD 1 0,(v n).getD 2 0,(v n).getD 3 0,(v n).getD 4 0,(v n).getD 5 0,(v n).getD 6 0,(v n).getD 7 0,last,())) (fun _=>True) (by rw [hz];rfl) (fun n hn _ W hW=> ?_) trivial
 show WB K W ((64*n:Nat):Int) ((v n).getD 0 0) ((v n).getD 1 0) ((v n).getD 2 0) ((v n).getD 3 0) ((v n).getD 4 0) ((v n).getD 5 0) ((v n).getD 6 0) ((v n).getD 7 0) last
 unfold WB
 by_cases hlt:n<last.length / 64
 . rw [decide_eq_true (by omega),cond_true]
   have e:IntKind.i64.wrap (((64*n:Nat):Int)+64)=((64*n+64:Nat):Int):=by rw [wI (by omega)];omega
   have hb:(last.drop ((64*n:Nat):Int).toNat).take (((64*n+64:Nat):Int).toNat- ((64*n:Nat):Int).toNat)=(last.drop (64*n)).take 64:=by
    rw [toN,toN,show 64*n+64-64*n=64 by omega]
   rw [e,hb]
   have hW:=hW hlt trivial
   rw [hs n hlt] at hW
   obtain ⟨a,b,c,d,e,f,g,k,hv⟩:=Kz (hl n)
   rw [hv] at hW ⊢
   refine ⟨by omega,by omega,by omega, ?_, ?_⟩
   . show (jT ((last.drop (64*n)).take 64)).size=64
     rw [bStr_size,List.length_take,List.length_drop];omega
   . exact hW
 . have:n=last.length / 64:=by omega
   subst this
   rw [decide_eq_false (by omega),cond_false]
   exact h
theorem F111_L7_is {s:ByteArray} {x0 x1 x2 x3 x4 x5 x6 x7:Int} {K:Kn} (hs:s.size<=4194304) (h:Jv K (0,x0,x1,x2,x3,x4,x5,x6,x7,Xf s,())):Z5 K (s,56,x0,x1,x2,x3,x4,x5,x6,x7,qqq s,()):=by
 have hp:=KF s
 unfold Z5
 refine qZ.mapN 8 (lenB s) (fun n out=>(s,56-8*(n:Int),x0,x1,x2,x3,x4,x5,x6,x7,qqq s++out,())) (by rw [List.append_nil];rfl) (fun W n hn out ho hW=> ?_) fun W=> ?_
 . show Qx K W s (56-8*(n:Int)) x0 x1 x2 x3 x4 x5 x6 x7 (qqq s++out)
   unfold Qx
   rw [decide_eq_true (by omega),cond_true]
   refine ⟨by omega,by simp only [List.length_append,List.length_singleton,ho];omega, ?_⟩
   rw [<- List.append_assoc] at hW
   rw [wI (by omega),show (56:Int) - 8*(n:Int) - 8=56-8*((n+1:Nat):Int)by omega]
   exact hW
 . show Qx K W s (56-8*((8:Nat):Int)) x0 x1 x2 x3 x4 x5 x6 x7 (Xf s)
   unfold Qx
   rw [decide_eq_false (by omega),cond_false]
   exact h
theorem F111_L5_is {s:ByteArray} {x0 x1 x2 x3 x4 x5 x6 x7:Int} {K:Kn} (h:Z5 K (s,56,x0,x1,x2,x3,x4,x5,x6,x7,qqq s,())):WA K (s,x0,x1,x2,x3,x4,x5,x6,x7,ZO s,()):=by
 have he:=K4 s
 unfold WA
 refine qZ.countTo (padN (ZO s).length) (fun n=>(s,x0,x1,x2,x3,x4,x5,x6,x7,ZO s++List.replicate n 0,())) (fun _=>True) (by simp) (fun n hn _ W hW=> ?_) trivial
 show WO K W s x0 x1 x2 x3 x4 x5 x6 x7 (ZO s++List.replicate n 0)
 unfold WO
 refine ⟨by omega, ?_⟩
 have hlen:(ZO s++List.replicate n 0).length=s.size%64+1+n:=by rw [List.length_append,List.length_replicate,he]
 rw [hlen,Int.tmod_eq_emod_of_nonneg (Int.natCast_nonneg _)]
 have hp:padN (ZO s).length=(120- (s.size%64+1)%64)%64:=by unfold padN;rw [he]
 by_cases hlt:n<padN (ZO s).length
 . rw [decide_eq_false (show¬((s.size%64+1+n:Nat):Int)%64=56 by omega),Bool.not_false,cond_true]
   refine ⟨by simp only [List.length_singleton];omega, ?_⟩
   have:=hW hlt trivial
   rw [List.replicate_succ', <- List.append_assoc] at this
   exact this
 . have e:n=padN (ZO s).length:=by omega
   rw [decide_eq_true (show ((s.size%64+1+n:Nat):Int)%64=56 by omega),Bool.not_true,cond_false]
   rw [e];exact h
theorem F111_is {s:ByteArray} {x0 x1 x2 x3 x4 x5 x6 x7:Int} {K:Kn} (hsz:s.size<=4194304) (h:K (.tu []) [some (.cells [.int .u32 ((zj [x0,x1,x2,x3,x4,x5,x6,x7] s).getD 0 0), .int .u32 ((zj [x0,x1,x2,x3,x4,x5,x6,x7] s).getD 1 0), .int .u32 ((zj [x0,x1,x2,x3,x4,x5,x6,x7] s).getD 2 0), .int .u32 ((zj [x0,x1,x2,x3,x4,x5,x6,x7] s).getD 3 0), .int .u32 ((zj [x0,x1,x2,x3,x4,x5,x6,x7] s).getD 4 0), .int .u32 ((zj [x0,x1,x2,x3,x4,x5,x6,x7] s).getD 5 0), .int .u32 ((zj [x0,x1,x2,x3,x4,x5,x6,x7] s).getD 6 0), .int .u32 ((zj [x0,x1,x2,x3,x4,x5,x6,x7] s).getD 7 0)])]):F111 (s,x0,x1,x2,x3,x4,x5,x6,x7,()) K:=by
 unfold F111
 refine ⟨by omega, ?_⟩
 have hw:IntKind.i64.wrap (IntKind.i64.wrap (Int.tdiv (s.size:Int) 64)*64)=((s.size / 64*64:Nat):Int):=by
  rw [Int.tdiv_eq_ediv_of_nonneg (Int.natCast_nonneg _),wI (n:=(s.size:Int) / 64) (by omega),wI (by omega)];omega
 show Yr K (s,IntKind.i64.wrap (IntKind.i64.wrap (Int.tdiv (s.size:Int) 64)*64),0,x0,x1,x2,x3,x4,x5,x6,x7,())
 rw [hw]
 unfold zj at h
 rw [List.foldl_append] at h
 have hN:(ZU s).length=s.size / 64:=by simp [ZU]
 have hg: ∀n (hn:n< (ZU s).length),(ZU s)[n]=blkW s n:=fun n hn=>by simp [ZU]
 rw [<- vA_all [x0,x1,x2,x3,x4,x5,x6,x7] (ZU s),hN] at h
 have hz:=vA_zero [x0,x1,x2,x3,x4,x5,x6,x7] (ZU s)
 have hs: ∀n,n<s.size / 64->vA [x0,x1,x2,x3,x4,x5,x6,x7] (ZU s) (n+1)=ql (vA [x0,x1,x2,x3,x4,x5,x6,x7] (ZU s) n) (blkW s n):=fun n hn=>by
  rw [vA_succ _ (by rw [hN];exact hn),hg]
 have hl:=vA_len (st:=[x0,x1,x2,x3,x4,x5,x6,x7]) rfl (ZU s)
 generalize vA [x0,x1,x2,x3,x4,x5,x6,x7] (ZU s)=v at h hz hs hl
 unfold Yr
 refine qZ.countTo (s.size / 64) (fun n=>(s,((s.size / 64*64:Nat):Int),((64*n:Nat):Int),(v n).getD 0 0,(v n).getD 1 0,(v n).getD 2 0,(v n).getD 3 0,(v n).getD 4 0,(v n).getD 5 0,(v n).getD 6 0,(v n).getD 7 0,())) (fun _=>True) (by rw [hz];rfl) (fun n hn _ W hW=> ?_) trivial
 show WD K W s ((s.size / 64*64:Nat):Int) ((64*n:Nat):Int) ((v n).getD 0 0) ((v n).getD 1 0) ((v n).getD 2 0) ((v n).getD 3 0) ((v n).getD 4 0) ((v n).getD 5 0) ((v n).getD 6 0) ((v n).getD 7 0)
 unfold WD
 by_cases hlt:n<s.size / 64
 . rw [decide_eq_true (by omega),cond_true]
   have e:IntKind.i64.wrap (((64*n:Nat):Int)+64)=((64*n+64:Nat):Int):=by rw [wI (by omega)];omega
   rw [e,toN,toN]
   have hW:=hW hlt trivial
   rw [hs n hlt] at hW
   obtain ⟨a,b,c,d,e,f,g,k,hv⟩:=Kz (hl n)
   rw [hv] at hW ⊢
   refine ⟨by omega,by omega,by omega, ?_, ?_⟩
   . show (s.extract (64*n) (64*n+64)).size=64
     rw [ByteArray.size_extract];omega
   . exact hW
 . have:n=s.size / 64:=by omega
   subst this
   rw [decide_eq_false (by omega),cond_false]
   obtain ⟨a,b,c,d,e,f,g,k,hv⟩:=Kz (hl (s.size / 64))
   rw [hv] at h ⊢
   rw [toN,toN]
   have hx:=qqa s (s.size / 64*64) s.size (Nat.le_refl _)
   refine ⟨by omega,by omega,by omega,by rw [ByteArray.size_extract];omega,by rw [hx,List.length_singleton];omega, ?_⟩
   have hla:=lastL_len s
   exact F111_L5_is (F111_L7_is hsz (F111_L9_is hla.1 (by omega) h))
def VW:Raw:=⟨S111,O111,WS,0,fun g K _=>pre111 g/\K (.tu []) [some (.cells [.int .u32 ((zj [g.2.1,g.2.2.1,g.2.2.2.1,g.2.2.2.2.1,g.2.2.2.2.2.1,g.2.2.2.2.2.2.1,g.2.2.2.2.2.2.2.1,g.2.2.2.2.2.2.2.2.1] g.1).getD 0 0), .int .u32 ((zj [g.2.1,g.2.2.1,g.2.2.2.1,g.2.2.2.2.1,g.2.2.2.2.2.1,g.2.2.2.2.2.2.1,g.2.2.2.2.2.2.2.1,g.2.2.2.2.2.2.2.2.1] g.1).getD 1 0), .int .u32 ((zj [g.2.1,g.2.2.1,g.2.2.2.1,g.2.2.2.2.1,g.2.2.2.2.2.1,g.2.2.2.2.2.2.1,g.2.2.2.2.2.2.2.1,g.2.2.2.2.2.2.2.2.1] g.1).getD 2 0), .int .u32 ((zj [g.2.1,g.2.2.1,g.2.2.2.1,g.2.2.2.2.1,g.2.2.2.2.2.1,g.2.2.2.2.2.2.1,g.2.2.2.2.2.2.2.1,g.2.2.2.2.2.2.2.2.1] g.1).getD 3 0), .int .u32 ((zj [g.2.1,g.2.2.1,g.2.2.2.1,g.2.2.2.2.1,g.2.2.2.2.2.1,g.2.2.2.2.2.2.1,g.2.2.2.2.2.2.2.1,g.2.2.2.2.2.2.2.2.1] g.1).getD 4 0), .int .u32 ((zj [g.2.1,g.2.2.1,g.2.2.2.1,g.2.2.2.2.1,g.2.2.2.2.2.1,g.2.2.2.2.2.2.1,g.2.2.2.2.2.2.2.1,g.2.2.2.2.2.2.2.2.1] g.1).getD 5 0), .int .u32 ((zj [g.2.1,g.2.2.1,g.2.2.2.1,g.2.2.2.2.1,g.2.2.2.2.2.1,g.2.2.2.2.2.2.1,g.2.2.2.2.2.2.2.1,g.2.2.2.2.2.2.2.2.1] g.1).getD 6 0), .int .u32 ((zj [g.2.1,g.2.2.1,g.2.2.2.1,g.2.2.2.2.1,g.2.2.2.2.2.1,g.2.2.2.2.2.2.1,g.2.2.2.2.2.2.2.1,g.2.2.2.2.2.2.2.2.1] g.1).getD 7 0)])]⟩
theorem rw111_ok:VW.Ok Tryz.prog 111:=fun g K X h=>F111_ok g K X (F111_is h.1 h.2)
end Go.Proofs.YtbglndogddddoaaGreatDoor
namespace Go.Proofs.YtbglndogddddoaaGreatDoor
open Go.RowKit
attribute [local irreducible] qJ qd
set_option maxRecDepth 100000
def H33:List (Nat×Hint):=[(7,⟨[],[],[],[]⟩),(10,⟨[],[],[],[]⟩),(5000010,⟨[],[],[],[]⟩),(9000007,⟨[],[],[],[]⟩)]
def J33:List (Nat×Hint):=[]
abbrev S33:List Sh:=[.leaf]
abbrev L33:List Lf:=[.str]
def F33 (g:prodL L33) (K:Kn):Prop:=
 True/\
 True/\
 pre111 (g.1,1779033703,3144134277,1013904242,2773480762,1359893119,2600822924,528734635,1541459225,())/\
 (0:Int)<=0/\(0:Int).toNat<8/\
 (0:Int)<=24/\
 0<=(0:Int)/\(0:Int).toNat<32/\
 (0:Int)<=16/\
 0<=(1:Int)/\(1:Int).toNat<32/\
 (0:Int)<=8/\
 0<=(2:Int)/\(2:Int).toNat<32/\
 (0:Int)<=0/\
 0<=(3:Int)/\(3:Int).toNat<32/\
 (0:Int)<=1/\(1:Int).toNat<8/\
 (0:Int)<=24/\
 0<=(4:Int)/\(4:Int).toNat<32/\
 (0:Int)<=16/\
 0<=(5:Int)/\(5:Int).toNat<32/\
 (0:Int)<=8/\
 0<=(6:Int)/\(6:Int).toNat<32/\
 (0:Int)<=0/\
 0<=(7:Int)/\(7:Int).toNat<32/\
 (0:Int)<=2/\(2:Int).toNat<8/\
 (0:Int)<=24/\
 0<=(8:Int)/\(8:Int).toNat<32/\
 (0:Int)<=16/\
 0<=(9:Int)/\(9:Int).toNat<32/\
 (0:Int)<=8/\
 0<=(10:Int)/\(10:Int).toNat<32/\
 (0:Int)<=0/\
 0<=(11:Int)/\(11:Int).toNat<32/\
 (0:Int)<=3/\(3:Int).toNat<8/\
 (0:Int)<=24/\
 0<=(12:Int)/\(12:Int).toNat<32/\
 (0:Int)<=16/\
 0<=(13:Int)/\(13:Int).toNat<32/\
 (0:Int)<=8/\
 0<=(14:Int)/\(14:Int).toNat<32/\
 (0:Int)<=0/\
 0<=(15:Int)/\(15:Int).toNat<32/\
 (0:Int)<=4/\(4:Int).toNat<8/\
 (0:Int)<=24/\
 0<=(16:Int)/\(16:Int).toNat<32/\
 (0:Int)<=16/\
 0<=(17:Int)/\(17:Int).toNat<32/\
 (0:Int)<=8/\
 0<=(18:Int)/\(18:Int).toNat<32/\
 (0:Int)<=0/\
 0<=(19:Int)/\(19:Int).toNat<32/\
 (0:Int)<=5/\(5:Int).toNat<8/\
 (0:Int)<=24/\
 0<=(20:Int)/\(20:Int).toNat<32/\
 (0:Int)<=16/\
 0<=(21:Int)/\(21:Int).toNat<32/\
 (0:Int)<=8/\
 0<=(22:Int)/\(22:Int).toNat<32/\
 (0:Int)<=0/\
 0<=(23:Int)/\(23:Int).toNat<32/\
 (0:Int)<=6/\(6:Int).toNat<8/\
 (0:Int)<=24/\
 0<=(24:Int)/\(24:Int).toNat<32/\
 (0:Int)<=16/\
 0<=(25:Int)/\(25:Int).toNat<32/\
 (0:Int)<=8/\
 0<=(26:Int)/\(26:Int).toNat<32/\
 (0:Int)<=0/\
 0<=(27:Int)/\(27:Int).toNat<32/\
 (0:Int)<=7/\(7:Int).toNat<8/\
 (0:Int)<=24/\
 0<=(28:Int)/\(28:Int).toNat<32/\
 (0:Int)<=16/\
 0<=(29:Int)/\(29:Int).toNat<32/\
 (0:Int)<=8/\
 0<=(30:Int)/\(30:Int).toNat<32/\
 (0:Int)<=0/\
 0<=(31:Int)/\(31:Int).toNat<32/\
 K (.ag (enc .dig (⟨IntKind.u8.wrap (Int.fdiv ((zj [1779033703,3144134277,1013904242,2773480762,1359893119,2600822924,528734635,1541459225] g.1).getD 0 0) (2^(min (24:Int).toNat IntKind.u32.bits))),IntKind.u8.wrap (Int.fdiv ((zj [1779033703,3144134277,1013904242,2773480762,1359893119,2600822924,528734635,1541459225] g.1).getD 0 0) (2^(min (16:Int).toNat IntKind.u32.bits))),IntKind.u8.wrap (Int.fdiv ((zj [1779033703,3144134277,1013904242,2773480762,1359893119,2600822924,528734635,1541459225] g.1).getD 0 0) (2^(min (8:Int).toNat IntKind.u32.bits))),IntKind.u8.wrap (Int.fdiv ((zj [1779033703,3144134277,1013904242,2773480762,1359893119,2600822924,528734635,1541459225] g.1).getD 0 0) (2^(min (0:Int).toNat IntKind.u32.bits))),IntKind.u8.wrap (Int.fdiv ((zj [1779033703,3144134277,1013904242,2773480762,1359893119,2600822924,528734635,1541459225] g.1).getD 1 0) (2^(min (24:Int).toNat IntKind.u32.bits))),IntKind.u8.wrap (Int.fdiv ((zj [1779033703,3144134277,1013904242,2773480762,1359893119,2600822924,528734635,1541459225] g.1).getD 1 0) (2^(min (16:Int).toNat IntKind.u32.bits))),IntKind.u8.wrap (Int.fdiv ((zj [1779033703,3144134277,1013904242,2773480762,1359893119,2600822924,528734635,1541459225] g.1).getD 1 0) (2^(min (8:Int).toNat IntKind.u32.bits))),IntKind.u8.wrap (Int.fdiv ((zj [1779033703,3144134277,1013904242,2773480762,1359893119,2600822924,528734635,1541459225] g.1).getD 1 0) (2^(min (0:Int).toNat IntKind.u32.bits))),IntKind.u8.wrap (Int.fdiv ((zj [1779033703,3144134277,1013904242,2773480762,1359893119,2600822924,528734635,1541459225] g.1).getD 2 0) (2^(min (24:Int).toNat IntKind.u32.bits))),IntKind.u8.wrap (Int.fdiv ((zj [1779033703,3144134277,1013904242,2773480762,1359893119,2600822924,528734635,1541459225] g.1).getD 2 0) (2^(min (16:Int).toNat IntKind.u32.bits))),IntKind.u8.wrap (Int.fdiv ((zj [1779033703,3144134277,1013904242,2773480762,1359893119,2600822924,528734635,1541459225] g.1).getD 2 0) (2^(min (8:Int).toNat IntKind.u32.bits))),IntKind.u8.wrap (Int.fdiv ((zj [1779033703,3144134277,1013904242,2773480762,1359893119,2600822924,528734635,1541459225] g.1).getD 2 0) (2^(min (0:Int).toNat IntKind.u32.bits))),IntKind.u8.wrap (Int.fdiv ((zj [1779033703,3144134277,1013904242,2773480762,1359893119,2600822924,528734635,1541459225] g.1).getD 3 0) (2^(min (24:Int).toNat IntKind.u32.bits))),IntKind.u8.wrap (Int.fdiv ((zj [1779033703,3144134277,1013904242,2773480762,1359893119,2600822924,528734635,1541459225] g.1).getD 3 0) (2^(min (16:Int).toNat IntKind.u32.bits))),IntKind.u8.wrap (Int.fdiv ((zj [1779033703,3144134277,1013904242,2773480762,1359893119,2600822924,528734635,1541459225] g.1).getD 3 0) (2^(min (8:Int).toNat IntKind.u32.bits))),IntKind.u8.wrap (Int.fdiv ((zj [1779033703,3144134277,1013904242,2773480762,1359893119,2600822924,528734635,1541459225] g.1).getD 3 0) (2^(min (0:Int).toNat IntKind.u32.bits))),IntKind.u8.wrap (Int.fdiv ((zj [1779033703,3144134277,1013904242,2773480762,1359893119,2600822924,528734635,1541459225] g.1).getD 4 0) (2^(min (24:Int).toNat IntKind.u32.bits))),IntKind.u8.wrap (Int.fdiv ((zj [1779033703,3144134277,1013904242,2773480762,1359893119,2600822924,528734635,1541459225] g.1).getD 4 0) (2^(min (16:Int).toNat IntKind.u32.bits))),IntKind.u8.wrap (Int.fdiv ((zj [1779033703,3144134277,1013904242,2773480762,1359893119,2600822924,528734635,1541459225] g.1).getD 4 0) (2^(min (8:Int).toNat IntKind.u32.bits))),IntKind.u8.wrap (Int.fdiv ((zj [1779033703,3144134277,1013904242,2773480762,1359893119,2600822924,528734635,1541459225] g.1).getD 4 0) (2^(min (0:Int).toNat IntKind.u32.bits))),IntKind.u8.wrap (Int.fdiv ((zj [1779033703,3144134277,1013904242,2773480762,1359893119,2600822924,528734635,1541459225] g.1).getD 5 0) (2^(min (24:Int).toNat IntKind.u32.bits))),IntKind.u8.wrap (Int.fdiv ((zj [1779033703,3144134277,1013904242,2773480762,1359893119,2600822924,528734635,1541459225] g.1).getD 5 0) (2^(min (16:Int).toNat IntKind.u32.bits))),IntKind.u8.wrap (Int.fdiv ((zj [1779033703,3144134277,1013904242,2773480762,1359893119,2600822924,528734635,1541459225] g.1).getD 5 0) (2^(min (8:Int).toNat IntKind.u32.bits))),IntKind.u8.wrap (Int.fdiv ((zj [1779033703,3144134277,1013904242,2773480762,1359893119,2600822924,528734635,1541459225] g.1).getD 5 0) (2^(min (0:Int).toNat IntKind.u32.bits))),IntKind.u8.wrap (Int.fdiv ((zj [1779033703,3144134277,1013904242,2773480762,1359893119,2600822924,528734635,1541459225] g.1).getD 6 0) (2^(min (24:Int).toNat IntKind.u32.bits))),IntKind.u8.wrap (Int.fdiv ((zj [1779033703,3144134277,1013904242,2773480762,1359893119,2600822924,528734635,1541459225] g.1).getD 6 0) (2^(min (16:Int).toNat IntKind.u32.bits))),IntKind.u8.wrap (Int.fdiv ((zj [1779033703,3144134277,1013904242,2773480762,1359893119,2600822924,528734635,1541459225] g.1).getD 6 0) (2^(min (8:Int).toNat IntKind.u32.bits))),IntKind.u8.wrap (Int.fdiv ((zj [1779033703,3144134277,1013904242,2773480762,1359893119,2600822924,528734635,1541459225] g.1).getD 6 0) (2^(min (0:Int).toNat IntKind.u32.bits))),IntKind.u8.wrap (Int.fdiv ((zj [1779033703,3144134277,1013904242,2773480762,1359893119,2600822924,528734635,1541459225] g.1).getD 7 0) (2^(min (24:Int).toNat IntKind.u32.bits))),IntKind.u8.wrap (Int.fdiv ((zj [1779033703,3144134277,1013904242,2773480762,1359893119,2600822924,528734635,1541459225] g.1).getD 7 0) (2^(min (16:Int).toNat IntKind.u32.bits))),IntKind.u8.wrap (Int.fdiv ((zj [1779033703,3144134277,1013904242,2773480762,1359893119,2600822924,528734635,1541459225] g.1).getD 7 0) (2^(min (8:Int).toNat IntKind.u32.bits))),IntKind.u8.wrap (Int.fdiv ((zj [1779033703,3144134277,1013904242,2773480762,1359893119,2600822924,528734635,1541459225] g.1).getD 7 0) (2^(min (0:Int).toNat IntKind.u32.bits)))⟩:Dig))) []
theorem F33_eq (g:prodL L33) (K X:Kn):F33 g K=qJ D (qQ [(111,VW)] [(64,false,sp64),(65,false,sp65)]) (qw [(111,VW)]) H33 J33 38 [.cell 2 32] (qz Tryz.f33) (argsT S33 L33 g) [] (settle0 K) X 0 1033000:=by kernel_rfl
theorem F33_ok (g:prodL L33) (K X:Kn) (h:F33 g K):FCalls Tryz.prog 33 (argsT S33 L33 g) [] K X:=
 FCalls.settle0 (qq (Γ:=qQ [(111,VW)] [(64,false,sp64),(65,false,sp65)]) (mu:=qw [(111,VW)]) (H:=H33) (J:=J33) qh (qX (rs:=[(111,VW)]) (l:=[(64,false,sp64),(65,false,sp65)]) (by intro p hp;simp only [List.mem_cons,List.not_mem_nil,or_false] at hp;subst hp;exact rw111_ok) (by intro p hp;simp only [List.mem_cons,List.not_mem_nil,or_false] at hp;rcases hp with rfl | rfl<;>first | exact sp64_ok | exact sp65_ok)) qx rfl Tryz.func33 (c:=qz Tryz.f33) rfl Tryz.ntmps33 Tryz.results33 (by unfold qk;rw [Tryz.func33];kernel_rfl) (Nat.le_of_ble_eq_true (by kernel_rfl)) (c0:=0) (Eq.mp (F33_eq g K X) h) (wT [4] (by kernel_rfl) (by kernel_rfl)))
end Go.Proofs.YtbglndogddddoaaGreatDoor
namespace Go.Proofs.YtbglndogddddoaaGreatDoor
open Go.RowKit
set_option maxRecDepth 100000
theorem F33_is {s:ByteArray} {K:Kn} (hs:s.size<=4194304) (h:K (.ag (enc .dig (X2 s))) []):F33 (s,()) K:=by
 unfold F33
 refine ⟨trivial,trivial,hs, ?_⟩
 repeat (refine And.intro (by decide) ?_)
 unfold X2 at h
 show K (.ag (enc .dig (digW (zj st0 s)))) []
 exact h
def sp33:Sp:=⟨S33,L33,fun g=>g.1.size<=4194304,fun g=> .ag (enc .dig (X2 g.1)),fun _=>none⟩
theorem sp33_ok:sp33.Ok Tryz.prog 33 true:=
 ⟨fun g K X hp h=>F33_ok g K X (F33_is hp h),fun _ _ _=>rfl,fun _=>rfl,fun _ _=>⟨rfl,rfl⟩⟩
end Go.Proofs.YtbglndogddddoaaGreatDoor
namespace Go.Proofs.YtbglndogddddoaaGreatDoor
open Go.RowKit Go.Shelf Go.Lib
set_option maxRecDepth 100000
theorem cb_refl: ∀l:List UInt8,Lib.compareBytes l l=0
 | []=>rfl
 | a::l=>by
  unfold Lib.compareBytes
  simp [cb_refl l]
theorem cb_anti: ∀l m:List UInt8,Lib.compareBytes l m= - Lib.compareBytes m l
 | [],[]=>rfl
 | [],_::_=>rfl
 | _::_,[]=>rfl
 | a::l,b::m=>by
  have:=cb_anti l m
  unfold Lib.compareBytes
  have h: ∀x y:UInt8,x<y↔x.toNat<y.toNat:=fun x y=>Iff.rfl
  by_cases h1:a<b
  . have h2: ¬b<a:=by rw [h] at h1 ⊢;omega
    simp [h1,h2]
  . by_cases h2:b<a
    . simp [h1,h2]
    . simp [h1,h2,this]
theorem qql: ∀l m n:List UInt8,Lib.compareBytes l m<=0->Lib.compareBytes m n<=0->Lib.compareBytes l n<=0/\(Lib.compareBytes l n=0->Lib.compareBytes l m=0/\Lib.compareBytes m n=0)
 | [],[],[],_,_=>⟨Int.le_refl 0,fun _=>⟨rfl,rfl⟩⟩
 | [],[],_::_,_,_=>⟨show (-1:Int)<=0 by decide,fun h=>absurd h (show¬(-1:Int)=0 by decide)⟩
 | [],_::_,[],_,h=>absurd h (show¬(1:Int)<=0 by decide)
 | [],_::_,_::_,_,_=>⟨show (-1:Int)<=0 by decide,fun h=>absurd h (show¬(-1:Int)=0 by decide)⟩
 | _::_,[],_,h,_=>absurd h (show¬(1:Int)<=0 by decide)
 | _::_,_::_,[],_,h=>absurd h (show¬(1:Int)<=0 by decide)
 | a::l,b::m,c::n,h1,h2=>by
  have ih:=qql l m n
  unfold Lib.compareBytes at h1 h2 ⊢
  have h: ∀x y:UInt8,x<y↔x.toNat<y.toNat:=fun x y=>Iff.rfl
  by_cases a1:a<b
  . by_cases b1:b<c
    . have:a<c:=by rw [h] at a1 b1 ⊢;omega
      simp [this]
    . by_cases b2:c<b
      . simp [b1,b2] at h2
      . have:a<c:=by rw [h] at a1 b1 b2 ⊢;omega
        simp [this]
  . by_cases a2:b<a
    . simp [a1,a2] at h1
    . have e:a=b:=by rw [h] at a1 a2;exact UInt8.toNat_inj.1 (by omega)
      subst e
      simp only [a1,if_false] at h1
      by_cases b1:a<c
      . simp [b1]
      . by_cases b2:c<a
        . simp [b1,b2] at h2
        . simp only [b1,b2,if_false] at h2 ⊢
          simp only [a1,if_false]
          exact ih h1 h2
theorem idC_lt (a b:Idn):(idC a b<0)↔(zD a.patch b.patch<0∨(zD a.patch b.patch=0/\a.n<b.n)):=by
 unfold idC
 by_cases z:zD a.patch b.patch=0
 . rw [decide_eq_true z,Bool.not_true,cond_false]
   unfold Zj
   by_cases h1:a.n<b.n
   . rw [decide_eq_true h1,cond_true];exact ⟨fun _=> .inr ⟨z,h1⟩,fun _=>by decide⟩
   . rw [decide_eq_false h1,cond_false]
     by_cases h2:b.n<a.n
     . rw [decide_eq_true h2,cond_true];exact ⟨fun h=>absurd h (by decide),fun h=>by omega⟩
     . rw [decide_eq_false h2,cond_false];exact ⟨fun h=>absurd h (by decide),fun h=>by omega⟩
 . rw [decide_eq_false z,Bool.not_false,cond_true]
   exact ⟨.inl,fun h=>by omega⟩
theorem Zf (a b:Dig):zD a b= - zD b a:=cb_anti _ _
theorem Xd {a b c:Dig} (h1:zD a b<=0) (h2:zD b c<=0):zD a c<=0/\(zD a c=0->zD a b=0/\zD b c=0):=qql _ _ _ h1 h2
theorem digC_refl (a:Dig):zD a a=0:=cb_refl _
theorem swo_id:Go.Sort.SWO (ltOf idC) where
 irrefl x:=by
  unfold ltOf
  rw [decide_eq_false_iff_not,idC_lt,digC_refl];omega
 trans x y z h1 h2:=by
  unfold ltOf at *
  rw [decide_eq_true_eq,idC_lt] at *
  have:=Xd (a:=x.patch) (b:=y.patch) (c:=z.patch)
  omega
 ntrans x y z h1 h2:=by
  unfold ltOf at *
  rw [decide_eq_false_iff_not,idC_lt] at *
  have:=Xd (a:=z.patch) (b:=y.patch) (c:=x.patch)
  have e1:=Zf x.patch y.patch
  have e2:=Zf y.patch z.patch
  have e3:=Zf x.patch z.patch
  omega
instance:Inhabited Idn:=⟨iz⟩
instance:Inhabited Dig:=⟨dz⟩
def J4 (l:List Idn):List Idn:=(Go.Sort.pdq (ltOf idC) l.toArray 0 l.toArray.size (Lib.bitLen l.toArray.size) true true).toList
def X3 (a m:ByteArray) (t:Int) (ds:List Dig) (cs:List Chg):Dig×Int:=bif !decide ((jQ a m t ds cs).2.2=0)then (dz,(jQ a m t ds cs).2.2)else (X2 (jQ a m t ds cs).2.1,0)
def zI (d:Dig) (x:Idn):Idn:=bif (bif y7 x then decide (0<=x.n)else false)then ⟨d,x.n⟩else x
def aJ17 (d:Dig) (x:Atm):Atm:=⟨x.id,x.kind,x.file,x.typ,x.parent,x.name,x.mode,x.data,x.text,x.frm,x.til,J4 (x.over.map (zI d))⟩
def aJ18 (d:Dig) (x:Atm):Atm:=bif decide (x.kind=6)then aJ17 d ⟨x.id,x.kind,x.file,x.typ,x.parent,x.name,x.mode,x.data,x.text,zI d x.frm,zI d x.til,x.over⟩else aJ17 d x
def aJ19 (d:Dig) (x:Atm):Atm:=bif decide (x.kind=2)then aJ18 d ⟨x.id,x.kind,x.file,x.typ,zI d x.parent,x.name,x.mode,x.data,x.text,x.frm,x.til,x.over⟩else aJ18 d x
def wn (d:Dig) (x:Atm):Atm:=bif !decide (x.kind=7)then aJ19 d ⟨zI d x.id,x.kind,zI d x.file,x.typ,x.parent,x.name,x.mode,x.data,x.text,x.frm,x.til,x.over⟩else aJ19 d ⟨zI d x.id,x.kind,x.file,x.typ,x.parent,x.name,x.mode,x.data,x.text,x.frm,x.til,x.over⟩
def jD (a m:ByteArray) (t:Int) (ds:List Dig) (cs:List Chg):List Atm×Int:=
 bif !decide ((jQ a m t ds cs).2.2=0)then ([],(jQ a m t ds cs).2.2)else bif !decide ((X3 a m t ds cs).2=0)then ([],(X3 a m t ds cs).2)else ((jQ a m t ds cs).1.map (wn (X3 a m t ds cs).1),0)
def pre87 (g:prodL [.sl .idk]):Prop:=g.1.length<=4194304
end Go.Proofs.YtbglndogddddoaaGreatDoor
namespace Go.Proofs.YtbglndogddddoaaGreatDoor
open Go.RowKit Go.Lib Go.Shelf Go.Sort
theorem bytes_of {P:Program} {w:World} {b off:Nat} {l:List Int} (hc: ∀(j:Nat) (y:Int),l[j]? =some y->w.cell? ((⟨b,off,none⟩:Addr).add j)=some (.int .u8 y)) (c:Nat):
  (Extern.Bytes.bytesOf (.slice (some ⟨b,off,none⟩) l.length c)).run P w= .ok ⟨(bs l).toArray⟩ w:=by
 have hl:=run_loadBytesX (P:=P) w l ⟨b,off,none⟩ .empty hc
 show (Extern.Bytes.loadBytes ⟨b,off,none⟩ l.length .empty).run P w=_
 rw [hl]
 congr 1
 apply ByteArray.ext
 show (#[]:Array UInt8)++(Lib.bytesOf l).toArray=(bs l).toArray
 rw [Array.empty_append]
 rfl
set_option maxHeartbeats 1000000 in
set_option maxRecDepth 100000 in
theorem nan83 (x:Int) (W:World):Calls Tryz.prog 83 #[.int .i64 x] W fun e w'=>e= .returned (.bool false)/\w'=W:=by
 go_enter Tryz.func83,Tryz.ntmps83
 go_wp2
 go_ret
 exact ⟨rfl,rfl⟩
set_option maxHeartbeats 1000000 in
set_option maxRecDepth 100000 in
theorem cmp41 (x y:Int) (W:World):Calls Tryz.prog 41 #[.int .i64 x, .int .i64 y] W fun e w'=>e= .returned (.int .i64 (Zj x y))/\w'=W:=by
 have hn:=fun x W=>nan83 x W
 go_enter Tryz.func41,Tryz.ntmps41
 go_wp2_with (go_at_call 83;refine (hn _ _).mono ?_;rintro e w' ⟨rfl,rfl⟩)
 . have e:Zj x y= -1:=by unfold Zj;rw [decide_eq_true (by assumption)];rfl
   rw [e];go_ret;exact ⟨rfl,rfl⟩
 . have e:Zj x y=1:=by unfold Zj;rw [decide_eq_false (by omega),cond_false,decide_eq_true (by assumption)];rfl
   rw [e];go_ret;exact ⟨rfl,rfl⟩
 . have e:Zj x y=0:=by unfold Zj;rw [decide_eq_false (by omega),cond_false,decide_eq_false (by omega)];rfl
   rw [e];go_ret;exact ⟨rfl,rfl⟩
def jr (x:Idn):List Value:=[.int .u8 x.patch.b0, .int .u8 x.patch.b1, .int .u8 x.patch.b2, .int .u8 x.patch.b3, .int .u8 x.patch.b4, .int .u8 x.patch.b5, .int .u8 x.patch.b6, .int .u8 x.patch.b7, .int .u8 x.patch.b8, .int .u8 x.patch.b9, .int .u8 x.patch.b10, .int .u8 x.patch.b11, .int .u8 x.patch.b12, .int .u8 x.patch.b13, .int .u8 x.patch.b14, .int .u8 x.patch.b15, .int .u8 x.patch.b16, .int .u8 x.patch.b17, .int .u8 x.patch.b18, .int .u8 x.patch.b19, .int .u8 x.patch.b20, .int .u8 x.patch.b21, .int .u8 x.patch.b22, .int .u8 x.patch.b23, .int .u8 x.patch.b24, .int .u8 x.patch.b25, .int .u8 x.patch.b26, .int .u8 x.patch.b27, .int .u8 x.patch.b28, .int .u8 x.patch.b29, .int .u8 x.patch.b30, .int .u8 x.patch.b31, .int .i64 x.n]
set_option maxHeartbeats 1000000 in
set_option maxRecDepth 100000 in
theorem cmp17a (x y:Idn) (W:World) (r r2:Int) (h3: ∀q,Calls Tryz.prog 40 #[.slice (some ⟨W.heap.size,0,none⟩) 32 32, .slice (some ⟨W.heap.size+1,0,none⟩) 32 32] ((((W.alloc (.cells (jr x).toArray 36)).alloc (.cells (jr y).toArray 36))).drewN q) fun e w'=>e= .returned (.int .i64 r)/\w'=((((W.alloc (.cells (jr x).toArray 36)).alloc (.cells (jr y).toArray 36))).drewN q))
  (h41: ∀W:World,Calls Tryz.prog 41 #[.int .i64 x.n, .int .i64 y.n] W fun e w'=>e= .returned (.int .i64 r2)/\w'=W):
  Calls Tryz.prog 17 #[.agg (jr x).toArray, .agg (jr y).toArray] W fun e w'=>e= .returned (.int .i64 (bif !decide (r=0)then r else r2))/\ ∃q os',w'=grow (W.drewN q) os':=by
 unfold jr at h3 ⊢
 go_enter Tryz.func17,Tryz.ntmps17
 go_wp2
 go_quiet (first | (go_at_call 40;refine Calls.quiet_of_same (h3 _)))
 go_wp2_with (go_at_call 41;refine (h41 _).mono ?_;rintro e w' ⟨rfl,rfl⟩)
 . rename_i hh
   rw [show (bif !decide (r=0)then r else r2)=r by rw [decide_eq_false (by simpa using hh)];rfl]
   go_ret
   refine ⟨by kernel_rfl, ?_⟩
   exact ⟨_,_,by rw [alloc_eq_grow,alloc_eq_grow,grow_grow];rfl⟩
 . rename_i hh
   rw [show (bif !decide (r=0)then r else r2)=r2 by rw [decide_eq_true (by simpa using hh)];rfl]
   go_ret
   refine ⟨by kernel_rfl, ?_⟩
   exact ⟨_,_,by rw [alloc_eq_grow,alloc_eq_grow,grow_grow];rfl⟩
theorem cmp17 (x y:Idn) (W:World):Calls Tryz.prog 17 #[.agg (jr x).toArray, .agg (jr y).toArray] W fun e w'=>e= .returned (.int .i64 (idC x y))/\ ∃q os',w'=grow (W.drewN q) os':=by
 have hb: ∀(d:Idn) (n:Nat) (w:World),w.heap[n]? =some (.cells (jr d).toArray 36 (0,0))->(Extern.Bytes.bytesOf (.slice (some ⟨n,0,none⟩) 32 32)).run Tryz.prog w= .ok ⟨(bs (wd d.patch)).toArray⟩ w:=fun d n w hw=>bytes_of (l:=wd d.patch) (fun j z hz=>by
  have:(jr d)[j]? =some (.int .u8 z):=by
   have e:jr d=(wd d.patch).map (Value.int .u8)++[.int .i64 d.n]:=rfl
   have hj:j< ((wd d.patch).map (Value.int .u8)).length:=by
    rw [List.length_map];exact (List.getElem?_eq_some_iff.1 hz).1
   rw [e,List.getElem?_append_left hj,List.getElem?_map,hz];rfl
  simp only [Addr.add_lit,World.cell?,hw]
  simpa using this) 32
 have h1: ∀q,(Extern.Bytes.bytesOf (.slice (some ⟨W.heap.size,0,none⟩) 32 32)).run Tryz.prog ((((W.alloc (.cells (jr x).toArray 36)).alloc (.cells (jr y).toArray 36))).drewN q)= .ok ⟨(bs (wd x.patch)).toArray⟩ _:=fun q=>hb x _ _ (by show ((W.heap.push _).push _)[W.heap.size]? =_;simp [Array.getElem?_push])
 have h2: ∀q,(Extern.Bytes.bytesOf (.slice (some ⟨W.heap.size+1,0,none⟩) 32 32)).run Tryz.prog ((((W.alloc (.cells (jr x).toArray 36)).alloc (.cells (jr y).toArray 36))).drewN q)= .ok ⟨(bs (wd y.patch)).toArray⟩ _:=fun q=>hb y _ _ (by show ((W.heap.push (.cells (jr x).toArray 36 (0,0))).push _)[W.heap.size+1]? =_;rw [show W.heap.size+1=(W.heap.push (.cells (jr x).toArray 36 (0,0))).size by simp,Array.getElem?_push_size])
 have h3: ∀q,Calls Tryz.prog 40 #[.slice (some ⟨W.heap.size,0,none⟩) 32 32, .slice (some ⟨W.heap.size+1,0,none⟩) 32 32] ((((W.alloc (.cells (jr x).toArray 36)).alloc (.cells (jr y).toArray 36))).drewN q) fun e w'=>e= .returned (.int .i64 (zD x.patch y.patch))/\w'=_:=fun q=>Vn (h1 q) (h2 q)
 exact cmp17a x y W _ _ h3 fun W=>cmp41 x.n y.n W
set_option maxRecDepth 100000
def X8:Go.Shelf.Ren:=⟨fun | 6=>87 | 15=>97 | 14=>138 | 28=>147 | 29=>148 | 20=>186 | 21=>187 | 22=>188 | 23=>189 | 24=>190 | 25=>191 | 26=>192 | 27=>193 | 46=>217 | 47=>195 | 48=>196 | 49=>218 | 50=>219 | 57=>231 | n=>n,fun | 22=>48 | 24=>36 | 25=>37 | 3=>3 | 39=>118 | 0=>0 | 53=>100 | 55=>137 | 4=>4 | 46=>161 | 45=>160 | 50=>165 | 5=>5 | 9=>9 | 66=>205 | 70=>209 | 76=>226 | 77=>227 | n=>n,fun | n=>n⟩
theorem Wy:Go.Proofs.SlLaysF0.n6 Tryz.prog X8:={
 mixed:=by kernel_rfl
 f6:=⟨Tryz.f87.name,by decide,Tryz.func87.trans (congrArg some (by kernel_rfl))⟩
 f14:=⟨Tryz.f138.name,by decide,Tryz.func138.trans (congrArg some (by kernel_rfl))⟩
 f15:=Tryz.func97.trans (congrArg some (by kernel_rfl))
 f20:=⟨Tryz.f186.name,by decide,Tryz.func186.trans (congrArg some (by kernel_rfl))⟩
 f21:=⟨Tryz.f187.name,by decide,Tryz.func187.trans (congrArg some (by kernel_rfl))⟩
 f22:=⟨Tryz.f188.name,by decide,Tryz.func188.trans (congrArg some (by kernel_rfl))⟩
 f23:=⟨Tryz.f189.name,by decide,Tryz.func189.trans (congrArg some (by kernel_rfl))⟩
 f24:=⟨Tryz.f190.name,by decide,Tryz.func190.trans (congrArg some (by kernel_rfl))⟩
 f25:=⟨Tryz.f191.name,by decide,Tryz.func191.trans (congrArg some (by kernel_rfl))⟩
 f26:=⟨Tryz.f192.name,by decide,Tryz.func192.trans (congrArg some (by kernel_rfl))⟩
 f27:=⟨Tryz.f193.name,by decide,Tryz.func193.trans (congrArg some (by kernel_rfl))⟩
 f28:=Tryz.func147.trans (congrArg some (by kernel_rfl))
 f29:=Tryz.func148.trans (congrArg some (by kernel_rfl))
 f46:=⟨Tryz.f217.name,by decide,Tryz.func217.trans (congrArg some (by kernel_rfl))⟩
 f47:=Tryz.func195.trans (congrArg some (by kernel_rfl))
 f48:=Tryz.func196.trans (congrArg some (by kernel_rfl))
 f49:=⟨Tryz.f218.name,by decide,Tryz.func218.trans (congrArg some (by kernel_rfl))⟩
 f50:=⟨Tryz.f219.name,by decide,Tryz.func219.trans (congrArg some (by kernel_rfl))⟩
 f57:=⟨Tryz.f231.name,by decide,Tryz.func231.trans (congrArg some (by kernel_rfl))⟩
 t0:=Tryz.underlying0
 a0:=Tryz.isAgg0
 z0:=Tryz.sizeOf0
 v0:=Tryz.zeroValue0
 t3:=Tryz.underlying3
 a3:=Tryz.isAgg3
 z3:=Tryz.sizeOf3
 v3:=Tryz.zeroValue3
 t4:=Tryz.underlying4
 a4:=Tryz.isAgg4
 z4:=Tryz.sizeOf4
 v4:=Tryz.zeroValue4
 t5:=Tryz.underlying5
 a5:=Tryz.isAgg5
 z5:=Tryz.sizeOf5
 v5:=Tryz.zeroValue5
 t9:=Tryz.underlying9
 a9:=Tryz.isAgg9
 z9:=Tryz.sizeOf9
 v9:=Tryz.zeroValue9
 t22:=Tryz.underlying48
 a22:=Tryz.isAgg48
 z22:=Tryz.sizeOf48
 v22:=Tryz.zeroValue48
 t25:=Tryz.underlying37
 a25:=Tryz.isAgg37
 z25:=Tryz.sizeOf37
 v25:=Tryz.zeroValue37
 t39:=Tryz.underlying118
 a39:=Tryz.isAgg118
 z39:=Tryz.sizeOf118
 v39:=Tryz.zeroValue118
 t45:=Tryz.underlying160
 a45:=Tryz.isAgg160
 z45:=Tryz.sizeOf160
 v45:=Tryz.zeroValue160
 t46:=Tryz.underlying161
 a46:=Tryz.isAgg161
 z46:=Tryz.sizeOf161
 v46:=Tryz.zeroValue161
 t50:=Tryz.underlying165
 a50:=Tryz.isAgg165
 z50:=Tryz.sizeOf165
 v50:=Tryz.zeroValue165
 t53:=Tryz.underlying100
 a53:=Tryz.isAgg100
 z53:=Tryz.sizeOf100
 v53:=Tryz.zeroValue100
 t55:=Tryz.underlying137
 a55:=Tryz.isAgg137
 z55:=Tryz.sizeOf137
 v55:=Tryz.zeroValue137
 t66:=Tryz.underlying205
 a66:=Tryz.isAgg205
 z66:=Tryz.sizeOf205
 v66:=Tryz.zeroValue205
 t70:=Tryz.underlying209
 a70:=Tryz.isAgg209
 z70:=Tryz.sizeOf209
 v70:=Tryz.zeroValue209
 t76:=Tryz.underlying226
 a76:=Tryz.isAgg226
 z76:=Tryz.sizeOf226
 v76:=Tryz.zeroValue226
 t77:=Tryz.underlying227
 a77:=Tryz.isAgg227
 z77:=Tryz.sizeOf227
 v77:=Tryz.zeroValue227}
def vX (e:El) (x:ty e):List Value:=(enc e x).map tv
theorem flat_at {e:El} [Inhabited (ty e)] (l:List (ty e)) (j:Nat) (hj:j<l.length*sz e): ∃u,(encs e l)[j]? =some u/\(flatK (vX e) (sz e) l.toArray)[j]! =tv u:=by
 have hk:0<sz e:=by
  rcases Nat.eq_zero_or_pos (sz e)with h | h
  . rw [h] at hj;simp at hj
  . exact h
 have hi:j / sz e<l.length:=by rw [Nat.div_lt_iff_lt_mul hk];exact hj
 have hr:j%sz e<sz e:=Nat.mod_lt _ hk
 have he:(encs e l)[j]? =(enc e l[j / sz e])[j%sz e]? :=by
  have:=xj (l:=l) (i:=j / sz e) (jI hi) hr
  rwa [Nat.mul_comm,Nat.div_add_mod] at this
 have hlen:j%sz e< (enc e l[j / sz e]).length:=by rw [zw];exact hr
 refine ⟨(enc e l[j / sz e])[j%sz e],by rw [he,jI hlen], ?_⟩
 rw [get_flatK _ _ _ _ (by simpa using hj)]
 have h1:l.toArray[j / sz e]! =l[j / sz e]:=by rw [getElem!_pos l.toArray _ (by simpa using hi)];simp
 rw [h1]
 unfold vX
 rw [List.getElem!_eq_getElem?_getD,List.getElem?_map,jI hlen];rfl
theorem sort_ok {e:El} [Inhabited (ty e)] (hI: ∀x:ty e, ∀u∈enc e x, ∃k n,u=T.int k n) {f c:FuncId} {srt:List (ty e)->List (ty e)} (he:qk Tryz.prog f=true) (hc:ytab c=none)
  (h0: ∀(p:Option Addr) (cap:Nat) (fv:Value) (w:World),Calls Tryz.prog f #[.slice p 0 cap,fv] w fun e w'=>e= .returned (.tuple #[])/\w'=w)
  (h1: ∀(b cap:Nat) (l:List (ty e)) (w:World),HoldsK (vX e) (sz e) w b 0 l.toArray->b<w.heap.size->l.length<=16777216->Calls Tryz.prog f #[.slice (some ⟨b,0,none⟩) l.length cap, .func (.func c) #[] #[]] w fun r w'=>r= .returned (.tuple #[])/\ ∃n os,w'=sortWorldK (vX e) (sz e) w b 0 n (srt l).toArray os)
  (hs: ∀l,(srt l).length=l.length) {l:List (ty e)} (hl:l.length<=16777216) {K X:Kn} (hK:K (.tu []) [some (.arr 0 e (srt l))]):FCalls Tryz.prog f [.oa e 0 0, .fn c [] []] [some (.arr 0 e l)] K X 1:=by
 intro g w hg
 refine ya.of he fun args hr=> ?_
 obtain ⟨x,y,rfl,hx,hy⟩:=rl_two hr
 have hy':y= .func (.func c) #[] #[]:=by
  cases hy with
  | fn _ _ _ xs ys _ a1 a2 _ _=>
   have e1:xs= #[]:=Array.eq_empty_of_size_eq_zero a1.symm
   have e2:ys= #[]:=Array.eq_empty_of_size_eq_zero a2.symm
   rw [e1,e2]
  | yl _ _ yi _ _ a1=>rw [hc] at a1;cases a1
 subst hy'
 obtain ⟨oi,o1,fits,row⟩:=hg.obj 0 (.arr 0 e l) rfl
 have o1:g.ob 0 0=some oi:=o1
 obtain ⟨f1,f2,f3⟩:=fits
 cases hx with
 | oa _ _ _ oi' A b1 b2 b3 b4=>
  rw [o1] at b1
  obtain rfl:=Option.some.inj b1
  by_cases hz:oi.cap=0
  . have hl0:l=[]:=List.length_eq_zero_iff.1 (by omega)
    subst hl0
    have hs0:srt []=[]:=List.length_eq_zero_iff.1 (by rw [hs];rfl)
    rw [show oi.len=0 by simpa using f1]
    refine (h0 _ _ _ w).mono ?_
    rintro r w' ⟨rfl,rfl⟩
    exact ⟨g,_,hg,Step.refl, .tu [],by rw [hs0] at hK;exact hK, .tu [] #[] rfl fun i c x hc=>by simp at hc⟩
  . obtain rfl:=b2 hz
    rcases row with ⟨_,r0⟩ | ⟨r1,blk,E,fr,r2,r3,r4,r5⟩
    . exact absurd r0 hz
    have r2:w.heap[oi.b]? =some (.cells blk E fr):=r2
    have hb:oi.b<w.heap.size:=vg (m:=false) r2
    have hle:l.length*sz e<=blk.size:=by have:=r4.le;rwa [show qy (.arr 0 e l)=encs e l from rfl,qb] at this
    have hH:HoldsK (vX e) (sz e) w oi.b 0 l.toArray:=by
     intro j hj
     have hj:j<l.length*sz e:=by simpa using hj
     obtain ⟨u,u1,u2⟩:=flat_at l j hj
     obtain ⟨x,x1,x2,x3⟩:=r4.at_ j u u1
     have hu: ∃k n,u=T.int k n:=by
      have:=List.mem_of_getElem? u1
      simp only [encs,List.mem_flatten,List.mem_map] at this
      obtain ⟨_,⟨z,_,rfl⟩,hz⟩:=this
      exact hI z u hz
     obtain ⟨k,n,rfl⟩:=hu
     cases x3
     refine ⟨?_, ?_⟩
     . rw [u2,Nat.zero_add]
       simp only [World.cell?,r2]
       have x1':blk[j]? =some (tv (.int k n)):=x1
       simpa using x1'
     . rw [Nat.zero_add]
       have:=r3 j (by omega)
       simp only [World.frozen?,r2]
       simp
       omega
    rw [f1]
    refine (h1 oi.b oi.cap l w hH hb hl).mono ?_
    rintro r w' ⟨rfl,n,os,rfl⟩
    have hF:(flatK (vX e) (sz e) (srt l).toArray).size=l.length*sz e:=by rw [size_flatK];simp [hs]
    have hheap:(sortWorldK (vX e) (sz e) w oi.b 0 n (srt l).toArray os).heap=w.heap.modify oi.b (onCells (putCells id 0 (flatK (vX e) (sz e) (srt l).toArray)))++os:=rfl
    have hat:(sortWorldK (vX e) (sz e) w oi.b 0 n (srt l).toArray os).heap[oi.b]? =some (.cells (putCells id 0 (flatK (vX e) (sz e) (srt l).toArray) blk) E fr):=by
     rw [hheap,Array.getElem?_append_left (by simpa using hb),Array.getElem?_modify,if_pos rfl,r2];rfl
    have hps:(putCells id 0 (flatK (vX e) (sz e) (srt l).toArray) blk).size=blk.size:=by simp [putCells]
    obtain ⟨k1,k2,k3⟩:=qC (st':=[some (.arr 0 e (srt l))]) (k:=0) (v:=0) (o':= .arr 0 e (srt l)) (oi:=oi) (w':=sortWorldK (vX e) (sz e) w oi.b 0 n (srt l).toArray os) hg
     (fun i=>by cases i<;>simp) (Nat.zero_le _) (Nat.le_refl _) rfl (.inr o1) (fun u oi' hu=>(hg.old 0 u oi' hu).2 _ rfl) ⟨by rw [hs];exact f1,f2,f3⟩
     (fun _=> .inr ⟨_,rfl,by unfold obBlk;rw [show g.ob 0 (obVer (.arr 0 e l))=some oi from o1];simp [hz]⟩) rfl rfl rfl (by rw [hheap];simp)
     (fun b hbs hbn=>by
      have hne:oi.b≠b:=fun h=>hbn _ rfl (by unfold obBlk;rw [show g.ob 0 (obVer (.arr 0 e l))=some oi from o1];simp [hz,h])
      rw [hheap,Array.getElem?_append_left (by simpa using hbs),Array.getElem?_modify,if_neg hne])
     (fun _=>⟨_,E,fr,hat,by rw [hps];exact r3,⟨by rw [hps];show (encs e (srt l)).length<=_;rw [qb,hs];exact hle,fun j u hj=>by
      have hj':j<l.length*sz e:=by
       have:=(List.getElem?_eq_some_iff.1 hj).1
       rwa [show qy (.arr 0 e (srt l))=encs e (srt l) from rfl,qb,hs] at this
      obtain ⟨u',u1,u2⟩:=flat_at (srt l) j (by rw [hs];exact hj')
      have:u'=u:=by
       have hj:(encs e (srt l))[j]? =some u:=hj
       rw [u1] at hj;exact Option.some.inj hj
      subst this
      have hu: ∃k n,u'=T.int k n:=by
       have:=List.mem_of_getElem? u1
       simp only [encs,List.mem_flatten,List.mem_map] at this
       obtain ⟨_,⟨z,_,rfl⟩,hz⟩:=this
       exact hI z u' hz
      obtain ⟨k,n,rfl⟩:=hu
      refine ⟨.int k n, ?_,rfl, .int k n⟩
      unfold putCells
      have hjb:j<blk.size:=by omega
      rw [Array.getElem?_mapIdx,Array.getElem?_eq_getElem hjb]
      simp only [Option.map_some,Nat.zero_le,true_and,Nat.zero_add,Nat.sub_zero]
      rw [if_pos (by rw [hF];exact hj'),u2];rfl⟩,by rw [hps];exact r5⟩)
     (fun o ho=>by
      have:o= .arr 0 e l:=by simpa using ho.symm
      subst this
      exact ⟨0,srt l,rfl⟩)
    exact ⟨_,_,k1,k2 _, .tu [],hK, .tu [] #[] rfl fun i c x hc=>by simp at hc⟩
theorem int_idk (x:Idn): ∀u∈enc .idk x, ∃k n,u=T.int k n:=by
 intro u hu
 have:((enc .idk x).all fun u=>match u with | .int _ _=>true | _=>false)=true:=by kernel_rfl
 have:=List.all_eq_true.1 this u hu
 cases u<;>first | exact ⟨_,_,rfl⟩ | cases this
theorem len_pdq {α:Type} [Inhabited α] {lt:α->α->Bool} (hO:SWO lt) (d:Array α):(pdq lt d 0 d.size (Lib.bitLen d.size) true true).size=d.size:=
 (pdq_sorts lt hO d 0 d.size (Lib.bitLen d.size) true true (Nat.zero_le _) (Nat.le_refl _) (Or.inl rfl)).1.1
theorem sortI_len (l:List Idn):(J4 l).length=l.length:=by
 have:=len_pdq swo_id l.toArray
 unfold J4
 simpa using this
theorem agg36: ∀w,(isAgg 36).run Tryz.prog w= .ok true w:=fun w=>by
 unfold isAgg underlying
 simp only [Sem.run_bind,show Tryz.prog.underlying 36=_ from Tryz.underlying36]
 rfl
end Go.Proofs.YtbglndogddddoaaGreatDoor
namespace Go.Proofs.YtbglndogddddoaaGreatDoor
open Go.RowKit
attribute [local irreducible] qJ qd
set_option maxRecDepth 100000
def H15:List (Nat×Hint):=[]
def J15:List (Nat×Hint):=[]
abbrev S15:List Sh:=[.ag [.leaf, .leaf, .leaf, .leaf, .leaf]]
abbrev L15:List Lf:=[.str, .str, .int .i64, .sl .dig, .sl .chg]
def F15 (g:prodL L15) (K:Kn):Prop:=
 sp13.pre (g.1,g.2.1,g.2.2.1,g.2.2.2.1,g.2.2.2.2.1,())/\
 bif !decide ((jQ g.1 g.2.1 g.2.2.1 g.2.2.2.1 g.2.2.2.2.1).2.2=0)then (
  K (.tu [.ag (enc .dig dz), .int .i64 ((jQ g.1 g.2.1 g.2.2.1 g.2.2.2.1 g.2.2.2.2.1).2.2)]) [])
 else (
  sp33.pre ((jQ g.1 g.2.1 g.2.2.1 g.2.2.2.1 g.2.2.2.2.1).2.1,())/\
 K (.tu [.ag (enc .dig (X2 ((jQ g.1 g.2.1 g.2.2.1 g.2.2.2.1 g.2.2.2.2.1).2.1))), .int .i64 0]) [])
theorem F15_eq (g:prodL L15) (K X:Kn):F15 g K=qJ D (qQ [] [(13,true,sp13),(33,true,sp33)]) (qw []) H15 J15 17 [.cell 2 32, .tmp 3] (qz Tryz.f15) (argsT S15 L15 g) [] (settle0 K) X:=by kernel_rfl
theorem F15_ok (g:prodL L15) (K X:Kn) (h:F15 g K):FCalls Tryz.prog 15 (argsT S15 L15 g) [] K X:=
 FCalls.settle0 (qq qh (wQ (vf sp13_ok (vf sp33_ok wZ))) qx rfl Tryz.func15 (c:=qz Tryz.f15) rfl Tryz.ntmps15 Tryz.results15 (by unfold qk;rw [Tryz.func15];kernel_rfl) (Nat.le_of_ble_eq_true (by kernel_rfl)) (c0:=0) (Eq.mp (F15_eq g K X) h))
def H86:List (Nat×Hint):=[]
def J86:List (Nat×Hint):=[(2,⟨[((2,[]),none),((3,[]),none)],[(1, .leaf),(2, .pt 0 0),(3, .pt 1 0),(10, .leaf)],[.el, .el],[.pr .dig, .bool, .el .idk, .el .idk]⟩),(3,⟨[((2,[]),none),((3,[]),none)],[(2, .pt 0 0),(3, .pt 1 0)],[.el, .el],[.el .idk, .el .idk]⟩)]
abbrev S86:List Sh:=[.leaf, .leaf]
abbrev L86:List Lf:=[.el .idk, .pr .dig]
def F86_J4 (K:Kn) (x_3 t_3:Idn):Prop:=
 K (.ag (enc .idk x_3)) []
def Yb (K:Kn) (t_1:Dig) (t2_1:Bool) (x_1 t3_1:Idn):Prop:=
 bif t2_1 then (
  F86_J4 K (⟨t_1,x_1.n⟩:Idn) t3_1)
 else (
  F86_J4 K x_1 t3_1)
def F86 (g:prodL L86) (K:Kn):Prop:=
 True/\
 bif y7 g.1 then (
  Yb K g.2.1 (decide (0<=g.1.n)) g.1 iz)
 else (
  Yb K g.2.1 false g.1 iz)
theorem F86_eq (g:prodL L86) (K X:Kn):F86 g K=qJ D (qQ [] [(47,true,KV)]) (qw []) H86 J86 14 [.cell 3 36] (qz Tryz.f86) (argsT S86 L86 g) [] (settle0 K) X:=by kernel_rfl
theorem F86_ok (g:prodL L86) (K X:Kn) (h:F86 g K):FCalls Tryz.prog 86 (argsT S86 L86 g) [] K X:=
 FCalls.settle0 (qq (Γ:=qQ [] [(47,true,KV)]) (mu:=qw []) (H:=H86) (J:=J86) qh (qX (rs:=[]) (l:=[(47,true,KV)]) (fun p hp=>by cases hp) (by intro p hp;simp only [List.mem_cons,List.not_mem_nil,or_false] at hp;subst hp;exact WE)) qx rfl Tryz.func86 (c:=qz Tryz.f86) rfl Tryz.ntmps86 Tryz.results86 (by unfold qk;rw [Tryz.func86];kernel_rfl) (Nat.le_of_ble_eq_true (by kernel_rfl)) (c0:=0) (Eq.mp (F86_eq g K X) h))
def sp86:Sp:=⟨S86,L86,fun _=>True,fun g=> .ag (enc .idk (zI g.2.1 g.1)),fun _=>none⟩
theorem sp86_ok:sp86.Ok Tryz.prog 86 false:=
 ⟨fun g K X hp h=>F86_ok g K X (by
  have h:K (.ag (enc .idk (zI g.2.1 g.1))) []:=h
  refine ⟨trivial, ?_⟩
  unfold zI at h
  exact ZW (J:=fun b=>Yb K g.2.1 b g.1 iz) (f:=fun b=>bif b then (⟨g.2.1,g.1.n⟩:Idn)else g.1) (K:=fun x=>K (.ag (enc .idk x)) []) (fun b h=>by unfold Yb;cases b<;>exact h) h),fun _ _ _=>rfl,fun _=>rfl,by first | exact fun _ _=>⟨rfl,rfl⟩ | (intro h;cases h)⟩
end Go.Proofs.YtbglndogddddoaaGreatDoor
namespace Go.Proofs.YtbglndogddddoaaGreatDoor
open Go.RowKit Go.Lib Go.Shelf Go.Sort
set_option maxRecDepth 100000
theorem size36: ∀w,(Go.sizeOf 36).run Tryz.prog w= .ok 33 w:=fun w=>qB (by rw [z8,show Tryz.prog.info? 36=some Tryz.t36 from Tryz.type36];rfl) w
theorem encVs_one {e:El} (x:ty e) (hI: ∀u∈enc e x, ∃k n,u=T.int k n): ∀v∈vX e x,v.oneCell'=true:=fun v hv=>by
 obtain ⟨u,hu,rfl⟩:=List.mem_map.1 hv
 obtain ⟨k,n,rfl⟩:=hI u hu
 rfl
theorem F87_ok {l:List Idn} {K X:Kn} (hl:l.length<=4194304) (h:K (.tu []) [some (.arr 0 .idk (J4 l))]):FCalls Tryz.prog 87 [.oa .idk 0 0, .fn 17 [] []] [some (.arr 0 .idk l)] K X 1:=
 sort_ok (e:= .idk) int_idk (srt:=J4) (by kernel_rfl) (by rfl)
  (fun p cap fv w=>AnyF.slices_SortFunc_none Wy p cap fv w)
  (fun b cap l w hH hb hs=>by
   have eg: ∀args w,(callFunc 17 args).run Tryz.prog w= .ok (.enter 17 args) w:=enters_of Tryz.func17 (by kernel_rfl) rfl
   have:=AnyQ.slices_SortFunc_eq Wy 33 agg36 size36 (vX .idk) (fun x=>rfl) (fun x=>encVs_one x (int_idk x)) idC swo_id 17 #[] b 0 cap l.toArray w eg (fun m os dk hk x y=>cmp17 x y _) hH hb (by show l.length<_;omega)
   exact this.mono fun r w' ⟨e1,n,os,e2⟩=>⟨e1,n,os,by rw [e2];rfl⟩)
  sortI_len (by omega) h
abbrev S87:List Sh:=[.oa .idk 0, .fn 17 [] []]
abbrev O87:List ObSh:=[.arr .idk]
abbrev L87:List Lf:=[.sl .idk]
def rw87:Raw:=⟨S87,O87,L87,1,fun g K _=>pre87 g/\K (.tu []) [some (.arr 0 .idk (J4 g.1))]⟩
theorem rw87_ok:rw87.Ok Tryz.prog 87:=fun g K X h=>F87_ok h.1 h.2
theorem exP_size {a m:ByteArray} {t:Int} {ds:List Dig} {cs:List Chg}:(jQ a m t ds cs).2.1.size<=65536:=by
 by_cases z:(jQ a m t ds cs).2.2=0
 . have h:=XA z
   rw [exP_eq z]
   show (wL (jV a m t (jA ds) cs)).1.size<=65536
   omega
 . have e0:(⟨#[]⟩:ByteArray).size=0:=rfl
   have:(jQ a m t ds cs).2.1=⟨#[]⟩:=by
    unfold jQ at z ⊢
    cases h1:decide (xG zD a m t ds cs=0)
    . rfl
    . rw [h1] at z
      simp only [Bool.not_true,cond_false] at z ⊢
      unfold kM at z ⊢
      cases h2:decide ((yP cs).2=0)
      . rfl
      . rw [h2] at z
        simp only [Bool.not_true,cond_false] at z ⊢
        unfold exP5 at z ⊢
        revert z
        generalize (bif !decide ((wL (jV a m t (jA ds) cs)).2=0)then true else decide (65536< ((wL (jV a m t (jA ds) cs)).1.size:Int)))=b
        intro z
        cases b
        . exact absurd rfl z
        . rfl
   rw [this,e0];omega
theorem F15_is {a m:ByteArray} {t:Int} {ds:List Dig} {cs:List Chg} {K:Kn} (hp:xP a m t ds cs) (h:K (.tu [.ag (enc .dig (X3 a m t ds cs).1), .int .i64 (X3 a m t ds cs).2]) []):F15 (a,m,t,ds,cs,()) K:=by
 unfold F15
 refine ⟨hp, ?_⟩
 unfold X3 at h
 show bif !decide ((jQ a m t ds cs).2.2=0)then _ else _
 by_cases z:(jQ a m t ds cs).2.2=0
 . rw [decide_eq_true z] at h ⊢
   exact ⟨Nat.le_trans exP_size (by omega),h⟩
 . rw [decide_eq_false z] at h ⊢
   exact h
def sp15:Sp:=⟨S15,L15,fun g=>xP g.1 g.2.1 g.2.2.1 g.2.2.2.1 g.2.2.2.2.1,fun g=> .tu [.ag (enc .dig (X3 g.1 g.2.1 g.2.2.1 g.2.2.2.1 g.2.2.2.2.1).1), .int .i64 (X3 g.1 g.2.1 g.2.2.1 g.2.2.2.1 g.2.2.2.2.1).2],fun _=>none⟩
theorem sp15_ok:sp15.Ok Tryz.prog 15 true:=
 ⟨fun g K X hp h=>F15_ok g K X (F15_is hp h),fun _ _ _=>rfl,fun _=>rfl,fun _ _=>⟨rfl,rfl⟩⟩
end Go.Proofs.YtbglndogddddoaaGreatDoor
namespace Go.Proofs.YtbglndogddddoaaGreatDoor
open Go.RowKit
attribute [local irreducible] qJ qd
set_option maxRecDepth 100000
def H44:List (Nat×Hint):=[(9,⟨[((4,[]),none)],[(4, .oa .atm 0),(8, .fn 86 [] [.leaf]),(32, .oa .atm 0),(33, .leaf),(34, .leaf)],[.arr .atm],[.pr .dig, .int .i64, .int .i64, .sl .atm]⟩),(20,⟨[((4,[]),none),((10,[]),none),((11,[]),some .idk)],[(4, .oa .atm 0),(8, .fn 86 [] [.leaf]),(9, .leaf),(10, .pt 1 0),(11, .oa .idk 2),(32, .oa .atm 0),(33, .leaf),(34, .leaf),(74, .leaf),(75, .leaf),(76, .leaf)],[.arr .atm, .el, .arr .idk],[.pr .dig, .int .i64, .int .i64, .int .i64, .sl .idk, .int .i64, .int .i64, .sl .atm, .el .atm, .sl .idk]⟩)]
def J44:List (Nat×Hint):=[(7,⟨[((4,[]),none)],[(4, .oa .atm 0),(7, .leaf)],[.arr .atm],[.pr .dig, .sl .atm]⟩),(14,⟨[((4,[]),none),((10,[]),none)],[(4, .oa .atm 0),(8, .fn 86 [] [.leaf]),(9, .leaf),(10, .pt 1 0),(32, .oa .atm 0),(33, .leaf),(34, .leaf)],[.arr .atm, .el],[.pr .dig, .int .i64, .int .i64, .int .i64, .sl .atm, .el .atm]⟩),(16,⟨[((4,[]),none),((10,[]),none)],[(4, .oa .atm 0),(8, .fn 86 [] [.leaf]),(9, .leaf),(10, .pt 1 0),(32, .oa .atm 0),(33, .leaf),(34, .leaf)],[.arr .atm, .el],[.pr .dig, .int .i64, .int .i64, .int .i64, .sl .atm, .el .atm]⟩),(18,⟨[((4,[]),none),((10,[]),none)],[(4, .oa .atm 0),(8, .fn 86 [] [.leaf]),(9, .leaf),(10, .pt 1 0),(32, .oa .atm 0),(33, .leaf),(34, .leaf)],[.arr .atm, .el],[.pr .dig, .int .i64, .int .i64, .int .i64, .sl .atm, .el .atm]⟩),(25,⟨[((4,[]),none),((10,[]),none)],[(4, .oa .atm 0),(8, .fn 86 [] [.leaf]),(9, .leaf),(10, .pt 1 0),(11, .leaf),(32, .oa .atm 0),(33, .leaf),(34, .leaf)],[.arr .atm, .el],[.pr .dig, .int .i64, .sl .idk, .int .i64, .int .i64, .sl .atm, .el .atm]⟩)]
abbrev S44:List Sh:=[.ag [.leaf, .leaf, .leaf, .leaf, .leaf]]
abbrev L44:List Lf:=[.str, .str, .int .i64, .sl .dig, .sl .chg]
def F44_J16 (K:Kn) (W3:prodL [.pr .dig, .int .i64, .int .i64, .sl .atm]->Prop) (full_14:Dig) (i_14:Int) (over_14:List Idn) (t_14 t2_14:Int) (l_14:List Atm) (x_14:Atm):Prop:=
 0<=i_14/\i_14.toNat<l_14.length/\
 Y1 l_14 i_14.toNat fun x15=>
 W3 (full_14,t_14,IntKind.i64.wrap (t2_14+1),l_14.set i_14.toNat (⟨x_14.id,x_14.kind,x_14.file,x_14.typ,x_14.parent,x_14.name,x_14.mode,x_14.data,x_14.text,x_14.frm,x_14.til,over_14⟩:Atm),())
def QX (K:Kn) (W3:prodL [.pr .dig, .int .i64, .int .i64, .sl .atm]->Prop) (W12:prodL [.pr .dig, .int .i64, .int .i64, .int .i64, .sl .idk, .int .i64, .int .i64, .sl .atm, .el .atm, .sl .idk]->Prop) (full_11:Dig) (i_11 t_11 t2_11:Int) (t3_11:List Idn) (t4_11 t5_11:Int) (l_11:List Atm) (x_11:Atm) (over_11:List Idn):Prop:=
 bif decide (t5_11<t4_11)then (
  At t3_11 t5_11 fun u13=>
 True/\
 qG (over_11.length+[(zI full_11 u13)].length) 40 (
 W12 (full_11,i_11,t_11,t2_11,t3_11,t4_11,IntKind.i64.wrap (t5_11+1),l_11,x_11,over_11++[(zI full_11 u13)],())))
 else (
  pre87 (over_11,())/\
 F44_J16 K W3 full_11 i_11 (J4 over_11) t_11 t2_11 l_11 x_11)
def F44_L12 (K:Kn) (W3:prodL [.pr .dig, .int .i64, .int .i64, .sl .atm]->Prop) (g:prodL [.pr .dig, .int .i64, .int .i64, .int .i64, .sl .idk, .int .i64, .int .i64, .sl .atm, .el .atm, .sl .idk]):Prop:=
 qZ (γ:=prodL [.pr .dig, .int .i64, .int .i64, .int .i64, .sl .idk, .int .i64, .int .i64, .sl .atm, .el .atm, .sl .idk]) (fun V y=>QX K W3 V y.1 y.2.1 y.2.2.1 y.2.2.2.1 y.2.2.2.2.1 y.2.2.2.2.2.1 y.2.2.2.2.2.2.1 y.2.2.2.2.2.2.2.1 y.2.2.2.2.2.2.2.2.1 y.2.2.2.2.2.2.2.2.2.1) g
def JW (K:Kn) (W3:prodL [.pr .dig, .int .i64, .int .i64, .sl .atm]->Prop) (full_7:Dig) (i_7 t_7 t2_7:Int) (l_7:List Atm) (x_7:Atm):Prop:=
 F44_L12 K W3 (full_7,i_7,t_7,t2_7,x_7.over,(x_7.over.length:Int),0,l_7,x_7,[],())
def Jq (K:Kn) (W3:prodL [.pr .dig, .int .i64, .int .i64, .sl .atm]->Prop) (full_6:Dig) (i_6 t_6 t2_6:Int) (l_6:List Atm) (x_6:Atm):Prop:=
 bif decide (x_6.kind=6)then (
  True/\
  True/\
  JW K W3 full_6 i_6 t_6 t2_6 l_6 (⟨x_6.id,x_6.kind,x_6.file,x_6.typ,x_6.parent,x_6.name,x_6.mode,x_6.data,x_6.text,zI full_6 x_6.frm,zI full_6 x_6.til,x_6.over⟩:Atm))
 else (
  JW K W3 full_6 i_6 t_6 t2_6 l_6 x_6)
def Jw (K:Kn) (W3:prodL [.pr .dig, .int .i64, .int .i64, .sl .atm]->Prop) (full_5:Dig) (i_5 t_5 t2_5:Int) (l_5:List Atm) (x_5:Atm):Prop:=
 bif decide (x_5.kind=2)then (
  True/\
  Jq K W3 full_5 i_5 t_5 t2_5 l_5 (⟨x_5.id,x_5.kind,x_5.file,x_5.typ,zI full_5 x_5.parent,x_5.name,x_5.mode,x_5.data,x_5.text,x_5.frm,x_5.til,x_5.over⟩:Atm))
 else (
  Jq K W3 full_5 i_5 t_5 t2_5 l_5 x_5)
def F44_B3 (K:Kn) (W3:prodL [.pr .dig, .int .i64, .int .i64, .sl .atm]->Prop) (full_2:Dig) (t_2 t2_2:Int) (l_2:List Atm):Prop:=
 bif decide (t2_2<t_2)then (
  0<=t2_2/\t2_2.toNat<l_2.length/\
 Y1 l_2 t2_2.toNat fun x4=>
 True/\
 bif !decide (x4.kind=7)then (
  True/\
  Jw K W3 full_2 t2_2 t_2 t2_2 l_2 (⟨zI full_2 x4.id,x4.kind,zI full_2 x4.file,x4.typ,x4.parent,x4.name,x4.mode,x4.data,x4.text,x4.frm,x4.til,x4.over⟩:Atm))
 else (
  Jw K W3 full_2 t2_2 t_2 t2_2 l_2 (⟨zI full_2 x4.id,x4.kind,x4.file,x4.typ,x4.parent,x4.name,x4.mode,x4.data,x4.text,x4.frm,x4.til,x4.over⟩:Atm)))
 else (
  K (.tu [.sl false .atm l_2, .int .i64 0]) [])
def F44_L3 (K:Kn) (g:prodL [.pr .dig, .int .i64, .int .i64, .sl .atm]):Prop:=
 qZ (γ:=prodL [.pr .dig, .int .i64, .int .i64, .sl .atm]) (fun V y=>F44_B3 K V y.1 y.2.1 y.2.2.1 y.2.2.2.1) g
def F44_J20 (K:Kn) (patch_1:Dig) (l_1:List Atm):Prop:=
 F44_L3 K (patch_1,(l_1.length:Int),0,l_1,())
def F44 (g:prodL L44) (K:Kn):Prop:=
 v8.pre (g.1,g.2.1,g.2.2.1,g.2.2.2.1,g.2.2.2.2.1,())/\
 bif !decide ((jQ g.1 g.2.1 g.2.2.1 g.2.2.2.1 g.2.2.2.2.1).2.2=0)then (
  K (.tu [.nil, .int .i64 ((jQ g.1 g.2.1 g.2.2.1 g.2.2.2.1 g.2.2.2.2.1).2.2)]) [])
 else (
  sp15.pre (g.1,g.2.1,g.2.2.1,g.2.2.2.1,g.2.2.2.2.1,())/\
 bif !decide ((X3 g.1 g.2.1 g.2.2.1 g.2.2.2.1 g.2.2.2.2.1).2=0)then (
  K (.tu [.nil, .int .i64 ((X3 g.1 g.2.1 g.2.2.1 g.2.2.2.1 g.2.2.2.2.1).2)]) [])
 else (
  F44_J20 K ((X3 g.1 g.2.1 g.2.2.1 g.2.2.2.1 g.2.2.2.2.1).1) ((jQ g.1 g.2.1 g.2.2.1 g.2.2.2.1 g.2.2.2.2.1).1)))
theorem F44_eq (g:prodL L44) (K X:Kn):F44 g K=qJ D (qQ [(87,rw87)] [(15,true,sp15),(36,false,v8),(86,false,sp86)]) (qw [(87,rw87)]) H44 J44 97 [.tmp 2, .tmp 3] (qz Tryz.f44) (argsT S44 L44 g) [] (settle0 K) X:=by kernel_rfl
theorem F44_ok (g:prodL L44) (K X:Kn) (h:F44 g K):FCalls Tryz.prog 44 (argsT S44 L44 g) [] K X:=
 FCalls.settle0 (qq (Γ:=qQ [(87,rw87)] [(15,true,sp15),(36,false,v8),(86,false,sp86)]) (mu:=qw [(87,rw87)]) (H:=H44) (J:=J44) qh (qX (rs:=[(87,rw87)]) (l:=[(15,true,sp15),(36,false,v8),(86,false,sp86)]) (by intro p hp;simp only [List.mem_cons,List.not_mem_nil,or_false] at hp;subst hp;exact rw87_ok) (by intro p hp;simp only [List.mem_cons,List.not_mem_nil,or_false] at hp;rcases hp with rfl | rfl | rfl<;>first | exact sp15_ok | exact Z2 | exact sp86_ok)) qx rfl Tryz.func44 (c:=qz Tryz.f44) rfl Tryz.ntmps44 Tryz.results44 (by unfold qk;rw [Tryz.func44];kernel_rfl) (Nat.le_of_ble_eq_true (by kernel_rfl)) (c0:=0) (Eq.mp (F44_eq g K X) h))
end Go.Proofs.YtbglndogddddoaaGreatDoor
namespace Go.Proofs.YtbglndogddddoaaGreatDoor
open Go.RowKit
set_option maxRecDepth 100000
def lAt (d:Dig) (l:List Atm) (n:Nat):List Atm:=(l.take n).map (wn d)++l.drop n
theorem lAt_len (d:Dig) (l:List Atm) (n:Nat):(lAt d l n).length=l.length:=by
 unfold lAt
 rw [List.length_append,List.length_map,List.length_take,List.length_drop];omega
theorem lAt_get (d:Dig) {l:List Atm} {n:Nat} (h:n<l.length):(lAt d l n)[n]'(by rw [lAt_len];exact h)=l[n]:=by
 unfold lAt
 rw [List.getElem_append_right (by simp;omega)]
 simp [List.length_take,Nat.min_eq_left (Nat.le_of_lt h)]
theorem lAt_set (d:Dig) {l:List Atm} {n:Nat} (h:n<l.length):(lAt d l n).set n (wn d l[n])=lAt d l (n+1):=by
 unfold lAt
 rw [List.set_append_right _ _ (by simp;omega)]
 simp only [List.length_map,List.length_take,Nat.min_eq_left (Nat.le_of_lt h),Nat.sub_self]
 rw [List.drop_eq_getElem_cons h,List.set_cons_zero,zg h,List.map_append]
 simp
theorem Jd {K:Kn} {W:prodL [.pr .dig, .int .i64, .int .i64, .sl .atm]->Prop} {d:Dig} {i t t2:Int} {l:List Atm} {x:Atm} (hx:x.over.length<=4194304) (hi:0<=i/\i.toNat<l.length)
  (h:W (d,t,IntKind.i64.wrap (t2+1),l.set i.toNat (aJ17 d x),())):JW K W d i t t2 l x:=by
 unfold JW F44_L12
 refine qZ.map x.over (zI d) (fun n out=>(d,i,t,t2,x.over,(x.over.length:Int),n,l,x,out,())) (by omega) rfl (fun V n hn out ho hV=> ?_) fun V=> ?_
 . show QX K W V d i t t2 x.over x.over.length n l x out
   unfold QX
   rw [qH hn,cond_true]
   exact qM hn ⟨trivial,by simp only [List.length_singleton,ho];omega,hV⟩
 . show QX K W V d i t t2 x.over x.over.length x.over.length l x (x.over.map (zI d))
   unfold QX
   rw [qt,cond_false]
   refine ⟨by show (x.over.map (zI d)).length<=_;rw [List.length_map];exact hx, ?_⟩
   unfold F44_J16
   exact ⟨hi.1,hi.2,l[i.toNat],jI hi.2,h⟩
theorem Xu {K:Kn} {W:prodL [.pr .dig, .int .i64, .int .i64, .sl .atm]->Prop} {d:Dig} {i t t2:Int} {l:List Atm} {x:Atm} (hx:x.over.length<=4194304) (hi:0<=i/\i.toNat<l.length)
  (h:W (d,t,IntKind.i64.wrap (t2+1),l.set i.toNat (aJ18 d x),())):Jq K W d i t t2 l x:=by
 unfold Jq
 unfold aJ18 at h
 cases e:decide (x.kind=6)
 . rw [e] at h;exact Jd hx hi h
 . rw [e] at h;exact ⟨trivial,trivial,Jd (by exact hx) hi h⟩
theorem XW {K:Kn} {W:prodL [.pr .dig, .int .i64, .int .i64, .sl .atm]->Prop} {d:Dig} {i t t2:Int} {l:List Atm} {x:Atm} (hx:x.over.length<=4194304) (hi:0<=i/\i.toNat<l.length)
  (h:W (d,t,IntKind.i64.wrap (t2+1),l.set i.toNat (aJ19 d x),())):Jw K W d i t t2 l x:=by
 unfold Jw
 unfold aJ19 at h
 cases e:decide (x.kind=2)
 . rw [e] at h;exact Xu hx hi h
 . rw [e] at h;exact ⟨trivial,Xu (by exact hx) hi h⟩
theorem F44_L3_is {K:Kn} {d:Dig} {l:List Atm} (hl:l.length<=16777216) (hx: ∀x∈l,x.over.length<=4194304) (h:K2 K (l.map (wn d),0)):F44_L3 K (d,(l.length:Int),0,l,()):=by
 unfold F44_L3
 refine qZ.countTo l.length (fun n=>(d,(l.length:Int),(n:Int),lAt d l n,())) (fun _=>True) (by simp [lAt]) (fun n hn _ W hW=> ?_) trivial
 show F44_B3 K W d l.length n (lAt d l n)
 unfold F44_B3
 have hlen:=lAt_len d l n
 by_cases hlt:n<l.length
 . rw [qH hlt,cond_true]
   have hn':((n:Nat):Int).toNat< (lAt d l n).length:=by omega
   refine ⟨by omega,hn', ?_⟩
   have hW:=hW hlt trivial
   rw [<- lAt_set d hlt, <- zU hlt (by omega)] at hW
   refine ⟨l[n],by rw [toN,jI (show n< (lAt d l n).length by omega),lAt_get d hlt],trivial, ?_⟩
   have hxo:=hx l[n] (List.getElem_mem _)
   generalize l[n]=x at hW hxo
   show bif !decide (x.kind=7)then _ else _
   unfold wn at hW
   cases e:decide (x.kind=7)
   . rw [e] at hW
     exact ⟨trivial,XW (by exact hxo) ⟨by omega,hn'⟩ (by rw [toN];exact hW)⟩
   . rw [e] at hW
     exact XW (by exact hxo) ⟨by omega,hn'⟩ (by rw [toN];exact hW)
 . have:n=l.length:=by omega
   subst this
   rw [qt,cond_false]
   have:lAt d l l.length=l.map (wn d):=by unfold lAt;simp
   rw [this];exact h
theorem madeL_over {c:Chg} {n:Int} {x:Atm} (hx:x∈jZ c n):x.over=c.over∨x.over=[]:=by
 unfold jZ madK at hx
 split at hx
 case h_5=>
  rcases List.mem_append.1 hx with hx | hx
  . obtain ⟨i,_,rfl⟩:=List.mem_map.1 hx;exact .inr rfl
  . obtain ⟨i,_,rfl⟩:=List.mem_map.1 hx;exact .inr rfl
 case h_8=>cases hx
 all_goals (rw [List.mem_singleton.1 hx];first | exact .inl rfl | exact .inr rfl)
theorem JL {f:Chg->Int} {r:Chg->List Atm->Int} {Q:List Idn->Prop} (h0:Q []): ∀{cs:List Chg} {own:List Atm},(∀c∈cs,Q c.over)->(∀x∈own,Q x.over)-> ∀x∈(xO f r cs own).1,Q x.over
 | [],own,_,h,x,hx=>h x hx
 | c::l,own,hc,h,x,hx=>by
  rw [xO] at hx
  cases e1:decide (f c=0)
  . rw [e1] at hx;cases hx
  rw [e1] at hx
  cases e2:decide (r c own=0)
  . rw [e2] at hx;cases hx
  rw [e2] at hx
  refine JL h0 (fun d hd=>hc d (List.mem_cons_of_mem _ hd)) (fun y hy=> ?_) x hx
  rcases List.mem_append.1 hy with hy | hy
  . exact h y hy
  . rcases madeL_over hy with e | e
    . rw [e];exact hc c (List.mem_cons_self ..)
    . rw [e];exact h0
theorem Wx {f:Chg->Int} {r:Chg->List Atm->Int} (hk: ∀c,f c=0->jJ c): ∀{cs:List Chg} {own:List Atm},(xO f r cs own).1.length<=own.length+2*(cs.map qf).sum
 | [],own=>by simp [xO]
 | c::l,own=>by
  rw [xO]
  cases e1:decide (f c=0)
  . simp
  cases e2:decide (r c own=0)
  . simp
  simp only [Bool.not_true,cond_false]
  have h1:=Wx (r:=r) hk (cs:=l) (own:=own++jZ c own.length)
  have h2:=madeL_le (n:=(own.length:Int)) (hk c (of_decide_eq_true e1))
  rw [List.length_append] at h1
  simp only [List.map_cons,List.sum_cons]
  omega
theorem exP_atoms {a m:ByteArray} {t:Int} {ds:List Dig} {cs:List Chg}:(jQ a m t ds cs).1=(yP cs).1∨(jQ a m t ds cs).1=[]:=by
 unfold jQ
 cases decide (xG zD a m t ds cs=0)
 . exact .inr rfl
 . simp only [Bool.not_true,cond_false]
   unfold kM
   cases decide ((yP cs).2=0)
   . exact .inr rfl
   . simp only [Bool.not_true,cond_false]
     unfold exP5
     generalize (bif !decide ((wL (jV a m t (jA ds) cs)).2=0)then true else decide (65536< ((wL (jV a m t (jA ds) cs)).1.size:Int)))=b
     cases b
     . exact .inl rfl
     . exact .inr rfl
theorem exP_lens {a m:ByteArray} {t:Int} {ds:List Dig} {cs:List Chg} (hp:xP a m t ds cs):(jQ a m t ds cs).1.length<=16777216/\ ∀x∈(jQ a m t ds cs).1,x.over.length<=4194304:=by
 have h5:=hp.2.2.2.2.1
 rcases exP_atoms (a:=a) (m:=m) (t:=t) (ds:=ds) (cs:=cs)with e | e
 . rw [e]
   refine ⟨?_, ?_⟩
   . have:=Wx (f:=jH) (r:=QE) (fun c=>zC) (cs:=cs) (own:=[])
     unfold yP
     simp only [List.length_nil] at this
     omega
   . exact JL (Q:=fun l=>l.length<=4194304) (by simp) (fun c hc=>(zF (ZJ h5 hc)).2.2.2.2) (fun x hx=>by cases hx)
 . rw [e]
   exact ⟨by simp,fun x hx=>by cases hx⟩
theorem F44_is {a m:ByteArray} {t:Int} {ds:List Dig} {cs:List Chg} {K:Kn} (hp:xP a m t ds cs) (h:K2 K (jD a m t ds cs)):F44 (a,m,t,ds,cs,()) (kB K):=by
 have hl:=exP_lens hp
 unfold F44
 unfold jD at h
 refine ⟨hp, ?_⟩
 show bif !decide ((jQ a m t ds cs).2.2=0)then _ else _
 cases e1:decide ((jQ a m t ds cs).2.2=0)
 . rw [e1] at h;exact Kh h
 rw [e1] at h
 rw [Bool.not_true,cond_false] at h ⊢
 refine ⟨hp, ?_⟩
 show bif !decide ((X3 a m t ds cs).2=0)then _ else _
 cases e2:decide ((X3 a m t ds cs).2=0)
 . rw [e2] at h;exact Kh h
 rw [e2] at h
 exact F44_L3_is hl.1 hl.2 (kB.same h)
def sp44:Sp:=⟨S44,L44,fun g=>xP g.1 g.2.1 g.2.2.1 g.2.2.2.1 g.2.2.2.2.1,fun g=> .tu [.sl false .atm (jD g.1 g.2.1 g.2.2.1 g.2.2.2.1 g.2.2.2.2.1).1, .int .i64 (jD g.1 g.2.1 g.2.2.1 g.2.2.2.1 g.2.2.2.2.1).2],fun _=>none⟩
theorem sp44_ok:sp44.Ok Tryz.prog 44 false:=
 ⟨fun g K X hp h=>FCalls.weak (F44_ok g (kB K) X (F44_is hp h)),fun _ _ _=>rfl,fun _=>rfl,fun h=>(by cases h)⟩
set_option maxRecDepth 100000
def zY:List Chg:=[⟨1,iz,1,iz,⟨#[]⟩,0,⟨#[]⟩,iz,iz,[],[]⟩,⟨2,iz,0,⟨dz, -1⟩,⟨#[102]⟩,0,⟨#[]⟩,iz,iz,[],[]⟩,⟨5,iz,0,iz,⟨#[]⟩,0,⟨#[]⟩,iz,iz,[⟨#[120]⟩],[]⟩]
def X7:ByteArray:=⟨#[97,110,110]⟩
def greatC (c:Chg):Bool:=bif Q1 c.lines then true else decide (40< (c.over.length:Int))
def we (cs:List Chg):Nat:=(cs.map fun c=>c.name.size+c.data.size).sum
def Wn (n:Nat) (ds:List Dig) (cs:List Chg):Bool:=bif decide (3000< (n:Int))then true else bif decide (20< (ds.length:Int))then true else decide (20< (cs.length:Int))
def Q6 (a m:ByteArray) (t:Int) (ds:List Dig) (cs:List Chg):Bool:=bif cs.all (fun c=> !greatC c)then Wn (a.size+m.size+we cs) ds cs else true
end Go.Proofs.YtbglndogddddoaaGreatDoor
namespace Go.Proofs.YtbglndogddddoaaGreatDoor
open Go.RowKit
attribute [local irreducible] qJ qd
set_option maxRecDepth 100000
def H25:List (Nat×Hint):=[]
def J25:List (Nat×Hint):=[]
abbrev S25:List Sh:=[.ag [.leaf, .leaf, .leaf, .leaf, .leaf]]
abbrev L25:List Lf:=[.str, .str, .int .i64, .sl .dig, .sl .chg]
def F25 (g:prodL L25) (K:Kn):Prop:=
 sp44.pre (g.1,g.2.1,g.2.2.1,g.2.2.2.1,g.2.2.2.2.1,())/\
 K (.tu [.sl false .atm ((jD g.1 g.2.1 g.2.2.1 g.2.2.2.1 g.2.2.2.2.1).1), .int .i64 ((jD g.1 g.2.1 g.2.2.1 g.2.2.2.1 g.2.2.2.2.1).2)]) []
theorem F25_eq (g:prodL L25) (K X:Kn):F25 g K=qJ D (qQ [] [(44,false,sp44)]) (qw []) H25 J25 13 [.tmp 2, .tmp 3] (qz Tryz.f25) (argsT S25 L25 g) [] (settle0 K) X:=by kernel_rfl
theorem F25_ok (g:prodL L25) (K X:Kn) (h:F25 g K):FCalls Tryz.prog 25 (argsT S25 L25 g) [] K X:=
 FCalls.settle0 (qq (Γ:=qQ [] [(44,false,sp44)]) (mu:=qw []) (H:=H25) (J:=J25) qh (qX (rs:=[]) (l:=[(44,false,sp44)]) (fun p hp=>by cases hp) (by intro p hp;simp only [List.mem_cons,List.not_mem_nil,or_false] at hp;subst hp;exact sp44_ok)) qx rfl Tryz.func25 (c:=qz Tryz.f25) rfl Tryz.ntmps25 Tryz.results25 (by unfold qk;rw [Tryz.func25];kernel_rfl) (Nat.le_of_ble_eq_true (by kernel_rfl)) (c0:=0) (Eq.mp (F25_eq g K X) h))
def sp25:Sp:=⟨S25,L25,fun g=>sp44.pre g,fun g=> .tu [.sl false .atm ((jD g.1 g.2.1 g.2.2.1 g.2.2.2.1 g.2.2.2.2.1).1), .int .i64 ((jD g.1 g.2.1 g.2.2.1 g.2.2.2.1 g.2.2.2.2.1).2)],fun _=>none⟩
theorem sp25_ok:sp25.Ok Tryz.prog 25 false:=
 ⟨fun g K X hp h=>F25_ok g K X (by
  have h:K (.tu [.sl false .atm ((jD g.1 g.2.1 g.2.2.1 g.2.2.2.1 g.2.2.2.2.1).1), .int .i64 ((jD g.1 g.2.1 g.2.2.1 g.2.2.2.1 g.2.2.2.2.1).2)]) []:=h
  exact ⟨hp,h⟩),fun _ _ _=>rfl,fun _=>rfl,by first | exact fun _ _=>⟨rfl,rfl⟩ | (intro h;cases h)⟩
def H35:List (Nat×Hint):=[]
def J35:List (Nat×Hint):=[]
abbrev S35:List Sh:=[]
abbrev L35:List Lf:=[]
def F35 (g:prodL L35) (K:Kn):Prop:=
 True/\
 K (.ag [.str (⟨#[97,110,110]⟩:ByteArray), .str (⟨#[]⟩:ByteArray), .int .i64 5, .nil, .sl true .chg [(⟨1,iz,1,iz,(⟨#[]⟩:ByteArray),0,(⟨#[]⟩:ByteArray),iz,iz,[],[]⟩:Chg),(⟨2,iz,0,⟨dz, -1⟩,(⟨#[102]⟩:ByteArray),0,(⟨#[]⟩:ByteArray),iz,iz,[],[]⟩:Chg),(⟨5,iz,0,iz,(⟨#[]⟩:ByteArray),0,(⟨#[]⟩:ByteArray),iz,iz,[(⟨#[120]⟩:ByteArray)],[]⟩:Chg)]]) []
theorem F35_eq (g:prodL L35) (K X:Kn):F35 g K=qJ D (qQ [] [(28,false,sp28)]) (qw []) H35 J35 8 [.cell 0 25] (qz Tryz.f35) (argsT S35 L35 g) [] (settle0 K) X:=by kernel_rfl
theorem F35_ok (g:prodL L35) (K X:Kn) (h:F35 g K):FCalls Tryz.prog 35 (argsT S35 L35 g) [] K X:=
 FCalls.settle0 (qq (Γ:=qQ [] [(28,false,sp28)]) (mu:=qw []) (H:=H35) (J:=J35) qh (qX (rs:=[]) (l:=[(28,false,sp28)]) (fun p hp=>by cases hp) (by intro p hp;simp only [List.mem_cons,List.not_mem_nil,or_false] at hp;subst hp;exact sp28_ok)) qx rfl Tryz.func35 (c:=qz Tryz.f35) rfl Tryz.ntmps35 Tryz.results35 (by unfold qk;rw [Tryz.func35];kernel_rfl) (Nat.le_of_ble_eq_true (by kernel_rfl)) (c0:=0) (Eq.mp (F35_eq g K X) h))
def H11:List (Nat×Hint):=[(3,⟨[((1,[]),none)],[(1, .pt 0 0),(3, .leaf),(4, .leaf)],[.cells [.leaf, .leaf, .leaf, .leaf, .leaf]],[.int .i64, .int .i64, .str, .str, .int .i64, .sl .dig, .sl .chg]⟩)]
def J11:List (Nat×Hint):=[(7,⟨[((1,[]),none),((5,[]),none)],[(1, .pt 0 0),(3, .leaf),(4, .leaf),(5, .pt 1 0),(33, .leaf)],[.cells [.leaf, .leaf, .leaf, .leaf, .leaf], .el],[.int .i64, .int .i64, .bool, .str, .str, .int .i64, .sl .dig, .sl .chg, .el .chg]⟩)]
abbrev S11:List Sh:=[.ag [.leaf, .leaf, .leaf, .leaf, .leaf]]
abbrev L11:List Lf:=[.str, .str, .int .i64, .sl .dig, .sl .chg]
def YS (K:Kn) (W2:prodL [.int .i64, .int .i64, .str, .str, .int .i64, .sl .dig, .sl .chg]->Prop) (n_4 i_4:Int) (t_4:Bool) (p1_4 p2_4:ByteArray) (p3_4:Int) (p4_4:List Dig) (p5_4:List Chg) (c_4:Chg):Prop:=
 bif t_4 then (
  K (.bool true) [])
 else (
  W2 (IntKind.i64.wrap ((IntKind.i64.wrap (n_4+(c_4.name.size:Int)))+(c_4.data.size:Int)),IntKind.i64.wrap (i_4+1),p1_4,p2_4,p3_4,p4_4,p5_4,()))
def Xa (K:Kn) (W2:prodL [.int .i64, .int .i64, .str, .str, .int .i64, .sl .dig, .sl .chg]->Prop) (n_1 i_1:Int) (p1_1 p2_1:ByteArray) (p3_1:Int) (p4_1:List Dig) (p5_1:List Chg):Prop:=
 bif decide (i_1< (p5_1.length:Int))then (
  At p5_1 i_1 fun u3=>
 sp34.pre (u3.lines,())/\
 bif Q1 u3.lines then (
  YS K W2 n_1 i_1 true p1_1 p2_1 p3_1 p4_1 p5_1 u3)
 else (
  YS K W2 n_1 i_1 (decide (40< (u3.over.length:Int))) p1_1 p2_1 p3_1 p4_1 p5_1 u3))
 else (
  bif decide (3000<n_1)then (
  K (.bool true) [])
 else (
  bif decide (20< (p4_1.length:Int))then (
   K (.bool true) [])
  else (
   K (.bool (decide (20< (p5_1.length:Int)))) [])))
def F11_L2 (K:Kn) (g:prodL [.int .i64, .int .i64, .str, .str, .int .i64, .sl .dig, .sl .chg]):Prop:=
 qZ (γ:=prodL [.int .i64, .int .i64, .str, .str, .int .i64, .sl .dig, .sl .chg]) (fun V y=>Xa K V y.1 y.2.1 y.2.2.1 y.2.2.2.1 y.2.2.2.2.1 y.2.2.2.2.2.1 y.2.2.2.2.2.2.1) g
def F11 (g:prodL L11) (K:Kn):Prop:=
 F11_L2 K (IntKind.i64.wrap ((g.1.size:Int)+(g.2.1.size:Int)),0,g.1,g.2.1,g.2.2.1,g.2.2.2.1,g.2.2.2.2.1,())
theorem F11_eq (g:prodL L11) (K X:Kn):F11 g K=qJ D (qQ [] [(34,true,sp34)]) (qw []) H11 J11 57 [.tmp 2] (qz Tryz.f11) (argsT S11 L11 g) [] (settle0 K) X:=by kernel_rfl
theorem F11_ok (g:prodL L11) (K X:Kn) (h:F11 g K):FCalls Tryz.prog 11 (argsT S11 L11 g) [] K X:=
 FCalls.settle0 (qq (Γ:=qQ [] [(34,true,sp34)]) (mu:=qw []) (H:=H11) (J:=J11) qh (qX (rs:=[]) (l:=[(34,true,sp34)]) (fun p hp=>by cases hp) (by intro p hp;simp only [List.mem_cons,List.not_mem_nil,or_false] at hp;subst hp;exact sp34_ok)) qx rfl Tryz.func11 (c:=qz Tryz.f11) rfl Tryz.ntmps11 Tryz.results11 (by unfold qk;rw [Tryz.func11];kernel_rfl) (Nat.le_of_ble_eq_true (by kernel_rfl)) (c0:=0) (Eq.mp (F11_eq g K X) h))
end Go.Proofs.YtbglndogddddoaaGreatDoor
namespace Go.Proofs.YtbglndogddddoaaGreatDoor
open Go.RowKit
set_option maxRecDepth 100000
def sp35:Sp:=⟨S35,L35,fun _=>True,fun _=> .ag [.str ⟨#[97,110,110]⟩, .str ⟨#[]⟩, .int .i64 5, .sl false .dig [], .sl false .chg zY],fun _=>none⟩
theorem sp35_ok:sp35.Ok Tryz.prog 35 false:=
 ⟨fun g K X _ h=>FCalls.weak (F35_ok g (kB K) X ⟨trivial,_,zM.ag (qO.cons (zM.refl _) (qO.cons (zM.refl _) (qO.cons (zM.refl _) (qO.cons (zM.nil .dig) (qO.cons (zM.sl true .chg _) qO.nil))))),h⟩),fun _ _ _=>rfl,fun _=>rfl,fun h=>(by cases h)⟩
theorem gsum_take {cs:List Chg} {n:Nat} (h:n<cs.length):we (cs.take (n+1))=we (cs.take n)+(cs[n].name.size+cs[n].data.size):=by
 unfold we
 rw [zg h,List.map_append,List.sum_append];simp
theorem gsum_le {cs:List Chg} (h:(cs.map qf).sum<=4194304) (n:Nat):we (cs.take n)<=4194304:=by
 have h1: ∀l:List Chg,we l<=(l.map qf).sum:=fun l=>by
  induction l with
  | nil=>simp [we]
  | cons c l ih=>
   unfold we at ih ⊢
   simp only [List.map_cons,List.sum_cons]
   have hb:c.name.size+c.data.size<=qf c:=by unfold qf;omega
   omega
 have e:(cs.map qf).sum=((cs.take n).map qf).sum+((cs.drop n).map qf).sum:=by
  rw [<- List.sum_append, <- List.map_append,List.take_append_drop]
 have:=h1 (cs.take n)
 omega
theorem lines_sumP {c:Chg} (h:qf c<=2097152):sumP c.lines:=by
 unfold sumP
 unfold qf at h
 omega
theorem F11_is {a m:ByteArray} {t:Int} {ds:List Dig} {cs:List Chg} {K:Kn} (hp:xP a m t ds cs) (hp2:(cs.map qf).sum<=2097152) (h:KBo K (Q6 a m t ds cs)):F11 (a,m,t,ds,cs,()) K:=by
 obtain ⟨h1,h2,h3,h4,h5,h6⟩:=hp
 have hl:=Q8 h5
 unfold F11 F11_L2
 unfold Q6 at h
 rw [qqd] at h
 refine qZ.all cs.length (fun n=>(((a.size+m.size+we (cs.take n):Nat):Int),(n:Int),a,m,t,ds,cs,())) (fun n=>(cs[n]?).all fun c=> !greatC c) (fun r=>KBo K (bif r then Wn (a.size+m.size+we cs) ds cs else true)) h (by show (IntKind.i64.wrap ((a.size:Int)+(m.size:Int)),_)=_;rw [w64 (by omega)];simp [we]) (fun W n hn ht hf=> ?_) fun ht W=> ?_
 . show Xa K W ((a.size+m.size+we (cs.take n):Nat):Int) n a m t ds cs
   unfold Xa
   rw [qH hn,cond_true]
   have hm:=List.getElem_mem hn
   have hs:=gsum_le h5 n
   have hs1:=gsum_le h5 (n+1)
   rw [gsum_take hn] at hs1 ht
   simp only [jI hn,Option.all_some] at ht hf
   refine qM hn ⟨lines_sumP (Nat.le_trans (Qz qf hm) hp2), ?_⟩
   generalize cs[n]=c at hs1 ht hf ⊢
   have hJ: ∀b,(b=false->W (((a.size+m.size+(we (cs.take n)+(c.name.size+c.data.size)):Nat):Int),((n+1:Nat):Int),a,m,t,ds,cs,()))->(b=true->KBo K true)->YS K W ((a.size+m.size+we (cs.take n):Nat):Int) n b a m t ds cs c:=by
    intro b hb1 hb2
    unfold YS
    cases b
    . have:=hb1 rfl
      rw [cond_false,zU hn (by omega),w64 (n:=((a.size+m.size+we (cs.take n):Nat):Int)+(c.name.size:Int)) (by omega),w64 (by omega)]
      rw [show ((a.size+m.size+(we (cs.take n)+(c.name.size+c.data.size)):Nat):Int)=((a.size+m.size+we (cs.take n):Nat):Int)+(c.name.size:Int)+(c.data.size:Int)by omega] at this
      exact this
    . exact hb2 rfl
   unfold greatC at ht hf
   cases e:Q1 c.lines
   . rw [e] at ht hf
     exact hJ _ (fun e2=>ht (by rw [e2];rfl)) (fun e2=>hf (by rw [e2];rfl))
   . rw [e] at hf
     exact hJ true (fun e=>by cases e) (fun _=>hf rfl)
 . show Xa K W ((a.size+m.size+we (cs.take cs.length):Nat):Int) cs.length a m t ds cs
   unfold Xa
   rw [qt,cond_false,List.take_length]
   have ht:KBo K (Wn (a.size+m.size+we cs) ds cs):=ht
   unfold Wn at ht
   exact ju (K:=KBo K) id (ju (K:=KBo K) id id) ht
def sp11:Sp:=⟨S11,L11,fun g=>xP g.1 g.2.1 g.2.2.1 g.2.2.2.1 g.2.2.2.2.1/\(g.2.2.2.2.1.map qf).sum<=2097152,fun g=> .bool (Q6 g.1 g.2.1 g.2.2.1 g.2.2.2.1 g.2.2.2.2.1),fun _=>none⟩
theorem sp11_ok:sp11.Ok Tryz.prog 11 true:=
 ⟨fun g K X hp h=>F11_ok g K X (F11_is hp.1 hp.2 h),fun _ _ _=>rfl,fun _=>rfl,fun _ _=>⟨rfl,rfl⟩⟩
theorem chgsS:yP zY=([⟨yI 0,1,yI 0,1,iz,⟨#[]⟩,0,⟨#[]⟩,⟨#[]⟩,iz,iz,[]⟩,⟨yI 1,2,iz,0,⟨dz, -1⟩,⟨#[102]⟩,0,⟨#[]⟩,⟨#[]⟩,iz,iz,[]⟩,
 ⟨yI 2,5,iz,0,iz,⟨#[]⟩,0,⟨#[]⟩,⟨#[120]⟩,iz,iz,[]⟩,⟨yI 3,6,iz,0,iz,⟨#[]⟩,0,⟨#[]⟩,⟨#[]⟩,iz,yI 2,[]⟩,⟨yI 4,6,iz,0,iz,⟨#[]⟩,0,⟨#[]⟩,⟨#[]⟩,yI 2,iz,[]⟩],0):=by kernel_rfl
theorem headS:xG zD X7 ⟨#[]⟩ 5 [] zY=0:=by kernel_rfl
theorem num1 {n:Nat} (h:n<10):zE (n:Int)=qp ⟨#[UInt8.ofNat (48+n)]⟩:=by
 unfold zE yL
 rw [if_neg (by omega),decB_one h];rfl
theorem numM:zE (-1)=qp ⟨#[45,49]⟩:=by
 unfold zE yL
 rw [if_neg (by omega)]
 show (⟨false,wo (-1),[]⟩:Sx)=_
 have:wo (-1)=⟨#[45,49]⟩:=by
  unfold wo Lib.itoa
  rw [if_pos (by omega),show (-1:Int).natAbs=1 from rfl,Lib.decDigits_one (by omega)];rfl
 rw [this];rfl
def Ya:Sx:=qU [qp Xe,qp X7,qp ⟨#[]⟩,qp ⟨#[53]⟩,qU [],qU [
 qU [qp ⟨#[49]⟩,qp ⟨#[49]⟩],
 qU [qp ⟨#[50]⟩,qU [qp ⟨#[]⟩,qp ⟨#[48]⟩],qU [qp ⟨#[]⟩,qp ⟨#[45,49]⟩],qp ⟨#[102]⟩,qU []],
 qU [qp ⟨#[53]⟩,qU [qp ⟨#[]⟩,qp ⟨#[48]⟩],qU [qp ⟨#[]⟩,qp ⟨#[48]⟩],qU [qp ⟨#[]⟩,qp ⟨#[48]⟩],qU [qp ⟨#[120]⟩]]]]
theorem patS:jV X7 ⟨#[]⟩ 5 (jA []) zY=Ya:=by
 have n0:=num1 (n:=0) (by omega)
 have n1:=num1 (n:=1) (by omega)
 have n2:=num1 (n:=2) (by omega)
 have n5:=num1 (n:=5) (by omega)
 have hz:digX dz=qp ⟨#[]⟩:=by kernel_rfl
 have i0:jp iz=qU [qp ⟨#[]⟩,qp ⟨#[48]⟩]:=by
  show qU [digX dz,zE ((0:Nat):Int)]=_
  rw [hz,n0];rfl
 have iM:jp ⟨dz, -1⟩=qU [qp ⟨#[]⟩,qp ⟨#[45,49]⟩]:=by
  show qU [digX dz,zE (-1)]=_
  rw [hz,numM]
 have e:jV X7 ⟨#[]⟩ 5 (jA []) zY=qU [qp Xe,qp X7,qp ⟨#[]⟩,zE ((5:Nat):Int),qU [],qU [
  qU [zE ((1:Nat):Int),zE ((1:Nat):Int)],
  qU [zE ((2:Nat):Int),jp iz,jp ⟨dz, -1⟩,qp ⟨#[102]⟩,qU []],
  qU [zE ((5:Nat):Int),jp iz,jp iz,jp iz,qU [qp ⟨#[120]⟩]]]]:=rfl
 rw [e,n1,n2,n5,i0,iM];rfl
theorem jK {s:ByteArray} (n:Nat) (hs:s.size=n) (hn:n<10):Xn (qp s)=⟨#[UInt8.ofNat (48+n)]⟩++⟨#[58]⟩++s:=by
 unfold qp
 rw [Xn,if_pos rfl,hs,decB_one hn]
theorem enc_list (l:List Sx):Xn (qU l)=XD l ⟨#[40]⟩++⟨#[41]⟩:=by
 unfold qU
 rw [Xn,if_neg (by simp)]
def xD:ByteArray:=⟨#[40,54,58,113,117,105,108,116,49,51,58,97,110,110,48,58,49,58,53,40,41,40,40,49,58,49,49,58,49,41,40,49,58,50,40,48,58,49,58,48,41,40,48,58,50,58,45,49,41,49,58,102,40,41,41,40,49,58,53,40,48,58,49,58,48,41,40,48,58,49,58,48,41,40,48,58,49,58,48,41,40,49,58,120,41,41,41,41]⟩
theorem encS:Xn Ya=xD:=by
 unfold Ya
 simp only [enc_list,XD,jK (s:=Xe) 6 rfl (by omega),jK (s:=X7) 3 rfl (by omega),jK (s:=⟨#[]⟩) 0 rfl (by omega),jK (s:=⟨#[48]⟩) 1 rfl (by omega),jK (s:=⟨#[49]⟩) 1 rfl (by omega),jK (s:=⟨#[50]⟩) 1 rfl (by omega),jK (s:=⟨#[53]⟩) 1 rfl (by omega),jK (s:=⟨#[102]⟩) 1 rfl (by omega),jK (s:=⟨#[120]⟩) 1 rfl (by omega),jK (s:=⟨#[45,49]⟩) 2 rfl (by omega)]
 rfl
theorem enTS:wL (jV X7 ⟨#[]⟩ 5 (jA []) zY)=(xD,0):=by
 rw [patS]
 have h:ckG Ya=0:=by kernel_rfl
 unfold wL
 rw [if_pos h,encS]
end Go.Proofs.YtbglndogddddoaaGreatDoor
namespace Go.Proofs.YtbglndogddddoaaGreatDoor
open Go.RowKit
attribute [local irreducible] qJ qd
set_option maxRecDepth 100000
def H12:List (Nat×Hint):=[(6,⟨[],[(3, .leaf),(32, .leaf),(33, .leaf),(34, .leaf)],[],[.sl .atm, .sl .i64, .int .i64, .int .i64]⟩)]
def J12:List (Nat×Hint):=[(4,⟨[],[(3, .leaf),(31, .leaf)],[],[.sl .atm, .bool]⟩),(9,⟨[],[(3, .leaf),(32, .leaf),(33, .leaf),(34, .leaf),(55, .leaf)],[],[.sl .atm, .sl .i64, .int .i64, .int .i64, .bool]⟩)]
abbrev S12:List Sh:=[]
abbrev L12:List Lf:=[]
def F12_J9 (K:Kn) (W4:prodL [.sl .atm, .sl .i64, .int .i64, .int .i64]->Prop) (l_8:List Atm) (t_8:List Int) (t2_8 t3_8:Int) (t4_8:Bool):Prop:=
 bif t4_8 then (
  K (.bool false) [])
 else (
  W4 (l_8,t_8,t2_8,IntKind.i64.wrap (t3_8+1),()))
def F12_B4 (K:Kn) (W4:prodL [.sl .atm, .sl .i64, .int .i64, .int .i64]->Prop) (l_3:List Atm) (t_3:List Int) (t2_3 t3_3:Int):Prop:=
 bif decide (t3_3<t2_3)then (
  At t_3 t3_3 fun u5=>
 At l_3 t3_3 fun u6=>
 bif !decide (u6.kind=u5)then (
  F12_J9 K W4 l_3 t_3 t2_3 t3_3 true)
 else (
  At l_3 t3_3 fun u7=>
  F12_J9 K W4 l_3 t_3 t2_3 t3_3 (!decide (u7.id.n=t3_3))))
 else (
  At l_3 3 fun u10=>
 At l_3 0 fun u11=>
 bif zy u10.frm u11.id then (
  At l_3 3 fun u12=>
  At l_3 2 fun u13=>
  bif zy u12.til u13.id then (
   At l_3 4 fun u14=>
   At l_3 2 fun u15=>
   bif zy u14.frm u15.id then (
    At l_3 4 fun u16=>
    At l_3 0 fun u17=>
    K (.bool (zy u16.til u17.id)) [])
   else (
    K (.bool false) []))
  else (
   K (.bool false) []))
 else (
  K (.bool false) []))
def F12_L4 (K:Kn) (g:prodL [.sl .atm, .sl .i64, .int .i64, .int .i64]):Prop:=
 qZ (γ:=prodL [.sl .atm, .sl .i64, .int .i64, .int .i64]) (fun V y=>F12_B4 K V y.1 y.2.1 y.2.2.1 y.2.2.2.1) g
def Xw (K:Kn) (l_1:List Atm) (t_1:Bool):Prop:=
 bif t_1 then (
  K (.bool false) [])
 else (
  F12_L4 K (l_1,[1,2,5,6,6],(([1,2,5,6,6].length:Nat):Int),0,()))
def F12 (g:prodL L12) (K:Kn):Prop:=
 True/\
 sp13.pre ((⟨#[97,110,110]⟩:ByteArray),(⟨#[]⟩:ByteArray),5,[],zY,())/\
 True/\
 sp25.pre ((⟨#[97,110,110]⟩:ByteArray),(⟨#[]⟩:ByteArray),5,[],zY,())/\
 bif !decide ((jQ (⟨#[97,110,110]⟩:ByteArray) (⟨#[]⟩:ByteArray) 5 [] zY).2.2=0)then (
  Xw K ((jD (⟨#[97,110,110]⟩:ByteArray) (⟨#[]⟩:ByteArray) 5 [] zY).1) true)
 else (
  bif !decide ((jD (⟨#[97,110,110]⟩:ByteArray) (⟨#[]⟩:ByteArray) 5 [] zY).2=0)then (
   Xw K ((jD (⟨#[97,110,110]⟩:ByteArray) (⟨#[]⟩:ByteArray) 5 [] zY).1) true)
  else (
   bif !decide ((jQ (⟨#[97,110,110]⟩:ByteArray) (⟨#[]⟩:ByteArray) 5 [] zY).2.1=(⟨#[40,54,58,113,117,105,108,116,49,51,58,97,110,110,48,58,49,58,53,40,41,40,40,49,58,49,49,58,49,41,40,49,58,50,40,48,58,49,58,48,41,40,48,58,50,58,45,49,41,49,58,102,40,41,41,40,49,58,53,40,48,58,49,58,48,41,40,48,58,49,58,48,41,40,48,58,49,58,48,41,40,49,58,120,41,41,41,41]⟩:ByteArray))then (
    Xw K ((jD (⟨#[97,110,110]⟩:ByteArray) (⟨#[]⟩:ByteArray) 5 [] zY).1) true)
   else (
    Xw K ((jD (⟨#[97,110,110]⟩:ByteArray) (⟨#[]⟩:ByteArray) 5 [] zY).1) (!decide (((((jD (⟨#[97,110,110]⟩:ByteArray) (⟨#[]⟩:ByteArray) 5 [] zY).1).length:Nat):Int)=5)))))
theorem F12_eq (g:prodL L12) (K X:Kn):F12 g K=qJ D (qQ [] [(13,true,sp13),(25,false,sp25),(35,false,sp35)]) (qw []) H12 J12 99 [.tmp 0] (qz Tryz.f12) (argsT S12 L12 g) [] (settle0 K) X:=by kernel_rfl
theorem F12_ok (g:prodL L12) (K X:Kn) (h:F12 g K):FCalls Tryz.prog 12 (argsT S12 L12 g) [] K X:=
 FCalls.settle0 (qq qh (wQ (vf sp13_ok (vf sp25_ok (vf sp35_ok wZ)))) qx rfl Tryz.func12 (c:=qz Tryz.f12) rfl Tryz.ntmps12 Tryz.results12 (by unfold qk;rw [Tryz.func12];kernel_rfl) (Nat.le_of_ble_eq_true (by kernel_rfl)) (c0:=0) (Eq.mp (F12_eq g K X) h))
end Go.Proofs.YtbglndogddddoaaGreatDoor
namespace Go.Proofs.YtbglndogddddoaaGreatDoor
open Go.RowKit
set_option maxRecDepth 100000
def atS:List Atm:=[⟨yI 0,1,yI 0,1,iz,⟨#[]⟩,0,⟨#[]⟩,⟨#[]⟩,iz,iz,[]⟩,⟨yI 1,2,iz,0,⟨dz, -1⟩,⟨#[102]⟩,0,⟨#[]⟩,⟨#[]⟩,iz,iz,[]⟩,
 ⟨yI 2,5,iz,0,iz,⟨#[]⟩,0,⟨#[]⟩,⟨#[120]⟩,iz,iz,[]⟩,⟨yI 3,6,iz,0,iz,⟨#[]⟩,0,⟨#[]⟩,⟨#[]⟩,iz,yI 2,[]⟩,⟨yI 4,6,iz,0,iz,⟨#[]⟩,0,⟨#[]⟩,⟨#[]⟩,yI 2,iz,[]⟩]
def lS (d:Dig):List Atm:=atS.map (wn d)
theorem exS:jQ X7 ⟨#[]⟩ 5 [] zY=(atS,xD,0):=by
 unfold jQ
 rw [headS,chgsS,enTS]
 rfl
theorem atmS:jD X7 ⟨#[]⟩ 5 [] zY=(lS (X2 xD),0):=by
 unfold jD X3
 rw [exS]
 rfl
theorem xS:xP X7 ⟨#[]⟩ 5 [] zY:=by
 have i: ∀n:Int, -10<=n/\n<=100->j6 n:=fun n h=>⟨by omega,by omega⟩
 refine ⟨i 5 (by omega),Nat.le_of_ble_eq_true rfl,Nat.le_of_ble_eq_true rfl,Nat.le_of_ble_eq_true rfl,Nat.le_of_ble_eq_true rfl,fun c hc=> ?_⟩
 simp only [zY,List.mem_cons,List.not_mem_nil,or_false] at hc
 rcases hc with rfl | rfl | rfl<;>exact ⟨i _ (by decide),i _ (by decide),i _ (by decide),i _ (by decide),i _ (by decide),i _ (by decide),fun x hx=>by cases hx⟩
theorem kS (d:Dig):(lS d).map Atm.kind=[1,2,5,6,6]:=by kernel_rfl
theorem nS (d:Dig):(lS d).map (fun x=>x.id.n)=[0,1,2,3,4]:=by kernel_rfl
theorem lS_len (d:Dig):(lS d).length=5:=rfl
theorem refS (d:Dig):((lS d).getD 3 az).frm=((lS d).getD 0 az).id/\((lS d).getD 3 az).til=((lS d).getD 2 az).id/\((lS d).getD 4 az).frm=((lS d).getD 2 az).id/\((lS d).getD 4 az).til=((lS d).getD 0 az).id:=⟨by kernel_rfl,by kernel_rfl,by kernel_rfl,by kernel_rfl⟩
theorem F12_L4_is {d:Dig} {K:Kn} (h:KBo K true):F12_L4 K (lS d,[1,2,5,6,6],(([1,2,5,6,6].length:Nat):Int),0,()):=by
 have hk:=kS d
 have hn:=nS d
 have hl:=lS_len d
 obtain ⟨r1,r2,r3,r4⟩:=refS d
 generalize lS d=l at hk hn hl r1 r2 r3 r4
 unfold F12_L4
 refine qZ.countTo 5 (fun n=>(l,[1,2,5,6,6],((5:Nat):Int),(n:Int),())) (fun _=>True) rfl (fun n hn5 _ W hW=> ?_) trivial
 show F12_B4 K W l [1,2,5,6,6] ((5:Nat):Int) n
 unfold F12_B4
 by_cases hlt:n<5
 . rw [qH hlt,cond_true]
   have h5:n< ([1,2,5,6,6]:List Int).length:=hlt
   have hln:n<l.length:=by omega
   have e1:l[n].kind=([1,2,5,6,6]:List Int)[n]:=by
    have:(l.map Atm.kind)[n]? =([1,2,5,6,6]:List Int)[n]? :=by rw [hk]
    rw [List.getElem?_map,jI hln,jI h5] at this
    exact Option.some.inj this
   have e2:l[n].id.n=(n:Int):=by
    have:(l.map (fun x=>x.id.n))[n]? =([0,1,2,3,4]:List Int)[n]? :=by rw [hn]
    rw [List.getElem?_map,jI hln] at this
    have h3:n=0∨n=1∨n=2∨n=3∨n=4:=by omega
    have:=Option.some.inj (this.trans (show ([0,1,2,3,4]:List Int)[n]? =some (n:Int)by rcases h3 with rfl | rfl | rfl | rfl | rfl<;>rfl))
    exact this
   refine qM h5 (qM hln ?_)
   rw [decide_eq_true e1,Bool.not_true,cond_false]
   refine qM hln ?_
   rw [decide_eq_true e2,Bool.not_true]
   unfold F12_J9
   rw [cond_false,zU hlt (by omega)]
   exact hW hlt trivial
 . have:n=5:=by omega
   subst this
   rw [qt,cond_false]
   have at3: ∀{Q:Atm->Prop},Q (l.getD 3 az)->At l 3 Q:=fun hQ=>qM (n:=3) (by omega) (by rwa [List.getD_eq_getElem?_getD,jI (show 3<l.length by omega)] at hQ)
   have at0: ∀{Q:Atm->Prop},Q (l.getD 0 az)->At l 0 Q:=fun hQ=>qM (n:=0) (by omega) (by rwa [List.getD_eq_getElem?_getD,jI (show 0<l.length by omega)] at hQ)
   have at2: ∀{Q:Atm->Prop},Q (l.getD 2 az)->At l 2 Q:=fun hQ=>qM (n:=2) (by omega) (by rwa [List.getD_eq_getElem?_getD,jI (show 2<l.length by omega)] at hQ)
   have at4: ∀{Q:Atm->Prop},Q (l.getD 4 az)->At l 4 Q:=fun hQ=>qM (n:=4) (by omega) (by rwa [List.getD_eq_getElem?_getD,jI (show 4<l.length by omega)] at hQ)
   refine at3 (at0 ?_)
   rw [yF,decide_eq_true r1,cond_true]
   refine at3 (at2 ?_)
   rw [yF,decide_eq_true r2,cond_true]
   refine at4 (at2 ?_)
   rw [yF,decide_eq_true r3,cond_true]
   refine at4 (at0 ?_)
   rw [yF,decide_eq_true r4]
   exact h
def sp12:Sp:=⟨S12,L12,fun _=>True,fun _=> .bool true,fun _=>none⟩
theorem sp12_ok:sp12.Ok Tryz.prog 12 true:=
 ⟨fun g K X _ h=>F12_ok g K X (by
  unfold F12
  refine ⟨trivial,xS,trivial,xS, ?_⟩
  have e1:jQ ⟨#[97,110,110]⟩ ⟨#[]⟩ 5 [] zY=(atS,xD,0):=exS
  have e2:jD ⟨#[97,110,110]⟩ ⟨#[]⟩ 5 [] zY=(lS (X2 xD),0):=atmS
  rw [e1,e2]
  have hl:=lS_len (X2 xD)
  have hL:=F12_L4_is (d:=X2 xD) (K:=K) h
  generalize lS (X2 xD)=l at hl hL
  show bif !decide (xD=xD)then _ else Xw K l (!decide (((l.length:Nat):Int)=5))
  rw [decide_eq_true rfl,hl]
  exact hL),fun _ _ _=>rfl,fun _=>rfl,fun _ _=>⟨rfl,rfl⟩⟩
end Go.Proofs.YtbglndogddddoaaGreatDoor
namespace Go.Proofs.YtbglndogddddoaaGreatDoor
open Go.RowKit
attribute [local irreducible] qJ qd
set_option maxRecDepth 100000
end Go.Proofs.YtbglndogddddoaaGreatDoor
namespace Go.Proofs.YtbglndogddddoaaGreatDoor
open Go.RowKit
set_option maxRecDepth 100000
theorem wf_idk_n {x:Idn} (h:yy x):j6 x.n:=by
 unfold yy at h
 have:IntKind.i64.min<=x.n/\x.n<=IntKind.i64.max:=by simp only [h,and_self]
 have h1:IntKind.i64.min= -9223372036854775808:=rfl
 have h2:IntKind.i64.max=9223372036854775807:=rfl
 exact ⟨by omega,by omega⟩
end Go.Proofs.YtbglndogddddoaaGreatDoor
namespace Go.Proofs.YtbglndogddddoaaGreatDoor
open Go.RowKit Go.ChangeShapes
def elsF (e:El):Bool:=(lvs e).all fun l=>match l with | .fd=>false | _=>true
def DR:TD:=D.filter fun p=>match p.2.el with | some e=>elsF e | none=>true
theorem JH {t:TypeId} {te:TI}: ∀(l:TD),qA l t=some te->(t,te)∈l
 | [],h=>by cases h
 | (j,x)::r,h=>by
  simp only [qA] at h
  split at h
  . rename_i e;subst e;injection h with h;subst h;exact List.mem_cons_self
  . exact List.mem_cons_of_mem _ (JH r h)
theorem ZG {t:TypeId} {te:TI}: ∀(l:TD),(l.map (·.1)).Nodup->(t,te)∈l->qA l t=some te
 | [],_,h=>by cases h
 | (j,x)::r,hn,h=>by
  simp only [List.map_cons,List.nodup_cons] at hn
  rcases List.mem_cons.1 h with h | h
  . cases h;simp [qA]
  . have:j≠t:=by rintro rfl;exact hn.1 (List.mem_map.2 ⟨_,h,rfl⟩)
    simp only [qA]
    rw [if_neg (Ne.symm this)]
    exact ZG r hn.2 h
theorem DR_ok:qI Tryz.prog DR:=fun t ti h=>
 qh t ti (ZG D (of_decide_eq_true (by kernel_rfl:decide ((D.map (·.1)).Nodup)=true)) (List.mem_filter.1 (JH DR h)).1)
theorem kinds_ok:JK DR:=by
 have key:DR.all (fun p=>match p.2.el with | some e=>decide (wj DR 8 p.1=some (lvs e)) | none=>true)=true:=by kernel_rfl
 intro t te e ht he
 have:=List.all_eq_true.1 key _ (JH DR ht)
 simp only [he] at this
 exact ⟨8,of_decide_eq_true this⟩
theorem the_kids:Kids Tryz.prog (· <Tryz.prog.types.size):=kids_rows (by kernel_rfl) (by kernel_rfl)
theorem the_full: ∀t e,t<Tryz.prog.types.size->Tryz.prog.underlying t=some (.slice e)->0<Tryz.prog.cellsOf e:=slices_full_of Tryz.prog (by kernel_rfl)
theorem the_knob:ownKnob Tryz.prog.godebug=none:=by kernel_rfl
theorem bulk_le {H:Type} {l:List (DataW H)} (hk:Rows.uptoSmall H l=true):Rows.uptoBulkAll l<=1048576:=by
 simpa [Rows.uptoSmall] using hk
theorem Ko {H:Type} {enc:TypeId×Value->H} {a:Assume} {C:Checked} {os:Os} {f:FuncId} {fn:Func} {s:OpenSpec} {F:Stop.Interp} {conds:List PathCond} {apart fresh handsOn again:Bool} {laid:List (String×DataW Unit)}
  (own:ownKnob C.prog.godebug=none) (started:os.Started) (noInit:C.prog.inits.idxOf? f=none) (hfn:C.prog.funcs[f]? =some fn)
  (witness: ∃(w:World) (tape:Tape) (i:Input),w.os=os/\(w.forCall tape i).Shaped C.prog/\i.vars=[]/\Input.okWide C.prog (w.forCall tape i) .any w.heap.size f i/\
   s.preRow enc C.prog fn conds apart laid (w.forCall tape i).memory i.args/\a.holds C.prog (lone (Frame.enter C.prog f i.args .normal) [] (w.forCall tape i)))
  (contract: ∀(W:World) (base:Nat) (args:Array Value) (ds gs:List (DataW H)) (before:List MemPlace),
   (∀(j:Nat) t v,fn.params[j]? =some t->args[j]? =some v->Value.okWide C.prog W .any base t v)->
   DataW.Whole enc C.prog fn.params.toList s.vars apart W args.toList ds gs before->
   (∀k,s.cond=some k->k H (ds++gs)=true)->laidMetH C.prog laid W->
   Calls C.prog f args W fun e W'=> ∃v,e= .returned v/\(s.at F).post enc C.prog fn apart fresh handsOn again W args v W'):
  ReturnsInHanded a C os f .any (s.preRow enc C.prog fn conds apart laid) ((s.at F).post enc C.prog fn apart fresh handsOn again):=by
 refine returnsInHanded_of_calls own started noInit witness ?_
 intro w tape i _ _ _ hok hpre hholds
 obtain ⟨_,_,_,fn',hfn',_,_,_,_,hval⟩:=hok
 have e:fn'=fn:=Option.some.inj (hfn'.symm.trans hfn)
 subst e
 obtain ⟨⟨hp,hl⟩,_⟩:=hpre
 obtain ⟨ds,gs,before,hw,hc,hkk⟩:=OpenSpec.pre_parts hp
 have hw':=DataW.Whole.of_heap (w':=w.forCall tape i) (by rfl) hw
 refine (contract (w.forCall tape i) w.heap.size i.args ds gs before hval hw' hkk (hl.of_heap (by rfl))).mono fun e W' ⟨v,he,hp⟩=> ?_
 subst he
 exact ChangeSpec.post_blind hp
def Wg:List (String×DataW Unit):=Rows.patchEncodeUptoRow.laid
theorem door_met (os:Os) (args:Array Value):laidMetH Tryz.prog Wg ((World.doorLaid Tryz.prog 400 os).forCall (fun _ _=>0) ⟨#[],args,[]⟩).memory:=
 laidMetH_of_parts3 (fuel:=8) (laidMet_of_run' 8 (by kernel_rfl) (by kernel_rfl)) (by kernel_rfl) (by kernel_rfl)
theorem gPow:Tryz.prog.globalNamed "internal/strconv.uint64pow10" =some 3:=by kernel_rfl
theorem tPow:(Tryz.prog.globals[3]?).map (·.type)=some 255:=by kernel_rfl
theorem var_block {P:Program} {w:World} {n:String} {g:Nat} {cs:Array Value} (hg:P.globalNamed n=some g) (h:w.var? P n=some cs): ∃E fr,w.heap[g]? =some (.cells cs E fr):=by
 simp only [World.var?,hg,Option.bind_some] at h
 split at h
 . rename_i c E fr e
   simp only [Option.some.injEq] at h
   subst h
   exact ⟨_,_,e⟩
 . cases h
theorem laid_rd {W:World} (h:laidMetH Tryz.prog Wg W):LaidG (RdB W):=by
 rw [MakeChecks.laidMetH_plain _ _ _ (by kernel_rfl)] at h
 obtain ⟨ps,⟨_,_,_,_,_,_,_,_,_,_,⟨_,_,_,_,_,_,_,_,_,_,⟨g2,t2,cs2,f2,p2,q2,hg2,ht2,hv2,hd2,_,_⟩,_⟩,_⟩,_,_⟩:=h
 obtain rfl:=Option.some.inj (gPow.symm.trans hg2)
 obtain rfl:=Option.some.inj (tPow.symm.trans ht2)
 obtain ⟨E2,fr2,b2⟩:=var_block hg2 hv2
 refine ⟨?_, ?_⟩
 . obtain ⟨xs,m,rfl,hx1,hlen,hn,hel⟩:=DataW.trod_array Tryz.underlying255 hd2
   have c1:Tryz.prog.cellsOf 137=1:=by kernel_rfl
   have c2:Tryz.prog.cellsOf 255=20:=by kernel_rfl
   rw [c2] at hlen
   simp only [Prod.mk.injEq] at hx1
   have hl:(.agg (xs.map (·.1)):DataW Unit)= .agg ((List.range 20).map fun i=> .lit (.int .u64 ((10^i:Nat):Int))):=hx1.1.symm.trans (by kernel_rfl)
   injection hl with hl
   have hsz:cs2.size=20:=by simpa using hlen
   have key: ∀j,j<20->cs2[j]? =some (.int .u64 ((10^j:Nat):Int)):=fun j hj=>by
    have h1:=hel j hj
    rw [c1,Nat.mul_one] at h1
    obtain ⟨y,hy⟩: ∃y,xs[j]? =some y:=⟨xs[j],List.getElem?_eq_getElem (by omega)⟩
    rw [hy] at h1
    obtain ⟨n,e1,e2,_⟩:=DataW.trod_int Tryz.underlying137 h1
    have h2:=congrArg (·[j]?) hl
    simp only [List.getElem?_map,hy,Option.map_some,e2,List.getElem?_range hj] at h2
    simp only [Option.some.injEq,DataW.lit.injEq,Lit.int.injEq,true_and] at h2
    subst h2
    have h3:=congrArg (·[0]?) e1
    simp only [List.getElem?_take,List.getElem?_drop,Nat.add_zero,List.getElem?_cons_zero] at h3
    simpa using h3
   exact ⟨.mk 3 ky cs2 E2 fr2 b2 (fun n h=>by have:=congrArg List.length h;simp [ky] at this) (by simp [ky,hsz]) (fun j u x hu hx _=>by
    have hj:j<20:=by have:=(List.getElem?_eq_some_iff.1 hu).1;simpa [ky] using this
    rw [key j hj] at hx
    simp [ky,hj] at hu hx
    subst hu;subst hx
    exact .int _ _), .ex 3 20 cs2 E2 fr2 b2 hsz (by decide)⟩
 . trivial
theorem qqo (os:Os) (args:Array Value):((World.doorLaid Tryz.prog 400 os).forCall (fun _ _=>0) ⟨#[],args,[]⟩).Shaped Tryz.prog:=
 World.shaped_of_RefB (by kernel_rfl) (by kernel_rfl)
theorem qqg {H:Type} {enc:TypeId×Value->H} {os:Os} {f:FuncId} {fn:Func} {s:OpenSpec} {apart:Bool} (args:Array Value)
  (hok:Input.okWideB Tryz.prog ((World.doorLaid Tryz.prog 400 os).forCall (fun _ _=>0) ⟨#[],args,[]⟩) f ⟨#[],args,[]⟩=true)
  {x:List (DataW H)×List (DataW H)×List MemPlace} (hx:DataW.whole enc Tryz.prog ((World.doorLaid Tryz.prog 400 os).forCall (fun _ _=>0) ⟨#[],args,[]⟩).memory fn.params.toList s.vars apart args.toList 12=some x)
  (hkk: ∀k,s.cond=some k->k H (x.1++x.2.1)=true)
  (hsz:s.bare.sizedB enc Tryz.prog fn apart ((World.doorLaid Tryz.prog 400 os).forCall (fun _ _=>0) ⟨#[],args,[]⟩).memory args 12=true):
  ∃(w:World) (tape:Tape) (i:Input),w.os=os/\(w.forCall tape i).Shaped Tryz.prog/\i.vars=[]/\Input.okWide Tryz.prog (w.forCall tape i) .any w.heap.size f i/\
   s.preRow enc Tryz.prog fn [] apart Wg (w.forCall tape i).memory i.args/\({}:Assume).holds Tryz.prog (lone (Frame.enter Tryz.prog f i.args .normal) [] (w.forCall tape i)):=
 ⟨World.doorLaid Tryz.prog 400 os,fun _ _=>0,⟨#[],args,[]⟩,rfl,qqo os args,(Input.okWide_of_okWideB (base:=0) hok).1,(Input.okWide_of_okWideB hok).2,OpenSpec.preRow_of_cond 12 hx rfl hkk hsz (door_met os args),by
  simp only [Assume.holds]
  exact ⟨by simp,by simp,fun _=>Modest.zero,by simp,by simp⟩⟩
end Go.Proofs.YtbglndogddddoaaGreatDoor
namespace Go.Proofs.YtbglndogddddoaaGreatDoor
open Go.RowKit
set_option maxRecDepth 100000
set_option maxRecDepth 100000
set_option maxRecDepth 100000
theorem Qc {β:Type} {f:Nat->β} {N j:Nat} {a:β} (h:((List.range N).map f)[j]? =some a):j<N/\a=f j:=by
 rw [List.getElem?_map] at h
 obtain ⟨i,hi,rfl⟩:=Option.map_eq_some_iff.1 h
 obtain ⟨h1,h2⟩:=List.getElem?_eq_some_iff.1 hi
 rw [List.getElem_range] at h2
 subst h2
 exact ⟨by simpa using h1,rfl⟩
theorem one_at {β:Type} {x a:β} {j:Nat} (h:[x][j]? =some a):j=0/\a=x:=by
 cases j with
 | zero=>exact ⟨rfl,(Option.some.inj h).symm⟩
 | succ j=>simp at h
theorem madeL_ids {c:Chg} {n:Int} (hk:jJ c) {j:Nat} {a:Atm} (h:(jZ c n)[j]? =some a):a.id=yI (n+j):=by
 obtain ⟨kind,file,typ,parent,name,mode,data,after,before,lines,over⟩:=c
 have hk1:(1:Int)<=kind/\kind<=7:=hk
 have h0:n+((0:Nat):Int)=n:=by omega
 have:kind=1∨kind=2∨kind=3∨kind=4∨kind=5∨kind=6∨kind=7:=by omega
 rcases this with rfl | rfl | rfl | rfl | rfl | rfl | rfl
 rotate_right 3
 . have h:(Qo (⟨5,file,typ,parent,name,mode,data,after,before,lines,over⟩:Chg) n++egsL ⟨5,file,typ,parent,name,mode,data,after,before,lines,over⟩ n)[j]? =some a:=h
   have hl:(Qo (⟨5,file,typ,parent,name,mode,data,after,before,lines,over⟩:Chg) n).length=lines.length:=by simp [Qo]
   by_cases hj:j<lines.length
   . rw [List.getElem?_append_left (by rw [hl];exact hj)] at h
     obtain ⟨-,rfl⟩:=Qc h
     rfl
   . rw [List.getElem?_append_right (by rw [hl];omega),hl] at h
     obtain ⟨-,rfl⟩:=Qc h
     show yI (n+(lines.length:Int)+((j-lines.length:Nat):Int))=_
     rw [show n+(lines.length:Int)+((j-lines.length:Nat):Int)=n+j by omega]
 all_goals
  obtain ⟨rfl,rfl⟩:=one_at h
  rw [h0]
set_option maxRecDepth 100000
theorem ku {n:Int} (h:IntKind.i64.min<=n/\n<=IntKind.i64.max):j6 n:=by
 have h1:IntKind.i64.min= -9223372036854775808:=rfl
 have h2:IntKind.i64.max=9223372036854775807:=rfl
 exact ⟨by omega,by omega⟩
theorem QW {c:Chg} (h:wf_chg c):chW c/\ ∀x∈c.over,yy x:=by
 unfold wf_chg at h
 have ho: ∀x∈c.over,yy x:=by
  have h:=h
  repeat (first | exact h | replace h:=h.2)
 refine ⟨⟨ku (by simp only [h,and_self]),ku (by simp only [h,and_self]),ku (by simp only [h,and_self]),ku (by simp only [h,and_self]),ku (by simp only [h,and_self]),ku (by simp only [h,and_self]),fun x hx=>wf_idk_n (ho x hx)⟩,ho⟩
theorem pat_in {a m:ByteArray} {t:Int} {ds:List Dig} {cs:List Chg} {B:Nat} (hB:a.size+1+(m.size+1+(1+((ds.map (bk .dig)).sum+1+((cs.map (bk .chg)).sum+1))))<=B) (hB1:B<=1048576)
  (ht:IntKind.i64.min<=t/\t<=IntKind.i64.max) (hd: ∀d∈ds,wfE .dig d) (hc: ∀c∈cs,wfE .chg c):
  xP a m t ds cs/\(cs.map qf).sum<=2097152/\(∀d∈ds,wf_dig d)/\(∀c∈cs, ∀x∈c.over,yy x)/\ ∀c∈cs,c.lines.length<=4194304:=by
 have e:(cs.map (bk .chg)).sum=(cs.map qf).sum:=rfl
 have hl:=vY (bk .dig) 1 ds fun d _=>by show 1<=Yl d;unfold Yl;omega
 have h2:(cs.map qf).sum<=2097152:=by omega
 refine ⟨⟨ku ht,by omega,by omega,by omega,by omega,fun c h=>(QW (hc c h)).1⟩,h2,hd,fun c h=>(QW (hc c h)).2,fun c h=> ?_⟩
 have:=Qz qf h
 exact (zF (show ZS c by unfold ZS;omega)).2.2.1
end Go.Proofs.YtbglndogddddoaaGreatDoor
namespace Go.Proofs.YtbglndogddddoaaGreatDoor
open Go.RowKit
attribute [local irreducible] qJ qd
set_option maxRecDepth 100000
def H26:List (Nat×Hint):=[]
def J26:List (Nat×Hint):=[(5,⟨[((1,[]),none)],[(1, .pt 0 0),(6, .leaf),(27, .leaf)],[.el],[.sl .i64, .bool, .el .chg]⟩)]
abbrev S26:List Sh:=[.leaf]
abbrev L26:List Lf:=[.el .chg]
def YT (K:Kn) (kinds_1:List Int) (t_1:Bool) (c_1:Chg):Prop:=
 bif t_1 then (
  K (.tu [.int .i64 0, .int .i64 0, .int .i64 0, .int .i64 0]) [])
 else (
  At kinds_1 c_1.kind fun u3=>
 K (.tu [.int .i64 u3, .int .i64 1, .int .i64 0, .int .i64 0]) [])
def F26 (g:prodL L26) (K:Kn):Prop:=
 bif decide (g.1.kind=5)then (
  K (.tu [.int .i64 5, .int .i64 (g.1.lines.length:Int), .int .i64 6, .int .i64 (IntKind.i64.wrap ((g.1.lines.length:Int)+1))]) [])
 else (
  bif decide (g.1.kind<1)then (
  YT K [0,1,2,3,4,0,6,7] true g.1)
 else (
  YT K [0,1,2,3,4,0,6,7] (decide ((([0,1,2,3,4,0,6,7].length:Nat):Int)<=g.1.kind)) g.1))
theorem F26_eq (g:prodL L26) (K X:Kn):F26 g K=qJ D (qQ [] []) (qw []) H26 J26 33 [.tmp 2, .tmp 3, .tmp 4, .tmp 5] (qz Tryz.f26) (argsT S26 L26 g) [] (settle0 K) X:=by kernel_rfl
theorem F26_ok (g:prodL L26) (K X:Kn) (h:F26 g K):FCalls Tryz.prog 26 (argsT S26 L26 g) [] K X:=
 FCalls.settle0 (qq qh (wQ wZ) qx rfl Tryz.func26 (c:=qz Tryz.f26) rfl Tryz.ntmps26 Tryz.results26 (by unfold qk;rw [Tryz.func26];kernel_rfl) (Nat.le_of_ble_eq_true (by kernel_rfl)) (c0:=0) (Eq.mp (F26_eq g K X) h))
end Go.Proofs.YtbglndogddddoaaGreatDoor
namespace Go.Proofs.YtbglndogddddoaaGreatDoor
open Go.RowKit
set_option maxRecDepth 100000
def w0 (c:Chg):Int×Int×Int×Int:=bif decide (c.kind=5)then (5,(c.lines.length:Int),6,(c.lines.length:Int)+1)else (c.kind,1,0,0)
theorem F26_is {c:Chg} {K:Kn} (hk:jJ c) (hl:c.lines.length<=4194304) (h:K (.tu [.int .i64 (w0 c).1, .int .i64 (w0 c).2.1, .int .i64 (w0 c).2.2.1, .int .i64 (w0 c).2.2.2]) []):F26 (c,()) K:=by
 unfold F26
 unfold w0 at h
 show bif decide (c.kind=5)then _ else _
 by_cases k5:c.kind=5
 . rw [decide_eq_true k5] at h ⊢
   rw [cond_true,w64 (n:=(c.lines.length:Int)+1) (by omega)]
   exact h
 . rw [decide_eq_false k5] at h ⊢
   obtain ⟨k1,k2⟩:=hk
   rw [cond_false]
   show bif decide (c.kind<1)then _ else YT K [0,1,2,3,4,0,6,7] (decide ((8:Int)<=c.kind)) c
   rw [decide_eq_false (show¬c.kind<1 by omega),decide_eq_false (show¬(8:Int)<=c.kind by omega),cond_false]
   unfold YT
   rw [cond_false]
   have hk:c.kind=1∨c.kind=2∨c.kind=3∨c.kind=4∨c.kind=6∨c.kind=7:=by omega
   have h:K (.tu [.int .i64 c.kind, .int .i64 1, .int .i64 0, .int .i64 0]) []:=h
   rcases hk with k | k | k | k | k | k<;>rw [k] at h ⊢
   . exact qM (l:=[0,1,2,3,4,0,6,7]) (n:=1) (Nat.le_of_ble_eq_true rfl) h
   . exact qM (l:=[0,1,2,3,4,0,6,7]) (n:=2) (Nat.le_of_ble_eq_true rfl) h
   . exact qM (l:=[0,1,2,3,4,0,6,7]) (n:=3) (Nat.le_of_ble_eq_true rfl) h
   . exact qM (l:=[0,1,2,3,4,0,6,7]) (n:=4) (Nat.le_of_ble_eq_true rfl) h
   . exact qM (l:=[0,1,2,3,4,0,6,7]) (n:=6) (Nat.le_of_ble_eq_true rfl) h
   . exact qM (l:=[0,1,2,3,4,0,6,7]) (n:=7) (Nat.le_of_ble_eq_true rfl) h
def sp26:Sp:=⟨S26,L26,fun g=>jJ g.1/\g.1.lines.length<=4194304,fun g=> .tu [.int .i64 (w0 g.1).1, .int .i64 (w0 g.1).2.1, .int .i64 (w0 g.1).2.2.1, .int .i64 (w0 g.1).2.2.2],fun _=>none⟩
theorem sp26_ok:sp26.Ok Tryz.prog 26 true:=
 ⟨fun g K X hp h=>F26_ok g K X (F26_is hp.1 hp.2 h),fun _ _ _=>rfl,fun _=>rfl,fun _ _=>⟨rfl,rfl⟩⟩
end Go.Proofs.YtbglndogddddoaaGreatDoor
namespace Go.Proofs.YtbglndogddddoaaGreatDoor
open Go.RowKit
attribute [local irreducible] qJ qd
set_option maxRecDepth 100000
def H6:List (Nat×Hint):=[(11,⟨[((1,[]),none),((5,[]),none)],[(1, .pt 0 0),(3, .leaf),(5, .pt 1 0),(7, .leaf),(48, .leaf),(49, .leaf),(50, .leaf)],[.cells [.leaf, .leaf, .leaf, .leaf, .leaf], .el],[.sl .atm, .int .i64, .sl .chg, .int .i64, .int .i64, .str, .str, .int .i64, .sl .dig, .sl .chg, .el .dig]⟩),(19,⟨[((1,[]),none),((5,[]),none)],[(1, .pt 0 0),(3, .leaf),(5, .pt 1 0),(7, .leaf),(10, .leaf),(11, .leaf),(12, .leaf),(13, .leaf),(48, .leaf),(49, .leaf),(50, .leaf),(77, .leaf),(78, .leaf)],[.cells [.leaf, .leaf, .leaf, .leaf, .leaf], .el],[.sl .atm, .int .i64, .int .i64, .int .i64, .int .i64, .int .i64, .sl .chg, .int .i64, .int .i64, .int .i64, .int .i64, .str, .str, .int .i64, .sl .dig, .sl .chg, .el .dig]⟩)]
def J6:List (Nat×Hint):=[(6,⟨[((1,[]),none),((5,[]),none)],[(1, .pt 0 0),(3, .leaf),(4, .leaf),(5, .pt 1 0),(38, .leaf)],[.cells [.leaf, .leaf, .leaf, .leaf, .leaf], .el],[.sl .atm, .int .i64, .bool, .str, .str, .int .i64, .sl .dig, .sl .chg, .el .dig]⟩),(24,⟨[((1,[]),none),((5,[]),none)],[(1, .pt 0 0),(3, .leaf),(5, .pt 1 0),(7, .leaf),(10, .leaf),(11, .leaf),(12, .leaf),(13, .leaf),(14, .leaf),(15, .leaf),(48, .leaf),(49, .leaf),(50, .leaf),(77, .leaf),(78, .leaf)],[.cells [.leaf, .leaf, .leaf, .leaf, .leaf], .el],[.sl .atm, .int .i64, .int .i64, .int .i64, .int .i64, .int .i64, .int .i64, .int .i64, .sl .chg, .int .i64, .int .i64, .int .i64, .int .i64, .str, .str, .int .i64, .sl .dig, .sl .chg, .el .dig]⟩),(25,⟨[((1,[]),none),((5,[]),none)],[(1, .pt 0 0),(3, .leaf),(5, .pt 1 0),(7, .leaf),(10, .leaf),(11, .leaf),(12, .leaf),(13, .leaf),(48, .leaf),(49, .leaf),(50, .leaf),(77, .leaf),(78, .leaf),(109, .leaf)],[.cells [.leaf, .leaf, .leaf, .leaf, .leaf], .el],[.sl .atm, .int .i64, .int .i64, .int .i64, .int .i64, .int .i64, .sl .chg, .int .i64, .int .i64, .int .i64, .int .i64, .bool, .str, .str, .int .i64, .sl .dig, .sl .chg, .el .dig]⟩)]
abbrev S6:List Sh:=[.ag [.leaf, .leaf, .leaf, .leaf, .leaf]]
abbrev L6:List Lf:=[.str, .str, .int .i64, .sl .dig, .sl .chg]
def F6_J12 (K:Kn) (W7:prodL [.sl .atm, .int .i64, .int .i64, .int .i64, .int .i64, .int .i64, .sl .chg, .int .i64, .int .i64, .int .i64, .int .i64, .str, .str, .int .i64, .sl .dig, .sl .chg, .el .dig]->Prop) (l_11:List Atm) (at_11 one_11 n_11 two_11 m_11:Int) (t_11:List Chg) (t2_11 t3_11 t4_11 t5_11:Int) (t6_11:Bool) (p1_11 p2_11:ByteArray) (p3_11:Int) (p4_11:List Dig) (p5_11:List Chg) (d_11:Dig):Prop:=
 bif t6_11 then (
  K (.bool false) [])
 else (
  W7 (l_11,at_11,one_11,n_11,two_11,m_11,t_11,t2_11,t3_11,t4_11,IntKind.i64.wrap (t5_11+1),p1_11,p2_11,p3_11,p4_11,p5_11,d_11,()))
def Yg (K:Kn) (W7:prodL [.sl .atm, .int .i64, .int .i64, .int .i64, .int .i64, .int .i64, .sl .chg, .int .i64, .int .i64, .int .i64, .int .i64, .str, .str, .int .i64, .sl .dig, .sl .chg, .el .dig]->Prop) (l_8:List Atm) (at_8 one_8 n_8 two_8 m_8 k_8 kind_8:Int) (t_8:List Chg) (t2_8 t3_8 t4_8 t5_8:Int) (p1_8 p2_8:ByteArray) (p3_8:Int) (p4_8:List Dig) (p5_8:List Chg) (d_8:Dig):Prop:=
 At l_8 (IntKind.i64.wrap (at_8+k_8)) fun u9=>
 bif !(decide (u9.id.patch.b0=d_8.b0)&&(decide (u9.id.patch.b1=d_8.b1)&&(decide (u9.id.patch.b2=d_8.b2)&&(decide (u9.id.patch.b3=d_8.b3)&&(decide (u9.id.patch.b4=d_8.b4)&&(decide (u9.id.patch.b5=d_8.b5)&&(decide (u9.id.patch.b6=d_8.b6)&&(decide (u9.id.patch.b7=d_8.b7)&&(decide (u9.id.patch.b8=d_8.b8)&&(decide (u9.id.patch.b9=d_8.b9)&&(decide (u9.id.patch.b10=d_8.b10)&&(decide (u9.id.patch.b11=d_8.b11)&&(decide (u9.id.patch.b12=d_8.b12)&&(decide (u9.id.patch.b13=d_8.b13)&&(decide (u9.id.patch.b14=d_8.b14)&&(decide (u9.id.patch.b15=d_8.b15)&&(decide (u9.id.patch.b16=d_8.b16)&&(decide (u9.id.patch.b17=d_8.b17)&&(decide (u9.id.patch.b18=d_8.b18)&&(decide (u9.id.patch.b19=d_8.b19)&&(decide (u9.id.patch.b20=d_8.b20)&&(decide (u9.id.patch.b21=d_8.b21)&&(decide (u9.id.patch.b22=d_8.b22)&&(decide (u9.id.patch.b23=d_8.b23)&&(decide (u9.id.patch.b24=d_8.b24)&&(decide (u9.id.patch.b25=d_8.b25)&&(decide (u9.id.patch.b26=d_8.b26)&&(decide (u9.id.patch.b27=d_8.b27)&&(decide (u9.id.patch.b28=d_8.b28)&&(decide (u9.id.patch.b29=d_8.b29)&&(decide (u9.id.patch.b30=d_8.b30)&&(decide (u9.id.patch.b31=d_8.b31)&&(decide (u9.id.n=IntKind.i64.wrap (at_8+k_8))&&(true))))))))))))))))))))))))))))))))))then (
  F6_J12 K W7 l_8 at_8 one_8 n_8 two_8 m_8 t_8 t2_8 t3_8 t4_8 t5_8 true p1_8 p2_8 p3_8 p4_8 p5_8 d_8)
 else (
  At l_8 (IntKind.i64.wrap (at_8+k_8)) fun u10=>
  F6_J12 K W7 l_8 at_8 one_8 n_8 two_8 m_8 t_8 t2_8 t3_8 t4_8 t5_8 (!decide (u10.kind=kind_8)) p1_8 p2_8 p3_8 p4_8 p5_8 d_8)
def F6_B7 (K:Kn) (W4:prodL [.sl .atm, .int .i64, .sl .chg, .int .i64, .int .i64, .str, .str, .int .i64, .sl .dig, .sl .chg, .el .dig]->Prop) (W7:prodL [.sl .atm, .int .i64, .int .i64, .int .i64, .int .i64, .int .i64, .sl .chg, .int .i64, .int .i64, .int .i64, .int .i64, .str, .str, .int .i64, .sl .dig, .sl .chg, .el .dig]->Prop) (l_6:List Atm) (at_6 one_6 n_6 two_6 m_6:Int) (t_6:List Chg) (t2_6 t3_6 t4_6 t5_6:Int) (p1_6 p2_6:ByteArray) (p3_6:Int) (p4_6:List Dig) (p5_6:List Chg) (d_6:Dig):Prop:=
 bif decide (t5_6<t4_6)then (
  bif decide (n_6<=t5_6)then (
  Yg K W7 l_6 at_6 one_6 n_6 two_6 m_6 t5_6 two_6 t_6 t2_6 t3_6 t4_6 t5_6 p1_6 p2_6 p3_6 p4_6 p5_6 d_6)
 else (
  Yg K W7 l_6 at_6 one_6 n_6 two_6 m_6 t5_6 one_6 t_6 t2_6 t3_6 t4_6 t5_6 p1_6 p2_6 p3_6 p4_6 p5_6 d_6))
 else (
  W4 (l_6,IntKind.i64.wrap (at_6+(IntKind.i64.wrap (n_6+m_6))),t_6,t2_6,IntKind.i64.wrap (t3_6+1),p1_6,p2_6,p3_6,p4_6,p5_6,d_6,()))
def F6_L7 (K:Kn) (W4:prodL [.sl .atm, .int .i64, .sl .chg, .int .i64, .int .i64, .str, .str, .int .i64, .sl .dig, .sl .chg, .el .dig]->Prop) (g:prodL [.sl .atm, .int .i64, .int .i64, .int .i64, .int .i64, .int .i64, .sl .chg, .int .i64, .int .i64, .int .i64, .int .i64, .str, .str, .int .i64, .sl .dig, .sl .chg, .el .dig]):Prop:=
 qZ (γ:=prodL [.sl .atm, .int .i64, .int .i64, .int .i64, .int .i64, .int .i64, .sl .chg, .int .i64, .int .i64, .int .i64, .int .i64, .str, .str, .int .i64, .sl .dig, .sl .chg, .el .dig]) (fun V y=>F6_B7 K W4 V y.1 y.2.1 y.2.2.1 y.2.2.2.1 y.2.2.2.2.1 y.2.2.2.2.2.1 y.2.2.2.2.2.2.1 y.2.2.2.2.2.2.2.1 y.2.2.2.2.2.2.2.2.1 y.2.2.2.2.2.2.2.2.2.1 y.2.2.2.2.2.2.2.2.2.2.1 y.2.2.2.2.2.2.2.2.2.2.2.1 y.2.2.2.2.2.2.2.2.2.2.2.2.1 y.2.2.2.2.2.2.2.2.2.2.2.2.2.1 y.2.2.2.2.2.2.2.2.2.2.2.2.2.2.1 y.2.2.2.2.2.2.2.2.2.2.2.2.2.2.2.1 y.2.2.2.2.2.2.2.2.2.2.2.2.2.2.2.2.1) g
def F6_B4 (K:Kn) (W4:prodL [.sl .atm, .int .i64, .sl .chg, .int .i64, .int .i64, .str, .str, .int .i64, .sl .dig, .sl .chg, .el .dig]->Prop) (l_3:List Atm) (at_3:Int) (t_3:List Chg) (t2_3 t3_3:Int) (p1_3 p2_3:ByteArray) (p3_3:Int) (p4_3:List Dig) (p5_3:List Chg) (d_3:Dig):Prop:=
 bif decide (t3_3<t2_3)then (
  At t_3 t3_3 fun u5=>
 sp23.pre (p1_3,p2_3,p3_3,p4_3,p5_3,t3_3,())/\
 bif !decide (firP p1_3 p2_3 p3_3 p4_3 p5_3 t3_3=at_3)then (
  K (.bool false) [])
 else (
  sp26.pre (u5,())/\
 bif decide ((l_3.length:Int) <IntKind.i64.wrap ((IntKind.i64.wrap (at_3+((w0 u5).2.1)))+((w0 u5).2.2.2)))then (
  K (.bool false) [])
 else (
  F6_L7 K W4 (l_3,at_3,(w0 u5).1,(w0 u5).2.1,(w0 u5).2.2.1,(w0 u5).2.2.2,t_3,t2_3,t3_3,IntKind.i64.wrap (((w0 u5).2.1)+((w0 u5).2.2.2)),0,p1_3,p2_3,p3_3,p4_3,p5_3,d_3,()))))
 else (
  bif decide (at_3=(l_3.length:Int))then (
  sp12.pre (())/\
  K (.bool true) [])
 else (
  K (.bool false) []))
def F6_L4 (K:Kn) (g:prodL [.sl .atm, .int .i64, .sl .chg, .int .i64, .int .i64, .str, .str, .int .i64, .sl .dig, .sl .chg, .el .dig]):Prop:=
 qZ (γ:=prodL [.sl .atm, .int .i64, .sl .chg, .int .i64, .int .i64, .str, .str, .int .i64, .sl .dig, .sl .chg, .el .dig]) (fun V y=>F6_B4 K V y.1 y.2.1 y.2.2.1 y.2.2.2.1 y.2.2.2.2.1 y.2.2.2.2.2.1 y.2.2.2.2.2.2.1 y.2.2.2.2.2.2.2.1 y.2.2.2.2.2.2.2.2.1 y.2.2.2.2.2.2.2.2.2.1 y.2.2.2.2.2.2.2.2.2.2.1) g
def F6_J2 (K:Kn) (l_1:List Atm) (e_1:Int) (t_1:Bool) (p1_1 p2_1:ByteArray) (p3_1:Int) (p4_1:List Dig) (p5_1:List Chg) (d_1:Dig):Prop:=
 bif t_1 then (
  K (.bool false) [])
 else (
  bif !decide (e_1=0)then (
  bif decide ((l_1.length:Int)=0)then (
   sp12.pre (())/\
   K (.bool true) [])
  else (
   K (.bool false) []))
 else (
  F6_L4 K (l_1,0,p5_1,(p5_1.length:Int),0,p1_1,p2_1,p3_1,p4_1,p5_1,d_1,())))
def F6 (g:prodL L6) (K:Kn):Prop:=
 sp11.pre (g.1,g.2.1,g.2.2.1,g.2.2.2.1,g.2.2.2.2.1,())/\
 bif Q6 g.1 g.2.1 g.2.2.1 g.2.2.2.1 g.2.2.2.2.1 then (
  sp12.pre (())/\
  K (.bool true) [])
 else (
  sp25.pre (g.1,g.2.1,g.2.2.1,g.2.2.2.1,g.2.2.2.2.1,())/\
 sp15.pre (g.1,g.2.1,g.2.2.1,g.2.2.2.1,g.2.2.2.2.1,())/\
 bif !decide ((jD g.1 g.2.1 g.2.2.1 g.2.2.2.1 g.2.2.2.2.1).2=(X3 g.1 g.2.1 g.2.2.1 g.2.2.2.1 g.2.2.2.2.1).2)then (
  F6_J2 K ((jD g.1 g.2.1 g.2.2.1 g.2.2.2.1 g.2.2.2.2.1).1) ((jD g.1 g.2.1 g.2.2.1 g.2.2.2.1 g.2.2.2.2.1).2) true g.1 g.2.1 g.2.2.1 g.2.2.2.1 g.2.2.2.2.1 ((X3 g.1 g.2.1 g.2.2.1 g.2.2.2.1 g.2.2.2.2.1).1))
 else (
  sp21.pre (g.1,g.2.1,g.2.2.1,g.2.2.2.1,g.2.2.2.2.1,())/\
  F6_J2 K ((jD g.1 g.2.1 g.2.2.1 g.2.2.2.1 g.2.2.2.2.1).1) ((jD g.1 g.2.1 g.2.2.1 g.2.2.2.1 g.2.2.2.2.1).2) (!decide (((((jD g.1 g.2.1 g.2.2.1 g.2.2.2.1 g.2.2.2.2.1).1).length:Nat):Int)=(((jQ g.1 g.2.1 g.2.2.1 g.2.2.2.1 g.2.2.2.2.1).1.length:Nat):Int))) g.1 g.2.1 g.2.2.1 g.2.2.2.1 g.2.2.2.2.1 ((X3 g.1 g.2.1 g.2.2.1 g.2.2.2.1 g.2.2.2.2.1).1)))
theorem F6_eq (g:prodL L6) (K X:Kn):F6 g K=qJ D (qQ [] [(11,true,sp11),(12,true,sp12),(15,true,sp15),(21,true,sp21),(23,true,sp23),(25,false,sp25),(26,true,sp26)]) (qw []) H6 J6 124 [.tmp 2] (qz Tryz.f6) (argsT S6 L6 g) [] (settle0 K) X:=by kernel_rfl
theorem F6_ok (g:prodL L6) (K X:Kn) (h:F6 g K):FCalls Tryz.prog 6 (argsT S6 L6 g) [] K X:=
 FCalls.settle0 (qq qh (wQ (vf sp11_ok (vf sp12_ok (vf sp15_ok (vf sp21_ok (vf sp23_ok (vf sp25_ok (vf sp26_ok wZ)))))))) qx rfl Tryz.func6 (c:=qz Tryz.f6) rfl Tryz.ntmps6 Tryz.results6 (by unfold qk;rw [Tryz.func6];kernel_rfl) (Nat.le_of_ble_eq_true (by kernel_rfl)) (c0:=0) (Eq.mp (F6_eq g K X) h))
end Go.Proofs.YtbglndogddddoaaGreatDoor
namespace Go.Proofs.YtbglndogddddoaaGreatDoor
open Go.RowKit
set_option maxRecDepth 100000
abbrev kj (own:List Atm) (c:Chg):List Atm:=own++jZ c own.length
theorem KE: ∀(l:List Chg) (own:List Atm), ∃t,l.foldl kj own=own++t
 | [],own=>⟨[],(List.append_nil own).symm⟩
 | c::l,own=>by
  obtain ⟨t,h⟩:=KE l (kj own c)
  exact ⟨jZ c own.length++t,by rw [List.foldl_cons,h,List.append_assoc]⟩
theorem VC {f:Chg->Int} {r:Chg->List Atm->Int}: ∀{cs:List Chg} {own:List Atm},(xO f r cs own).2=0->(xO f r cs own).1=cs.foldl kj own
 | [],_,_=>rfl
 | c::l,own,h=>by
  rw [xO] at h ⊢
  by_cases z:f c=0
  . rw [decide_eq_true z,Bool.not_true,cond_false] at h ⊢
    by_cases y:r c own=0
    . rw [decide_eq_true y,Bool.not_true,cond_false] at h ⊢
      exact VC h
    . rw [decide_eq_false y] at h;exact absurd h y
  . rw [decide_eq_false z] at h;exact absurd h z
theorem own_all (cs:List Chg):cs.foldl kj []=zW cs cs.length:=by unfold zW;rw [List.take_length]
theorem own_split (cs:List Chg) (n:Nat): ∃t,cs.foldl kj []=zW cs n++t:=by
 obtain ⟨t,h⟩:=KE (cs.drop n) (zW cs n)
 refine ⟨t, ?_⟩
 rw [<- h]
 unfold zW
 rw [<- List.foldl_append,List.take_append_drop]
theorem Wh {cs:List Chg} (hk: ∀c∈cs,jJ c) (hl: ∀c∈cs,c.lines.length<=4194304): ∀n,n<=cs.length->((zW cs n).length:Int)=kX (cs.take n)
 | 0,_=>rfl
 | n+1,h=>by
  have h:n<cs.length:=h
  have hm:=List.getElem_mem h
  rw [xR h,Zh h,List.length_append,Za (hk _ hm),cntC_eq (hl _ hm)]
  have:=Wh hk hl n (by omega)
  split<;>omega
theorem made_kind {c:Chg} {n:Int} (hk:jJ c) {j:Nat} {a:Atm} (h:(jZ c n)[j]? =some a):a.kind=bif decide ((w0 c).2.1<=(j:Int))then (w0 c).2.2.1 else (w0 c).1:=by
 obtain ⟨kind,file,typ,parent,name,mode,data,after,before,lines,over⟩:=c
 have hk1:(1:Int)<=kind/\kind<=7:=hk
 have:kind=1∨kind=2∨kind=3∨kind=4∨kind=5∨kind=6∨kind=7:=by omega
 rcases this with rfl | rfl | rfl | rfl | rfl | rfl | rfl
 rotate_right 3
 . have h:(Qo (⟨5,file,typ,parent,name,mode,data,after,before,lines,over⟩:Chg) n++egsL ⟨5,file,typ,parent,name,mode,data,after,before,lines,over⟩ n)[j]? =some a:=h
   have hl:(Qo (⟨5,file,typ,parent,name,mode,data,after,before,lines,over⟩:Chg) n).length=lines.length:=by simp [Qo]
   show a.kind=bif decide ((lines.length:Int)<=(j:Int))then 6 else 5
   by_cases hj:j<lines.length
   . rw [List.getElem?_append_left (by rw [hl];exact hj)] at h
     obtain ⟨-,rfl⟩:=Qc h
     rw [decide_eq_false (by omega)];rfl
   . rw [List.getElem?_append_right (by rw [hl];omega),hl] at h
     obtain ⟨-,rfl⟩:=Qc h
     rw [decide_eq_true (by omega)];rfl
 all_goals
  obtain ⟨rfl,rfl⟩:=one_at h
  rfl
theorem made_cnt {c:Chg} {n:Int} (hk:jJ c):((jZ c n).length:Int)=(w0 c).2.1+(w0 c).2.2.2:=by
 rw [Za hk]
 unfold w0
 by_cases k:c.kind=5
 . rw [decide_eq_true k,if_pos k]
   show ((2*c.lines.length+1:Nat):Int)=(c.lines.length:Int)+((c.lines.length:Int)+1)
   omega
 . rw [decide_eq_false k,if_neg k];rfl
theorem atO_nn (c:Chg):0<=(w0 c).2.1/\0<=(w0 c).2.2.2:=by
 unfold w0
 cases decide (c.kind=5)
 . show (0:Int)<=1/\(0:Int)<=0
   omega
 . show 0<=(c.lines.length:Int)/\0<=(c.lines.length:Int)+1
   omega
theorem cmpA_id (d:Dig) (x:Atm):(wn d x).id=zI d x.id:=by
 unfold wn aJ19 aJ18 aJ17
 cases decide (x.kind=7)<;>cases decide (x.kind=2)<;>cases decide (x.kind=6)<;>rfl
theorem cmpA_kind (d:Dig) (x:Atm):(wn d x).kind=x.kind:=by
 unfold wn aJ19 aJ18 aJ17
 cases decide (x.kind=7)<;>cases decide (x.kind=2)<;>cases decide (x.kind=6)<;>rfl
theorem full_own (d:Dig) {n:Int} (h:0<=n):zI d (yI n)=⟨d,n⟩:=by
 unfold zI y7
 show (bif (bif vd dz dz then decide (0<=n)else false)then (⟨d,n⟩:Idn)else yI n)=_
 rw [qqZ,decide_eq_true rfl,decide_eq_true h];rfl
theorem exP_none {a m:ByteArray} {t:Int} {ds:List Dig} {cs:List Chg} (z: ¬(jQ a m t ds cs).2.2=0):(jQ a m t ds cs).1=[]:=by
 unfold jQ at z ⊢
 by_cases y:xG zD a m t ds cs=0
 rotate_left
 . rw [decide_eq_false y];rfl
 rw [decide_eq_true y,Bool.not_true,cond_false] at z ⊢
 unfold kM at z ⊢
 by_cases x:(yP cs).2=0
 rotate_left
 . rw [decide_eq_false x];rfl
 rw [decide_eq_true x,Bool.not_true,cond_false] at z ⊢
 unfold exP5 at z ⊢
 cases e:(bif !decide ((wL (jV a m t (jA ds) cs)).2=0)then true else decide (65536< ((wL (jV a m t (jA ds) cs)).1.size:Int)))
 . rw [e] at z;exact absurd rfl z
 . rfl
theorem F6_L4_is {K:Kn} {a m:ByteArray} {t:Int} {ds:List Dig} {cs:List Chg} {d:Dig} (hx:xP a m t ds cs) (hl: ∀c∈cs,c.lines.length<=4194304) (hk: ∀c∈cs,jJ c) (hz:(jQ a m t ds cs).2.2=0) (h:K (.bool true) []):
  F6_L4 K ((cs.foldl kj []).map (wn d),0,cs,(cs.length:Int),0,a,m,t,ds,cs,d,()):=by
 have h5:=hx.2.2.2.2.1
 have hcl:=Q8 h5
 have hall:=Wh hk hl cs.length (Nat.le_refl _)
 have hbig:=cntS_le h5 cs.length
 rw [<- own_all] at hall
 have hT:((cs.foldl kj []).length:Int)<=8388608:=by rw [hall];exact hbig.2
 unfold F6_L4
 refine qZ.countTo cs.length (fun n=>((cs.foldl kj []).map (wn d),((zW cs n).length:Int),cs,(cs.length:Int),(n:Int),a,m,t,ds,cs,d,())) (fun _=>True) rfl (fun n hn _ W hW=> ?_) trivial
 show F6_B4 K W ((cs.foldl kj []).map (wn d)) ((zW cs n).length:Int) cs (cs.length:Int) (n:Int) a m t ds cs d
 unfold F6_B4
 by_cases hlt:n<cs.length
 . rw [qH hlt,cond_true]
   have hW:=hW hlt trivial
   have hm:=List.getElem_mem hlt
   have hn0:=Wh hk hl n (by omega)
   have hn1:=made_cnt (n:=((zW cs n).length:Int)) (hk _ hm)
   obtain ⟨p1,p2⟩:=atO_nn cs[n]
   obtain ⟨tl,htl⟩:=own_split cs (n+1)
   rw [xR hlt] at htl hW
   have hlen:(cs.foldl kj []).length=(zW cs n).length+(jZ cs[n] (zW cs n).length).length+tl.length:=by rw [htl,List.length_append,List.length_append]
   have hf:firP a m t ds cs (n:Int)=((zW cs n).length:Int):=by
    rw [hn0]
    unfold firP
    rw [decide_eq_true hz,decide_eq_false (show¬(n:Int) <0 by omega),decide_eq_false (show¬(cs.length:Int)<=(n:Int)by omega)]
    show kX (cs.take (n:Int).toNat)=_
    rw [toN]
   refine qM hlt ⟨hx, ?_⟩
   rw [hf,decide_eq_true rfl,Bool.not_true,cond_false]
   refine ⟨⟨hk _ hm,hl _ hm⟩, ?_⟩
   rw [wI (n:=((zW cs n).length:Int)+(w0 cs[n]).2.1) (by omega),wI (n:=((zW cs n).length:Int)+(w0 cs[n]).2.1+(w0 cs[n]).2.2.2) (by omega),wI (n:=(w0 cs[n]).2.1+(w0 cs[n]).2.2.2) (by omega),List.length_map]
   rw [decide_eq_false (by omega),cond_false]
   have hat: ∀(j:Nat) (x:Atm),(jZ cs[n] (zW cs n).length)[j]? =some x->((cs.foldl kj []).map (wn d))[(zW cs n).length+j]? =some (wn d x):=by
    intro j x hj
    have hj1:=(List.getElem?_eq_some_iff.1 hj).1
    rw [List.getElem?_map,htl,List.append_assoc,List.getElem?_append_right (by omega),Nat.add_sub_cancel_left,List.getElem?_append_left hj1,hj]
    rfl
   have hid: ∀(j:Nat) (x:Atm),(jZ cs[n] (zW cs n).length)[j]? =some x->x.id=yI (((zW cs n).length:Int)+j):=fun j x hj=>madeL_ids (hk _ hm) hj
   have hkd: ∀(j:Nat) (x:Atm),(jZ cs[n] (zW cs n).length)[j]? =some x->x.kind=bif decide ((w0 cs[n]).2.1<=(j:Int))then (w0 cs[n]).2.2.1 else (w0 cs[n]).1:=fun j x hj=>made_kind (hk _ hm) hj
   rw [List.length_append] at hW
   have hTl:((cs.foldl kj []).map (wn d)).length=(cs.foldl kj []).length:=List.length_map _
   generalize (cs.foldl kj []).map (wn d)=l at hat hW hTl ⊢
   generalize w0 cs[n]=q at hn1 hkd p1 p2 ⊢
   obtain ⟨one,q1,two,q2⟩:=q
   dsimp only at hn1 hkd p1 p2 ⊢
   generalize (zW cs n).length=at0 at hat hid hkd hW hlen hn1 ⊢
   generalize jZ cs[n] (at0:Int)=M at hat hid hkd hn1 hW hlen
   unfold F6_L7
   refine qZ.countTo M.length (fun k=>(l,(at0:Int),one,q1,two,q2,cs,(cs.length:Int),(n:Int),q1+q2,(k:Int),a,m,t,ds,cs,d,())) (fun _=>True) rfl (fun k hk2 _ W7 hW7=> ?_) trivial
   show F6_B7 K W W7 l (at0:Int) one q1 two q2 cs (cs.length:Int) (n:Int) (q1+q2) (k:Int) a m t ds cs d
   unfold F6_B7
   by_cases hkl:k<M.length
   . rw [decide_eq_true (show (k:Int) <q1+q2 by omega),cond_true]
     have hW7:=hW7 hkl trivial
     have hx1:=hat k M[k] (jI hkl)
     have hx2:=hid k M[k] (jI hkl)
     have hx3:=hkd k M[k] (jI hkl)
     have hlt2:at0+k<l.length:=by omega
     rw [jI hlt2] at hx1
     have hx1:=Option.some.inj hx1
     have hJ: ∀kd,kd=(bif decide (q1<=(k:Int))then two else one)->Yg K W7 l (at0:Int) one q1 two q2 (k:Int) kd cs (cs.length:Int) (n:Int) (q1+q2) (k:Int) a m t ds cs d:=by
      rintro kd rfl
      unfold Yg
      have ew:IntKind.i64.wrap ((at0:Int)+(k:Int))=((at0+k:Nat):Int):=by rw [wI (by omega)];omega
      rw [ew]
      refine qM hlt2 ?_
      have e1:zy l[at0+k].id ⟨d,((at0+k:Nat):Int)⟩=true:=by
       rw [yF,hx1,cmpA_id,hx2,show (at0:Int)+(k:Int)=((at0+k:Nat):Int)by omega,full_own d (by omega)]
       exact decide_eq_true rfl
      show bif !(zy l[at0+k].id ⟨d,((at0+k:Nat):Int)⟩)then _ else _
      rw [e1,Bool.not_true,cond_false]
      refine qM hlt2 ?_
      rw [hx1,cmpA_kind,hx3,decide_eq_true rfl,Bool.not_true]
      unfold F6_J12
      rw [cond_false,wI (by omega)]
      exact hW7
     cases e:decide (q1<=(k:Int))
     . rw [cond_false];exact hJ one (by rw [e];rfl)
     . rw [cond_true];exact hJ two (by rw [e];rfl)
   . have:k=M.length:=by omega
     subst this
     rw [decide_eq_false (by omega),cond_false]
     rw [wI (n:=q1+q2) (by omega),wI (n:=(at0:Int)+(q1+q2)) (by omega),wI (by omega)]
     rw [show ((at0+M.length:Nat):Int)=(at0:Int)+(q1+q2)by omega] at hW
     exact hW
 . have:n=cs.length:=by omega
   subst this
   rw [qt,cond_false,List.length_map,own_all,decide_eq_true rfl,cond_true]
   exact ⟨trivial,h⟩
theorem patchNumbers.calls (g:prodL L6) (hw:X4 L6 g) (hb:vT L6 g<=1048576):FCalls Tryz.prog 6 (argsT S6 L6 g) [] (fun r _=>r= .bool true) fun _ _=>False:=by
 obtain ⟨a,m,t,ds,cs,⟨⟩⟩:=g
 obtain ⟨ht,hd,hc, -⟩:=hw
 have hb:a.size+1+(m.size+1+(1+((ds.map (bk .dig)).sum+1+((cs.map (bk .chg)).sum+1+0))))<=1048576:=hb
 obtain ⟨h1,h2,h3,h4,h5⟩:=pat_in (a:=a) (m:=m) (t:=t) (ds:=ds) (cs:=cs) (B:=1048576) (by omega) (Nat.le_refl _) ht hd hc
 refine F6_ok (a,m,t,ds,cs,()) _ _ ?_
 unfold F6
 refine ⟨⟨h1,h2⟩, ?_⟩
 show bif Q6 a m t ds cs then _ else _
 cases eg:Q6 a m t ds cs
 rotate_left
 . exact ⟨trivial,rfl⟩
 refine ⟨h1,h1, ?_⟩
 dsimp only
 by_cases z:(jQ a m t ds cs).2.2=0
 . have e1:X3 a m t ds cs=(X2 (jQ a m t ds cs).2.1,0):=by unfold X3;rw [decide_eq_true z];rfl
   have e2:jD a m t ds cs=((jQ a m t ds cs).1.map (wn (X3 a m t ds cs).1),0):=by unfold jD;rw [decide_eq_true z,e1];rfl
   have e3:(jQ a m t ds cs).1=cs.foldl kj []:=by rw [exP_eq z];exact VC (XA z).2.1
   rw [e2,e1]
   dsimp only
   rw [decide_eq_true rfl,Bool.not_true,cond_false]
   refine ⟨h1, ?_⟩
   rw [List.length_map,decide_eq_true rfl,Bool.not_true,e3]
   unfold F6_J2
   rw [cond_false,decide_eq_true rfl,Bool.not_true,cond_false]
   exact F6_L4_is h1 h5 (fun c hc=>zC (XL (XA z).2.1 c hc)) z rfl
 . have e1:X3 a m t ds cs=(dz,(jQ a m t ds cs).2.2):=by unfold X3;rw [decide_eq_false z];rfl
   have e2:jD a m t ds cs=([],(jQ a m t ds cs).2.2):=by unfold jD;rw [decide_eq_false z];rfl
   rw [e2,e1,exP_none z]
   dsimp only
   rw [decide_eq_true rfl,Bool.not_true,cond_false]
   refine ⟨h1, ?_⟩
   rw [decide_eq_true rfl,Bool.not_true]
   unfold F6_J2
   rw [cond_false,decide_eq_false z,Bool.not_false,cond_true]
   show bif decide ((0:Int)=0)then _ else _
   rw [decide_eq_true rfl,cond_true]
   exact ⟨trivial,rfl⟩
end Go.Proofs.YtbglndogddddoaaGreatDoor
