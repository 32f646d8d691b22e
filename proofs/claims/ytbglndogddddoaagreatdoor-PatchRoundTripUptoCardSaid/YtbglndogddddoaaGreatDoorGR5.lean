import Derived.Shelf.Strconv.Itoa3
import Derived.Shelf.Strconv.AtoiAll
import Derived.Ground.NamesProg
import Derived.RecoverIn
import Derived.WalkKit
import Derived.Lib.AtoiAllCases
import Derived.Shelf.Strings.Builder1
import Derived.Lib.Bytealg
import Derived.Shelf.RegionOpenPlain
import Derived.Lib.Walk
import Derived.Lib.BytesEntry
import Derived.BigCall
import Derived.BigGuard
import Derived.Deep.Draws
import Derived.Test.YtbglndogddddoaaGreatDoorGR4
set_option linter.unusedVariables false
set_option linter.unusedSimpArgs false
set_option linter.unusedSectionVars false
namespace Go.Proofs.YtbglndogddddoaaGreatDoor
open Go.RowKit
attribute [local irreducible] qW qb
def H199:List (Nat×Hint):=[]
def J199:List (Nat×Hint):=[]
abbrev S199:List Sh:=[.pt 0 0]
abbrev Wy:List Lf:=[.str, .int .i64, .int .i64]
abbrev O199:List ObSh:=[.cells [.leaf, .leaf, .leaf]]
def F199 (g:prodL Wy) (K X:Kn):Prop:=
 bif decide (g.2.1=(g.1.size:Int))then (
  X (.ic 170 (.ag [.int .i64 11])) [some (.cells [.str g.1, .int .i64 g.2.1, .int .i64 g.2.2.1])])
 else (
  JR g.1 g.2.1 fun b1=>
 K (.int .u8 b1) [some (.cells [.str g.1, .int .i64 g.2.1, .int .i64 g.2.2.1])])
theorem F199_eq (g:prodL Wy) (K X:Kn):F199 g K X=qW D (qJ [] []) (qv []) H199 J199 24 [.tmp 2] (qq Tryz.f199) (argsT S199 Wy g) (qZ S199 O199 Wy g) (settleD (qZ S199 O199 Wy g).length 0 K) (settleD (qZ S199 O199 Wy g).length 0 X) 0:=by kernel_rfl
theorem F199_ok (g:prodL Wy) (K X:Kn) (h:F199 g K X):FCalls Tryz.prog 199 (argsT S199 Wy g) (qZ S199 O199 Wy g) K X 0:=
 FCalls.settleX (FCalls.settleD (qz (Γ:=qJ [] []) (mu:=qv []) (H:=H199) (J:=J199) qh (vN vC) qj rfl Tryz.func199 (c:=qq Tryz.f199) rfl Tryz.ntmps199 (rs:=[.tmp 2]) Tryz.results199 (by unfold qk;rw [Tryz.func199];kernel_rfl) (Nat.le_of_ble_eq_true (by kernel_rfl)) (X:=(settleD (qZ S199 O199 Wy g).length 0 X)) (c0:=0) (Eq.mp (F199_eq g K X) h)))
end Go.Proofs.YtbglndogddddoaaGreatDoor
namespace Go.Proofs.YtbglndogddddoaaGreatDoor
open Go.RowKit
attribute [local irreducible] qW qb
def H232:List (Nat×Hint):=[]
def J232:List (Nat×Hint):=[]
abbrev S232:List Sh:=[.leaf, .leaf]
abbrev L232:List Lf:=[.str, .str]
abbrev O232:List ObSh:=[]
def F232 (g:prodL L232) (K:Kn):Prop:=
 bif decide ((g.2.1.size:Int)<=(g.1.size:Int))then (
  (0:Int)<=0/\0<=(g.2.1.size:Int)/\(g.2.1.size:Int)<=(g.1.size:Int)/\
  K (.bool (decide (g.1.extract (0:Int).toNat (g.2.1.size:Int).toNat=g.2.1))) [])
 else (
  K (.bool false) [])
theorem F232_eq (g:prodL L232) (K X:Kn):F232 g K=qW D (qJ [] []) (qv []) H232 J232 18 [.tmp 4] (qq Tryz.f232) (argsT S232 L232 g) (qZ S232 O232 L232 g) (settle0 K) X 0:=by kernel_rfl
theorem F232_ok (g:prodL L232) (K X:Kn) (h:F232 g K):FCalls Tryz.prog 232 (argsT S232 L232 g) (qZ S232 O232 L232 g) K X 0:=
 FCalls.settle0 (qz qh (vN vC) qj rfl Tryz.func232 (c:=qq Tryz.f232) rfl Tryz.ntmps232 Tryz.results232 (by unfold qk;rw [Tryz.func232];kernel_rfl) (Nat.le_of_ble_eq_true (by kernel_rfl)) (c0:=0) (Eq.mp (F232_eq g K X) h))
def YH:Raw:=⟨S232,O232,L232,0,fun g K _=>F232 g K⟩
theorem rw232_ok:YH.Ok Tryz.prog 232:=fun g K X h=>F232_ok g K X h
def H221:List (Nat×Hint):=[]
def J221:List (Nat×Hint):=[(2,⟨[],[(0, .leaf),(1, .leaf),(7, .leaf)],[],[.str, .str, .bool]⟩)]
abbrev S221:List Sh:=[.leaf, .leaf]
abbrev L221:List Lf:=[.str, .str]
abbrev O221:List ObSh:=[]
def F221_J3 (K:Kn) (s_2 prefix_2:ByteArray) (t_2:Bool):Prop:=
 bif t_2 then (
  (0:Int)<=(prefix_2.size:Int)/\(prefix_2.size:Int)<=(s_2.size:Int)/\(s_2.size:Int)<=(s_2.size:Int)/\
  K (.str (s_2.extract (prefix_2.size:Int).toNat (s_2.size:Int).toNat)) [])
 else (
  K (.str s_2) [])
def F221 (g:prodL L221) (K:Kn):Prop:=
 let g1:prodL [.str, .str]:=(g.1,g.2.1,());
 bif decide ((g1.2.1.size:Int)<=(g1.1.size:Int))then (
  (0:Int)<=0/\0<=(g1.2.1.size:Int)/\(g1.2.1.size:Int)<=(g1.1.size:Int)/\
  F221_J3 K g.1 g.2.1 (decide (g1.1.extract (0:Int).toNat (g1.2.1.size:Int).toNat=g1.2.1)))
 else (
  F221_J3 K g.1 g.2.1 false)
theorem F221_eq (g:prodL L221) (K X:Kn):F221 g K=qW D (qJ [(232,YH)] []) (qv [(232,YH)]) H221 J221 13 [.tmp 4] (qq Tryz.f221) (argsT S221 L221 g) (qZ S221 O221 L221 g) (settle0 K) X 0:=by kernel_rfl
theorem F221_ok (g:prodL L221) (K X:Kn) (h:F221 g K):FCalls Tryz.prog 221 (argsT S221 L221 g) (qZ S221 O221 L221 g) K X 0:=
 FCalls.settle0 (qz (Γ:=qJ [(232,YH)] []) (mu:=qv [(232,YH)]) (H:=H221) (J:=J221) qh (qV (rs:=[(232,YH)]) (l:=[]) (by intro p hp;simp only [List.mem_cons,List.not_mem_nil,or_false] at hp;subst hp;exact rw232_ok) (fun p hp=>by cases hp)) qj rfl Tryz.func221 (c:=qq Tryz.f221) rfl Tryz.ntmps221 Tryz.results221 (by unfold qk;rw [Tryz.func221];kernel_rfl) (Nat.le_of_ble_eq_true (by kernel_rfl)) (c0:=0) (Eq.mp (F221_eq g K X) h))
def KJ:Raw:=⟨S221,O221,L221,0,fun g K _=>F221 g K⟩
theorem rw221_ok:KJ.Ok Tryz.prog 221:=fun g K X h=>F221_ok g K X h
def H203:List (Nat×Hint):=[]
def J203:List (Nat×Hint):=[]
abbrev S203:List Sh:=[.leaf, .leaf]
abbrev L203:List Lf:=[.str, .str]
abbrev O203:List ObSh:=[]
def F203_J4 (K:Kn) (s_3 prefix_3:ByteArray) (t_3:Bool):Prop:=
 bif t_3 then (
  (0:Int)<=(prefix_3.size:Int)/\(prefix_3.size:Int)<=(s_3.size:Int)/\(s_3.size:Int)<=(s_3.size:Int)/\
  K (.str (s_3.extract (prefix_3.size:Int).toNat (s_3.size:Int).toNat)) [])
 else (
  K (.str s_3) [])
def F203 (g:prodL L203) (K:Kn):Prop:=
 let g1:prodL [.str, .str]:=(g.1,g.2.1,());
 let g2:prodL [.str, .str]:=(g1.1,g1.2.1,());
 bif decide ((g2.2.1.size:Int)<=(g2.1.size:Int))then (
  (0:Int)<=0/\0<=(g2.2.1.size:Int)/\(g2.2.1.size:Int)<=(g2.1.size:Int)/\
  F203_J4 K g1.1 g1.2.1 (decide (g2.1.extract (0:Int).toNat (g2.2.1.size:Int).toNat=g2.2.1)))
 else (
  F203_J4 K g1.1 g1.2.1 false)
theorem F203_eq (g:prodL L203) (K X:Kn):F203 g K=qW D (qJ [(221,KJ)] []) (qv [(221,KJ)]) H203 J203 8 [.tmp 4] (qq Tryz.f203) (argsT S203 L203 g) (qZ S203 O203 L203 g) (settle0 K) X 0:=by kernel_rfl
theorem F203_ok (g:prodL L203) (K X:Kn) (h:F203 g K):FCalls Tryz.prog 203 (argsT S203 L203 g) (qZ S203 O203 L203 g) K X 0:=
 FCalls.settle0 (qz (Γ:=qJ [(221,KJ)] []) (mu:=qv [(221,KJ)]) (H:=H203) (J:=J203) qh (qV (rs:=[(221,KJ)]) (l:=[]) (by intro p hp;simp only [List.mem_cons,List.not_mem_nil,or_false] at hp;subst hp;exact rw221_ok) (fun p hp=>by cases hp)) qj rfl Tryz.func203 (c:=qq Tryz.f203) rfl Tryz.ntmps203 Tryz.results203 (by unfold qk;rw [Tryz.func203];kernel_rfl) (Nat.le_of_ble_eq_true (by kernel_rfl)) (c0:=0) (Eq.mp (F203_eq g K X) h))
def Kw:Raw:=⟨S203,O203,L203,0,fun g K _=>F203 g K⟩
theorem rw203_ok:Kw.Ok Tryz.prog 203:=fun g K X h=>F203_ok g K X h
def H152:List (Nat×Hint):=[(3,⟨[],[(0, .leaf),(3, .leaf),(8, .leaf),(9, .leaf)],[],[.str, .str, .int .i64, .int .i64]⟩)]
def J152:List (Nat×Hint):=[(2,⟨[],[(0, .leaf),(3, .leaf)],[],[.str, .str]⟩),(6,⟨[],[(0, .leaf),(3, .leaf),(8, .leaf),(9, .leaf),(21, .leaf)],[],[.str, .str, .int .i64, .int .i64, .bool]⟩)]
abbrev S152:List Sh:=[.leaf]
abbrev L152:List Lf:=[.str]
def Vr (K:Kn) (W8:prodL [.str, .str, .int .i64, .int .i64]->Prop) (s_11 digits_11:ByteArray) (t_11 t2_11:Int) (t3_11:Bool):Prop:=
 bif t3_11 then (
  K (.bool false) [])
 else (
  W8 (s_11,digits_11,t_11,IntKind.i64.wrap (t2_11+1),()))
def qqy (K:Kn) (W8:prodL [.str, .str, .int .i64, .int .i64]->Prop) (s_7 digits_7:ByteArray) (t_7 t2_7:Int):Prop:=
 bif decide (t2_7<t_7)then (
  JR digits_7 t2_7 fun b9=>
 bif decide (b9<48)then (
  Vr K W8 s_7 digits_7 t_7 t2_7 true)
 else (
  JR digits_7 t2_7 fun b10=>
  Vr K W8 s_7 digits_7 t_7 t2_7 (decide (57<b10))))
 else (
  bif !decide (digits_7=(⟨#[]⟩:ByteArray))then (
  JR digits_7 0 fun b13=>
  bif !decide (b13=48)then (
   K (.bool true) [])
  else (
   K (.bool (decide (s_7=(⟨#[48]⟩:ByteArray)))) []))
 else (
  K (.bool false) []))
def F152_L8 (K:Kn) (g:prodL [.str, .str, .int .i64, .int .i64]):Prop:=
 qX (γ:=prodL [.str, .str, .int .i64, .int .i64]) (fun V y=>qqy K V y.1 y.2.1 y.2.2.1 y.2.2.2.1) g
def ZI (K:Kn) (s_6 digits_6:ByteArray):Prop:=
 F152_L8 K (s_6,digits_6,(digits_6.size:Int),0,())
def XL (K:Kn) (g:prodL L152) (s_4 prefix_4:ByteArray) (t_4:Bool):Prop:=
 bif t_4 then (
  (0:Int)<=(prefix_4.size:Int)/\(prefix_4.size:Int)<=(s_4.size:Int)/\(s_4.size:Int)<=(s_4.size:Int)/\
  ZI K g.1 (s_4.extract (prefix_4.size:Int).toNat (s_4.size:Int).toNat))
 else (
  ZI K g.1 s_4)
def F152 (g:prodL L152) (K:Kn):Prop:=
 let g1:prodL [.str, .str]:=(g.1,(⟨#[45]⟩:ByteArray),());
 let g2:prodL [.str, .str]:=(g1.1,g1.2.1,());
 let g3:prodL [.str, .str]:=(g2.1,g2.2.1,());
 bif decide ((g3.2.1.size:Int)<=(g3.1.size:Int))then (
  (0:Int)<=0/\0<=(g3.2.1.size:Int)/\(g3.2.1.size:Int)<=(g3.1.size:Int)/\
  XL K g g2.1 g2.2.1 (decide (g3.1.extract (0:Int).toNat (g3.2.1.size:Int).toNat=g3.2.1)))
 else (
  XL K g g2.1 g2.2.1 false)
theorem F152_eq (g:prodL L152) (K X:Kn):F152 g K=qW D (qJ [(203,Kw)] []) (qv [(203,Kw)]) H152 J152 34 [.tmp 2] (qq Tryz.f152) (argsT S152 L152 g) [] (settle0 K) X:=by kernel_rfl
theorem F152_ok (g:prodL L152) (K X:Kn) (h:F152 g K):FCalls Tryz.prog 152 (argsT S152 L152 g) [] K X:=
 FCalls.settle0 (qz (Γ:=qJ [(203,Kw)] []) (mu:=qv [(203,Kw)]) (H:=H152) (J:=J152) qh (qV (rs:=[(203,Kw)]) (l:=[]) (by intro p hp;simp only [List.mem_cons,List.not_mem_nil,or_false] at hp;subst hp;exact rw203_ok) (fun p hp=>by cases hp)) qj rfl Tryz.func152 (c:=qq Tryz.f152) rfl Tryz.ntmps152 Tryz.results152 (by unfold qk;rw [Tryz.func152];kernel_rfl) (Nat.le_of_ble_eq_true (by kernel_rfl)) (c0:=0) (Eq.mp (F152_eq g K X) h))
end Go.Proofs.YtbglndogddddoaaGreatDoor
namespace Go.Proofs.YtbglndogddddoaaGreatDoor
open Go.RowKit
theorem xW (s:ByteArray):(bl s).length=s.size:=by unfold bl;simp
theorem bl_get (s:ByteArray) (n:Nat):s[n]? =(bl s)[n]? :=by
 unfold bl
 by_cases h:n<s.size
 . rw [getElem?_pos s n h,List.getElem?_eq_getElem (by simpa using h)]
   simp [ByteArray.getElem_eq_getElem_data]
 . rw [getElem?_neg s n h,List.getElem?_eq_none (by simpa using Nat.le_of_not_lt h)]
theorem QT (s:ByteArray) (a b:Nat):bl (s.extract a b)=((bl s).take b).drop a:=by
 unfold bl
 rw [ByteArray.data_extract,Array.toList_extract,List.extract_eq_take_drop,List.drop_take]
theorem WA {s t:ByteArray} (h:bl s=bl t):s=t:=by
 obtain ⟨s⟩:=s
 obtain ⟨t⟩:=t
 unfold bl at h
 simp only at h
 rw [Array.toList_inj.1 h]
theorem bl_mk (l:List UInt8):bl ⟨l.toArray⟩=l:=by simp [bl]
theorem mk_bl (s:ByteArray):(⟨(bl s).toArray⟩:ByteArray)=s:=by simp [bl]
theorem ZP {s:ByteArray} {n:Nat} {c:UInt8} {r:List UInt8} {K:Int->Prop} (h:(bl s).drop n=c::r) (hK:K (c.toNat:Int)):JR s (n:Int) K:=by
 refine ⟨by omega,c, ?_,hK⟩
 rw [Int.toNat_natCast,bl_get]
 have:=congrArg (·[0]?) h
 simpa using this
theorem wD {α:Type} {l r:List α} {n:Nat} {c:α} (h:l.drop n=c::r):l.drop (n+1)=r/\n<l.length/\r.length+n+1=l.length:=by
 have h1:=congrArg List.length h
 simp only [List.length_drop,List.length_cons] at h1
 refine ⟨?_,by omega,by omega⟩
 rw [<- List.drop_drop,h];rfl
theorem digit_val {c:UInt8} (h1:48<=c.toNat) (h2:c.toNat<=57):IntKind.i64.wrap (IntKind.u8.wrap ((c.toNat:Int) - 48))=((c.toNat-48:Nat):Int):=by
 have:IntKind.u8.wrap ((c.toNat:Int) - 48)=(c.toNat:Int) - 48:=by simp [IntKind.wrap,IntKind.bits,IntKind.signed];omega
 rw [this,jW (by omega) (by omega)];omega
def kx:Raw:=⟨S199,O199,Wy,0,fun g K X=>yW g/\nextF g K X⟩
theorem rw199_ok:kx.Ok Tryz.prog 199:=by
 rintro ⟨s,p,n,⟨⟩⟩ K X ⟨⟨h1,h2,h3⟩,h⟩
 refine F199_ok _ K X ?_
 obtain ⟨q,rfl⟩:=Int.eq_ofNat_of_zero_le h1
 unfold nextF at h
 unfold F199
 dsimp only [Lf.ty,prodL] at h2 h ⊢
 rw [Int.toNat_natCast] at h
 rw [qr]
 have hl:=xW s
 cases hd:(bl s).drop q with
 | nil=>
  have:=List.drop_eq_nil_iff.1 hd
  rw [hd] at h
  rw [if_pos (by omega)]
  exact h
 | cons c r=>
  obtain ⟨_,d2,_⟩:=wD hd
  rw [hd] at h
  rw [if_neg (by omega)]
  exact ZP hd h
end Go.Proofs.YtbglndogddddoaaGreatDoor
namespace Go.Proofs.YtbglndogddddoaaGreatDoor
open Go.RowKit
attribute [local irreducible] qW qb
def H200:List (Nat×Hint):=[(4,⟨[],[(0, .pt 0 0),(3, .leaf),(4, .leaf)],[.cells [.leaf, .leaf, .leaf]],[.int .i64, .bool, .str, .int .i64, .int .i64]⟩)]
def J200:List (Nat×Hint):=[(6,⟨[],[(0, .pt 0 0),(3, .leaf),(4, .leaf),(5, .leaf),(13, .leaf)],[.cells [.leaf, .leaf, .leaf]],[.int .i64, .bool, .int .u8, .bool, .str, .int .i64, .int .i64]⟩),(9,⟨[],[(0, .pt 0 0),(3, .leaf),(5, .leaf),(35, .leaf)],[.cells [.leaf, .leaf, .leaf]],[.int .i64, .int .u8, .bool, .str, .int .i64, .int .i64]⟩)]
abbrev S200:List Sh:=[.pt 0 0]
abbrev VQ:List Lf:=[.str, .int .i64, .int .i64]
abbrev O200:List ObSh:=[.cells [.leaf, .leaf, .leaf]]
def kG (K X:Kn) (W2:prodL [.int .i64, .bool, .str, .int .i64, .int .i64]->Prop) (n_7 c_7:Int) (t_7:Bool) (o01_7:ByteArray) (o02_7 o03_7:Int):Prop:=
 bif t_7 then (
  X (.ic 170 (.ag [.int .i64 12])) [some (.cells [.str o01_7, .int .i64 o02_7, .int .i64 o03_7])])
 else (
  bif decide (65536<IntKind.i64.wrap ((IntKind.i64.wrap (10*n_7))+(IntKind.i64.wrap (IntKind.u8.wrap (c_7-48)))))then (
  X (.ic 170 (.ag [.int .i64 12])) [some (.cells [.str o01_7, .int .i64 o02_7, .int .i64 o03_7])])
 else (
  W2 (IntKind.i64.wrap ((IntKind.i64.wrap (10*n_7))+(IntKind.i64.wrap (IntKind.u8.wrap (c_7-48)))),false,o01_7,IntKind.i64.wrap (o02_7+1),o03_7,())))
def Z2 (K X:Kn) (W2:prodL [.int .i64, .bool, .str, .int .i64, .int .i64]->Prop) (n_5:Int) (first_5:Bool) (c_5:Int) (t_5:Bool) (o01_5:ByteArray) (o02_5 o03_5:Int):Prop:=
 bif t_5 then (
  K (.int .i64 n_5) [some (.cells [.str o01_5, .int .i64 (IntKind.i64.wrap (o02_5+1)), .int .i64 o03_5])])
 else (
  bif decide (c_5<48)then (
  kG K X W2 n_5 c_5 true o01_5 o02_5 o03_5)
 else (
  bif decide (57<c_5)then (
   kG K X W2 n_5 c_5 true o01_5 o02_5 o03_5)
  else (
   bif !first_5 then (
    kG K X W2 n_5 c_5 (decide (n_5=0)) o01_5 o02_5 o03_5)
   else (
    kG K X W2 n_5 c_5 false o01_5 o02_5 o03_5))))
def F200_B2 (K X:Kn) (W2:prodL [.int .i64, .bool, .str, .int .i64, .int .i64]->Prop) (n_1:Int) (first_1:Bool) (o01_1:ByteArray) (o02_1 o03_1:Int):Prop:=
 yW (o01_1,o02_1,o03_1,())/\
 Res.go (headR ((bl o01_1).drop o02_1.toNat)) (fun a3=>
 bif decide ((a3.toNat:Int)=58)then (
  Z2 K X W2 n_1 first_1 (a3.toNat:Int) (!first_1) o01_1 o02_1 o03_1)
 else (
  Z2 K X W2 n_1 first_1 (a3.toNat:Int) false o01_1 o02_1 o03_1)) (fun e4=>
 X (.ic 170 (.ag [.int .i64 e4])) [some (.cells [.str o01_1, .int .i64 o02_1, .int .i64 o03_1])])
def F200_L2 (K X:Kn) (g:prodL [.int .i64, .bool, .str, .int .i64, .int .i64]):Prop:=
 qX (γ:=prodL [.int .i64, .bool, .str, .int .i64, .int .i64]) (fun V y=>F200_B2 K X V y.1 y.2.1 y.2.2.1 y.2.2.2.1 y.2.2.2.2.1) g
def F200 (g:prodL VQ) (K X:Kn):Prop:=
 F200_L2 K X (0,true,g.1,g.2.1,g.2.2.1,())
theorem F200_eq (g:prodL VQ) (K X:Kn):F200 g K X=qW D (qJ [(199,kx)] []) (qv [(199,kx)]) H200 J200 55 [.tmp 2] (qq Tryz.f200) (argsT S200 VQ g) (qZ S200 O200 VQ g) (settleD (qZ S200 O200 VQ g).length 0 K) (settleD (qZ S200 O200 VQ g).length 0 X) 0:=by kernel_rfl
theorem F200_ok (g:prodL VQ) (K X:Kn) (h:F200 g K X):FCalls Tryz.prog 200 (argsT S200 VQ g) (qZ S200 O200 VQ g) K X 0:=
 FCalls.settleX (FCalls.settleD (qz (Γ:=qJ [(199,kx)] []) (mu:=qv [(199,kx)]) (H:=H200) (J:=J200) qh (qV (rs:=[(199,kx)]) (l:=[]) (by intro p hp;simp only [List.mem_cons,List.not_mem_nil,or_false] at hp;subst hp;exact rw199_ok) (fun p hp=>by cases hp)) qj rfl Tryz.func200 (c:=qq Tryz.f200) rfl Tryz.ntmps200 (rs:=[.tmp 2]) Tryz.results200 (by unfold qk;rw [Tryz.func200];kernel_rfl) (Nat.le_of_ble_eq_true (by kernel_rfl)) (X:=(settleD (qZ S200 O200 VQ g).length 0 X)) (c0:=0) (Eq.mp (F200_eq g K X) h)))
end Go.Proofs.YtbglndogddddoaaGreatDoor
namespace Go.Proofs.YtbglndogddddoaaGreatDoor
open Go.RowKit
theorem F200_is {p:Nat} {s:ByteArray} {k:Int} {K X:Kn} (hp:p<=s.size) (hs:s.size<=2147483648) (h:numF (s,(p:Int),k,()) K X):F200 (s,(p:Int),k,()) K X:=by
 unfold numF at h
 dsimp only [Lf.ty,prodL] at h
 rw [Int.toNat_natCast] at h
 have hl:=xW s
 unfold F200 F200_L2
 dsimp only [Lf.ty,prodL]
 refine qX.of (fun g=> ∃(first:Bool) (n q:Nat),g=((n:Int),first,s,(q:Int),k,())/\q<=s.size/\n<=65536/\Res.go (yh first n ((bl s).drop q)) (fun a=>K (.int .i64 (a.1:Int)) [some (.cells [.str s, .int .i64 ((s.size:Int) - (a.2.length:Int)), .int .i64 k])]) (fun e=> ∀p:Int,X (.ic 170 (.ag [.int .i64 e])) [some (.cells [.str s, .int .i64 p, .int .i64 k])]))
  (fun g=>s.size-g.2.2.2.1.toNat) ?_ ⟨true,0,p,rfl,hp,by omega,h⟩
 rintro g ⟨first,n,q,rfl,i1,i2,i3⟩ W hW
 unfold F200_B2
 dsimp only
 refine ⟨⟨by dsimp only;omega,by dsimp only;omega,by rw [vq];exact hs⟩, ?_⟩
 rw [Int.toNat_natCast]
 cases hd:(bl s).drop q with
 | nil=>
  rw [hd] at i3
  exact i3 _
 | cons c r=>
  obtain ⟨d1,d2,d3⟩:=wD hd
  rw [hd] at i3
  simp only [yh] at i3
  show bif decide ((c.toNat:Int)=58)then _ else _
  have w1:IntKind.i64.wrap ((q:Int)+1)=((q+1:Nat):Int):=by rw [jW (by omega) (by omega)];omega
  have hJ8: ∀t:Bool,(t=true↔(c.toNat<48∨57<c.toNat∨(first=false/\n=0)))-> ¬(c.toNat=58/\first=false)->kG K X W (n:Int) (c.toNat:Int) t s (q:Int) k:=fun t ht hn=>by
   rw [if_neg hn] at i3
   unfold kG
   cases t
   . have hn2: ¬(c.toNat<48∨57<c.toNat∨(first=false/\n=0)):=fun h=>by have:=ht.2 h;cases this
     rw [if_neg hn2] at i3
     have h1:48<=c.toNat:=by omega
     have h2:c.toNat<=57:=by omega
     have hval:IntKind.i64.wrap ((IntKind.i64.wrap (10*(n:Int)))+(IntKind.i64.wrap (IntKind.u8.wrap ((c.toNat:Int) - 48))))=((10*n+(c.toNat-48):Nat):Int):=by
      rw [digit_val h1 h2,jW (n:=10*(n:Int)) (by omega) (by omega),jW (by omega) (by omega)];omega
     rw [cond_false,hval,qr,w1]
     by_cases h3:65536<10*n+(c.toNat-48)
     . rw [if_pos h3] at i3
       rw [if_pos (by omega)]
       exact i3 _
     . rw [if_neg h3] at i3
       rw [if_neg (by omega)]
       refine hW _ ⟨false,_,q+1,rfl,by omega,by omega,by rw [d1];exact i3⟩ ?_
       dsimp only
       rw [Int.toNat_natCast,Int.toNat_natCast];omega
   . rw [if_pos (ht.1 rfl)] at i3
     exact i3 _
  have hJ6: ¬(c.toNat=58/\first=false)->Z2 K X W (n:Int) first (c.toNat:Int) false s (q:Int) k:=fun hn=>by
   unfold Z2
   rw [cond_false,qr]
   split
   . exact hJ8 _ ⟨fun _=> .inl (by omega),fun _=>rfl⟩ hn
   . rw [qr]
     split
     . exact hJ8 _ ⟨fun _=> .inr (.inl (by omega)),fun _=>rfl⟩ hn
     . rw [wy]
       cases first
       . rw [cond_false]
         refine hJ8 _ ⟨fun h=> .inr (.inr ⟨rfl,by have:=of_decide_eq_true h;omega⟩),fun h=>decide_eq_true (by omega)⟩ hn
       . rw [cond_true]
         refine hJ8 false ⟨fun h=>Bool.noConfusion h,fun h=> ?_⟩ hn
         rcases h with h | h | h
         . omega
         . omega
         . cases h.1
  rw [qr]
  by_cases h58:c.toNat=58
  . rw [if_pos (by omega)]
    cases first
    . rw [if_pos ⟨h58,rfl⟩] at i3
      unfold Z2
      rw [Bool.not_false,cond_true,w1,show ((q+1:Nat):Int)=(s.size:Int) - (r.length:Int)by omega]
      exact i3
    . exact hJ6 (by simp)
  . rw [if_neg (by omega)]
    exact hJ6 (fun h=>h58 h.1)
def KT:Raw:=⟨S200,O200,VQ,0,fun g K X=>yW g/\numF g K X⟩
theorem rw200_ok:KT.Ok Tryz.prog 200:=by
 rintro ⟨s,p,n,⟨⟩⟩ K X ⟨⟨h1,h2,h3⟩,h⟩
 obtain ⟨q,rfl⟩:=Int.eq_ofNat_of_zero_le h1
 rw [vq] at h3
 exact F200_ok _ K X (F200_is (Int.ofNat_le.1 h2) (by dsimp only [Lf.ty] at *;omega) h)
theorem digs_cons (c:UInt8) (r:List UInt8):kC (c::r)=(decide (48<=c.toNat)&&decide (c.toNat<=57)&&kC r):=rfl
def strP (s:ByteArray):Prop:=s.size<=4294967296
theorem KM {s d:ByteArray} {K:Kn} (hs:d.size<=4294967296) (h:K (.bool (kC (bl d)&& !decide (bl d=[])&&(!wd (bl d)||decide (bl s=[48])))) []):ZI K s d:=by
 have hl:=xW d
 unfold ZI F152_L8
 refine qX.fold (bl d) (fun n (_:Unit)=>(s,d,(d.size:Int),(n:Int),())) (fun r n _=>K (.bool (kC r&& !decide (bl d=[])&&(!wd (bl d)||decide (bl s=[48])))) []/\(bl d).drop n=r) (a0:=()) rfl ⟨h,rfl⟩ (fun _ hp W=> ?_) (fun n hn r _ hr hp W hW=> ?_)
 . unfold qqy
   rw [qr,if_neg (by dsimp only;omega),wy,qr]
   have hp:=hp.1
   dsimp only
   have hd0:d=(⟨#[]⟩:ByteArray)↔bl d=[]:=⟨fun e=>by rw [e];rfl,fun e=>WA (by rw [e];rfl)⟩
   cases hb:bl d with
   | nil=>
    rw [hb] at hp
    rw [if_pos (hd0.2 hb)]
    exact hp
   | cons c r=>
    rw [hb] at hp
    rw [if_neg (fun e=>by rw [hd0.1 e] at hb;cases hb)]
    refine ZP (n:=0) (by rw [List.drop_zero];exact hb) ?_
    simp only [kC,List.all_nil,Bool.true_and,reduceCtorEq,decide_false,Bool.not_false,wd] at hp
    have e1:decide ((c.toNat:Int)=48)=decide (c.toNat=48):=decide_eq_decide.2 (by omega)
    have e2:decide (s=(⟨#[48]⟩:ByteArray))=decide (bl s=[48]):=decide_eq_decide.2 ⟨fun e=>by rw [e];rfl,fun e=>WA (by rw [e];rfl)⟩
    rw [wy,e1,e2]
    cases hx:decide (c.toNat=48)
    . rw [hx] at hp;exact hp
    . rw [hx] at hp;exact hp
 . unfold qqy
   obtain ⟨hp,hd⟩:=hp
   obtain ⟨d1,_,_⟩:=wD hd
   rw [qr,if_pos (by dsimp only;omega)]
   dsimp only
   refine ZP hd ?_
   rw [digs_cons] at hp
   rw [qr]
   split
   . rename_i h1
     rw [decide_eq_false (show¬48<=(bl d)[n].toNat by omega)] at hp
     exact hp
   . rename_i h1
     refine ZP hd ?_
     rw [decide_eq_true (show 48<=(bl d)[n].toNat by omega),Bool.true_and] at hp
     unfold Vr
     by_cases h2:57< (bl d)[n].toNat
     . rw [decide_eq_false (show¬(bl d)[n].toNat<=57 by omega)] at hp
       rw [decide_eq_true (by omega)]
       exact hp
     . rw [decide_eq_true (show (bl d)[n].toNat<=57 by omega),Bool.true_and] at hp
       rw [decide_eq_false (by omega),cond_false,jw hn (by omega)]
       exact hW () ⟨hp,d1⟩
theorem F152_is {s:ByteArray} {K:Kn} (hs:s.size<=4294967296) (h:K (.bool (Vb (bl s))) []):F152 (s,()) K:=by
 have hl:=xW s
 unfold F152
 dsimp only [Lf.ty,prodL]
 unfold Vb at h
 have hsz:(⟨#[45]⟩:ByteArray).size=1:=rfl
 have key:(bl s).head?≠some 45->XL K (s,()) s (⟨#[45]⟩:ByteArray) false:=fun hn=>by
  rw [if_neg hn] at h
  exact KM hs h
 rw [qr,hsz]
 cases hb:bl s with
 | nil=>
  rw [hb] at hl
  simp at hl
  rw [if_neg (by omega)]
  exact key (by rw [hb];simp)
 | cons c r=>
  rw [hb] at hl
  simp only [List.length_cons] at hl
  rw [if_pos (by omega)]
  refine ⟨by omega,by omega,by omega, ?_⟩
  have e1:bl (s.extract (0:Int).toNat ((1:Nat):Int).toNat)=[c]:=by rw [QT,hb];rfl
  have e2:decide (s.extract (0:Int).toNat ((1:Nat):Int).toNat=(⟨#[45]⟩:ByteArray))=decide (c=45):=decide_eq_decide.2 ⟨fun e=>by
   rw [e] at e1
   simp [bl] at e1
   exact e1.symm,fun e=>WA (by rw [e1,e];rfl)⟩
  rw [e2]
  by_cases hc:c=45
  . rw [decide_eq_true hc]
    unfold XL
    rw [cond_true,hsz]
    refine ⟨by omega,by omega,by omega, ?_⟩
    have he:bl (s.extract ((1:Nat):Int).toNat (s.size:Int).toNat)=r:=by
     rw [QT,hb,Int.toNat_natCast,Int.toNat_natCast,List.take_of_length_le (by simp only [List.length_cons];omega)];rfl
    rw [hb,hc] at h
    simp only [List.head?_cons,if_true,List.tail_cons] at h
    refine KM (by rw [<- xW,he];omega) ?_
    rw [he,hb,hc]
    exact h
  . rw [decide_eq_false hc]
    exact key (by rw [hb];simpa using hc)
def sp152:Sp:=⟨S152,L152,fun g=>strP g.1,fun g=> .bool (Vb (bl g.1)),fun _=>none⟩
theorem sp152_ok:sp152.Ok Tryz.prog 152 true:=
 ⟨by rintro ⟨s,⟨⟩⟩ K X q1 h;exact F152_ok _ _ X (F152_is q1 h),fun _ _ _=>rfl,fun _=>rfl,fun _ _=>⟨rfl,rfl⟩⟩
end Go.Proofs.YtbglndogddddoaaGreatDoor
namespace Go.Proofs.YtbglndogddddoaaGreatDoor
open Go.RowKit
attribute [local irreducible] qW qb
end Go.Proofs.YtbglndogddddoaaGreatDoor
namespace Go.Proofs.YtbglndogddddoaaGreatDoor
open Go.RowKit
attribute [local irreducible] qW qb
def H150:List (Nat×Hint):=[(13,⟨[((4,[]),none),((7,[]),none),((7,[2]),some .sexp)],[(0, .pt 0 0),(1, .leaf),(4, .pt 1 0),(7, .pt 2 0)],[.cells [.leaf, .leaf, .leaf], .cells [.leaf, .leaf, .nil], .cells [.leaf, .leaf, .oa .sexp 3], .arr .sexp],[.int .i64, .str, .int .i64, .int .i64, .bool, .str, .bool, .str, .sl .sexp]⟩)]
def J150:List (Nat×Hint):=[(4,⟨[((4,[]),none)],[(0, .pt 0 0),(1, .leaf),(4, .pt 1 0),(5, .leaf),(25, .leaf)],[.cells [.leaf, .leaf, .leaf], .cells [.leaf, .leaf, .nil]],[.int .i64, .int .u8, .bool, .str, .int .i64, .int .i64, .bool, .str]⟩)]
abbrev Ye:List Sh:=[.pt 0 0, .leaf]
abbrev we:List Lf:=[.int .i64, .str, .int .i64, .int .i64]
abbrev O150:List ObSh:=[.cells [.leaf, .leaf, .leaf]]
def yU (Z:prodL we->Prop):Raw:=⟨Ye,O150,we,0,fun g K X=>Z g/\sexpF g K X⟩
def F150_B17 (K X:Kn) (Z:prodL we->Prop) (W17:prodL [.int .i64, .str, .int .i64, .int .i64, .bool, .str, .bool, .str, .sl .sexp]->Prop) (level_16:Int) (o01_16:ByteArray) (o02_16 o03_16:Int) (t1_16:Bool) (t2_16:ByteArray) (out1_16:Bool) (out2_16:ByteArray) (out_16:List Sx):Prop:=
 yW (o01_16,o02_16,o03_16,())/\
 Res.go (headR ((bl o01_16).drop o02_16.toNat)) (fun a18=>
 bif !decide ((a18.toNat:Int)=41)then (
  Z (IntKind.i64.wrap (level_16+1),o01_16,o02_16,o03_16,())/\
 Res.go (Qr (13- (IntKind.i64.wrap (level_16+1))).toNat o03_16.toNat ((bl o01_16).drop o02_16.toNat)) (fun a20=>
 qP (out_16.length+[(⟨a20.1.isList,a20.1.atom,a20.1.list⟩:Sx)].length) 48 (
 W17 (level_16,o01_16,(o01_16.size:Int) - (a20.2.2.length:Int),(a20.2.1:Int),t1_16,t2_16,out1_16,out2_16,out_16++[(⟨a20.1.isList,a20.1.atom,a20.1.list⟩:Sx)],()))) (fun e21=> ∀(p22 m23:Int),
 ∀_:Tm,
 X (.ic 170 (.ag [.int .i64 e21])) [some (.cells [.str o01_16, .int .i64 p22, .int .i64 m23])]))
 else (
  K (.ag [.bool out1_16, .str out2_16, .sl false .sexp out_16]) [some (.cells [.str o01_16, .int .i64 (IntKind.i64.wrap (o02_16+1)), .int .i64 o03_16])])) (fun e19=>
 X (.ic 170 (.ag [.int .i64 e19])) [some (.cells [.str o01_16, .int .i64 o02_16, .int .i64 o03_16])])
def F150_L17 (K X:Kn) (Z:prodL we->Prop) (g:prodL [.int .i64, .str, .int .i64, .int .i64, .bool, .str, .bool, .str, .sl .sexp]):Prop:=
 qX (γ:=prodL [.int .i64, .str, .int .i64, .int .i64, .bool, .str, .bool, .str, .sl .sexp]) (fun V y=>F150_B17 K X Z V y.1 y.2.1 y.2.2.1 y.2.2.2.1 y.2.2.2.2.1 y.2.2.2.2.2.1 y.2.2.2.2.2.2.1 y.2.2.2.2.2.2.2.1 y.2.2.2.2.2.2.2.2.1) g
def kO (K X:Kn) (Z:prodL we->Prop) (level_3 c_3:Int) (t_3:Bool) (o01_3:ByteArray) (o02_3 o03_3:Int) (t1_3:Bool) (t2_3:ByteArray):Prop:=
 bif t_3 then (
  X (.ic 170 (.ag [.int .i64 12])) [some (.cells [.str o01_3, .int .i64 o02_3, .int .i64 o03_3])])
 else (
  bif !decide (c_3=40)then (
  yW (o01_3,o02_3,o03_3,())/\
  Res.go (yh true 0 ((bl o01_3).drop o02_3.toNat)) (fun a5=>
  bif decide (IntKind.i64.wrap ((o01_3.size:Int) - ((o01_3.size:Int) - (a5.2.length:Int))) < (a5.1:Int))then (
   X (.ic 170 (.ag [.int .i64 11])) [some (.cells [.str o01_3, .int .i64 ((o01_3.size:Int) - (a5.2.length:Int)), .int .i64 o03_3])])
  else (
   (0:Int)<=IntKind.i64.wrap ((IntKind.i64.wrap (((o01_3.size:Int) - (a5.2.length:Int))+(a5.1:Int))) - (a5.1:Int))/\IntKind.i64.wrap ((IntKind.i64.wrap (((o01_3.size:Int) - (a5.2.length:Int))+(a5.1:Int))) - (a5.1:Int))<=IntKind.i64.wrap (((o01_3.size:Int) - (a5.2.length:Int))+(a5.1:Int))/\IntKind.i64.wrap (((o01_3.size:Int) - (a5.2.length:Int))+(a5.1:Int))<=(o01_3.size:Int)/\
  K (.ag [.bool false, .str (o01_3.extract (IntKind.i64.wrap ((IntKind.i64.wrap (((o01_3.size:Int) - (a5.2.length:Int))+(a5.1:Int))) - (a5.1:Int))).toNat (IntKind.i64.wrap (((o01_3.size:Int) - (a5.2.length:Int))+(a5.1:Int))).toNat), .nil]) [some (.cells [.str o01_3, .int .i64 (IntKind.i64.wrap (((o01_3.size:Int) - (a5.2.length:Int))+(a5.1:Int))), .int .i64 o03_3])])) (fun e6=> ∀p7:Int,
  X (.ic 170 (.ag [.int .i64 e6])) [some (.cells [.str o01_3, .int .i64 p7, .int .i64 o03_3])]))
 else (
  F150_L17 K X Z (level_3,o01_3,IntKind.i64.wrap (o02_3+1),o03_3,t1_3,t2_3,true,(⟨#[]⟩:ByteArray),[],())))
def F150 (Z:prodL we->Prop) (g:prodL we) (K X:Kn):Prop:=
 yW (g.2.1,g.2.2.1,g.2.2.2.1,())/\
 Res.go (headR ((bl g.2.1).drop g.2.2.1.toNat)) (fun a1=>
 bif decide (20000<IntKind.i64.wrap (g.2.2.2.1+1))then (
  kO K X Z g.1 (a1.toNat:Int) true g.2.1 g.2.2.1 (IntKind.i64.wrap (g.2.2.2.1+1)) false (⟨#[]⟩:ByteArray))
 else (
  kO K X Z g.1 (a1.toNat:Int) (decide (12<g.1)) g.2.1 g.2.2.1 (IntKind.i64.wrap (g.2.2.2.1+1)) false (⟨#[]⟩:ByteArray))) (fun e2=>
 X (.ic 170 (.ag [.int .i64 e2])) [some (.cells [.str g.2.1, .int .i64 g.2.2.1, .int .i64 g.2.2.2.1])])
theorem F150_eq (Z:prodL we->Prop) (g:prodL we) (K X:Kn):F150 Z g K X=qW D (qJ [(150,yU Z),(199,kx),(200,KT)] []) (qv [(150,yU Z),(199,kx),(200,KT)]) H150 J150 98 [.cell 4 85] (qq Tryz.f150) (argsT Ye we g) (qZ Ye O150 we g) (settleG (qZ Ye O150 we g).length 0 K) (settleD (qZ Ye O150 we g).length 0 X) 0:=by kernel_rfl
theorem F150_ok (Z:prodL we->Prop) (hZ:(yU Z).Ok Tryz.prog 150) (g:prodL we) (K X:Kn) (h:F150 Z g K X):FCalls Tryz.prog 150 (argsT Ye we g) (qZ Ye O150 we g) K X 0:=
 FCalls.settleX (FCalls.settleG (qz (Γ:=qJ [(150,yU Z),(199,kx),(200,KT)] []) (mu:=qv [(150,yU Z),(199,kx),(200,KT)]) (H:=H150) (J:=J150) qh (qV (rs:=[(150,yU Z),(199,kx),(200,KT)]) (l:=[]) (by intro p hp;simp only [List.mem_cons,List.not_mem_nil,or_false] at hp;rcases hp with rfl | rfl | rfl<;>first | exact hZ | exact rw199_ok | exact rw200_ok) (fun p hp=>by cases hp)) qj rfl Tryz.func150 (c:=qq Tryz.f150) rfl Tryz.ntmps150 (rs:=[.cell 4 85]) Tryz.results150 (by unfold qk;rw [Tryz.func150];kernel_rfl) (Nat.le_of_ble_eq_true (by kernel_rfl)) (X:=(settleD (qZ Ye O150 we g).length 0 X)) (c0:=0) (Eq.mp (F150_eq Z g K X) h)))
end Go.Proofs.YtbglndogddddoaaGreatDoor
namespace Go.Proofs.YtbglndogddddoaaGreatDoor
open Go.RowKit
theorem numR_ok: ∀(l:List UInt8) (first:Bool) (n m:Nat) (r:List UInt8),yh first n l= .ok (m,r)->(∃p,p≠[]/\l=p++r)/\(n<=65536->m<=65536)
 | [],_,_,_,_,h=>by simp [yh] at h
 | c::l,first,n,m,r,h=>by
  simp only [yh] at h
  split at h
  . simp only [Res.ok.injEq,Prod.mk.injEq] at h
    obtain ⟨rfl,rfl⟩:=h
    exact ⟨⟨[c],by simp,rfl⟩,fun h=>h⟩
  . split at h
    . cases h
    . split at h
      . cases h
      . rename_i h3
        obtain ⟨⟨p,_,hp⟩,hm⟩:=numR_ok l false _ m r h
        exact ⟨⟨c::p,by simp,by rw [hp];rfl⟩,fun _=>hm (by omega)⟩
theorem numR_err: ∀(l:List UInt8) (first:Bool) (n:Nat) (e:Int),yh first n l= .err e->e=11∨e=12
 | [],_,_,_,h=>by simp only [yh,Res.err.injEq] at h;exact .inl h.symm
 | c::l,first,n,e,h=>by
  simp only [yh] at h
  split at h
  . cases h
  . split at h
    . simp only [Res.err.injEq] at h;exact .inr h.symm
    . split at h
      . simp only [Res.err.injEq] at h;exact .inr h.symm
      . exact numR_err l false _ e h
theorem atomR_ok {l a r:List UInt8} (h:ZT l= .ok (a,r)): ∃p,p≠[]/\l=p++a++r:=by
 unfold ZT atomG at h
 split at h
 . cases h
 . rename_i n q hq
   split at h
   . cases h
   . simp only [Res.ok.injEq,Prod.mk.injEq] at h
     obtain ⟨rfl,rfl⟩:=h
     obtain ⟨⟨p,h1,h2⟩,_⟩:=numR_ok l true 0 n q hq
     exact ⟨p,h1,by rw [List.append_assoc,List.take_append_drop];exact h2⟩
theorem atomR_err {l:List UInt8} {e:Int} (h:ZT l= .err e):e=11∨e=12:=by
 unfold ZT atomG at h
 split at h
 . rename_i e' h'
   simp only [Res.err.injEq] at h
   subst h
   exact numR_err l true 0 _ h'
 . split at h
   . simp only [Res.err.injEq] at h;exact .inl h.symm
   . cases h
def Sound (f:Nat->List UInt8->Res (Sx×Nat×List UInt8) Int):Prop:=
 ∀(k:Nat) (l:List UInt8),k<=20000->(∀x k' r,f k l= .ok (x,k',r)->(∃p,p≠[]/\l=p++r/\xx x<=4*p.length)/\k<k'/\k'<=20000)/\ ∀e,f k l= .err e->e=11∨e=12
theorem Y8 {f:Nat->List UInt8->Res (Sx×Nat×List UInt8) Int} (hf:Sound f): ∀(m k:Nat) (l:List UInt8) (acc:List Sx),k<=20000->l.length<m->
  (∀xs k' r,rdL f m k l acc= .ok (xs,k',r)->(∃p ys,p≠[]/\l=p++r/\xs=acc++ys/\qu ys<=4*(p.length-1))/\k<=k'/\k'<=20000)/\ ∀e,rdL f m k l acc= .err e->e=11∨e=12
 | 0,_,_,_,_,h=>absurd h (Nat.not_lt_zero _)
 | m+1,k,[],acc,hk,_=>⟨fun _ _ _ h=>(by simp [rdL] at h),fun e h=>by simp only [rdL,Res.err.injEq] at h;exact .inl h.symm⟩
 | m+1,k,c::l,acc,hk,hm=>by
  simp only [rdL]
  by_cases hc:c.toNat=41
  . rw [if_pos hc]
    refine ⟨fun xs k' r h=> ?_,fun e h=>by cases h⟩
    simp only [Res.ok.injEq,Prod.mk.injEq] at h
    obtain ⟨rfl,rfl,rfl⟩:=h
    exact ⟨⟨[c],[],by simp,rfl,by simp,by simp [qu]⟩,Nat.le_refl _,hk⟩
  . rw [if_neg hc]
    obtain ⟨h1,h2⟩:=hf k (c::l) hk
    cases hx:f k (c::l)with
    | err e=>exact ⟨fun _ _ _ h=>(by cases h),fun e' h=>by simp only [Res.err.injEq] at h;subst h;exact h2 e hx⟩
    | ok a=>
     obtain ⟨x,k',r'⟩:=a
     obtain ⟨⟨p,hp,hl,hb⟩,q1,q2⟩:=h1 x k' r' hx
     have hlen:r'.length<m:=by
      have:=congrArg List.length hl
      have:0<p.length:=List.length_pos_iff.2 hp
      simp only [List.length_append,List.length_cons] at *;omega
     obtain ⟨g1,g2⟩:=Y8 hf m k' r' (acc++[x]) q2 hlen
     refine ⟨fun xs k2 r h=> ?_,fun e h=>g2 e h⟩
     obtain ⟨⟨p2,ys,hp2,hl2,hxs,hbs⟩,q3,q4⟩:=g1 xs k2 r h
     have hpl:0<p2.length:=List.length_pos_iff.2 hp2
     have hpl1:0<p.length:=List.length_pos_iff.2 hp
     refine ⟨⟨p++p2,x::ys,by simp [hp],by rw [hl,hl2,List.append_assoc],by rw [hxs];simp, ?_⟩,by omega,q4⟩
     simp only [qu,List.length_append];omega
theorem Jn: ∀(d:Nat),Sound (Qr d)
 | 0=>fun k l hk=>by
  cases l with
  | nil=>exact ⟨fun _ _ _ h=>(by simp [Qr] at h),fun e h=>by simp only [Qr,Res.err.injEq] at h;exact .inl h.symm⟩
  | cons c l=>exact ⟨fun _ _ _ h=>(by simp [Qr] at h),fun e h=>by simp only [Qr,Res.err.injEq] at h;exact .inr h.symm⟩
 | d+1=>fun k l hk=>by
  cases l with
  | nil=>exact ⟨fun _ _ _ h=>(by simp [Qr] at h),fun e h=>by simp only [Qr,Res.err.injEq] at h;exact .inl h.symm⟩
  | cons c l=>
   simp only [Qr]
   by_cases h1:20000<k+1
   . rw [if_pos h1]
     exact ⟨fun _ _ _ h=>(by cases h),fun e h=>by simp only [Res.err.injEq] at h;exact .inr h.symm⟩
   rw [if_neg h1]
   by_cases h2:c.toNat≠40
   . rw [if_pos h2]
     cases ha:ZT (c::l)with
     | err e=>exact ⟨fun _ _ _ h=>(by cases h),fun e' h=>by simp only [Res.err.injEq] at h;subst h;exact atomR_err ha⟩
     | ok a=>
      obtain ⟨a,r⟩:=a
      refine ⟨fun x k' r' h=> ?_,fun e h=>by cases h⟩
      simp only [Res.ok.injEq,Prod.mk.injEq] at h
      obtain ⟨rfl,rfl,rfl⟩:=h
      obtain ⟨p,hp,hl⟩:=atomR_ok ha
      have:0<p.length:=List.length_pos_iff.2 hp
      refine ⟨⟨p++a,by simp [hp],hl, ?_⟩,by omega,by omega⟩
      have hsz:(⟨a.toArray⟩:ByteArray).size=a.length:=by rw [<- xW,bl_mk]
      simp only [xx,qu,hsz,List.length_append];omega
   . rw [if_neg h2]
     obtain ⟨g1,g2⟩:=Y8 (Jn d) (l.length+1) (k+1) l [] (by omega) (Nat.lt_succ_self _)
     cases hx:rdL (Qr d) (l.length+1) (k+1) l [] with
     | err e=>exact ⟨fun _ _ _ h=>(by cases h),fun e' h=>by simp only [Res.err.injEq] at h;subst h;exact g2 e hx⟩
     | ok a=>
      obtain ⟨xs,k',r⟩:=a
      refine ⟨fun x k2 r2 h=> ?_,fun e h=>by cases h⟩
      simp only [Res.ok.injEq,Prod.mk.injEq] at h
      obtain ⟨rfl,rfl,rfl⟩:=h
      obtain ⟨⟨p,ys,hp,hl,hxs,hb⟩,q1,q2⟩:=g1 xs k' r hx
      rw [List.nil_append] at hxs
      subst hxs
      have:0<p.length:=List.length_pos_iff.2 hp
      have hsz:(⟨#[]⟩:ByteArray).size=0:=rfl
      refine ⟨⟨c::p,by simp,by rw [hl];rfl, ?_⟩,by omega,q2⟩
      simp only [xx,hsz,List.length_cons];omega
theorem YG {s:ByteArray} {q:Nat} {p r:List UInt8} (h:(bl s).drop q=p++r) (hq:q<=s.size):(s.size:Int) - (r.length:Int)=((q+p.length:Nat):Int)/\(bl s).drop (q+p.length)=r/\q+p.length<=s.size:=by
 have hl:=xW s
 have h1:=congrArg List.length h
 simp only [List.length_drop,List.length_append] at h1
 refine ⟨by omega, ?_,by omega⟩
 rw [<- List.drop_drop,h,List.drop_left' rfl]
end Go.Proofs.YtbglndogddddoaaGreatDoor
namespace Go.Proofs.YtbglndogddddoaaGreatDoor
open Go.RowKit
theorem wkK_of {K:Kn} {r:T} {s:St} (h:K r s):xp K r s:=⟨r,za.refl r,h⟩
theorem WB {b:Bool} {a:ByteArray}:za (.ag [.bool b, .str a, .nil]) (.ag [.bool b, .str a, .sl false .sexp []]):=
 za.ag (qt.cons (za.refl _) (qt.cons (za.refl _) (qt.cons (za.nil .sexp) qt.nil)))
theorem yP {K:Kn} {b:Bool} {a:ByteArray} {v:T} {s:St} (h:K (.tu [.ag [.bool b, .str a, .sl false .sexp []],v]) s):xp K (.tu [.ag [.bool b, .str a, .nil],v]) s:=
 ⟨_,za.tu (qt.cons WB (qt.cons (za.refl _) qt.nil)),h⟩
theorem wkK_nil1 {K:Kn} {b:Bool} {a:ByteArray} {s:St} (h:K (.ag [.bool b, .str a, .sl false .sexp []]) s):xp K (.ag [.bool b, .str a, .nil]) s:=⟨_,WB,h⟩
theorem F150_is {Z:prodL we->Prop} {s:ByteArray} {p k d:Nat} {K X:Kn} (hp:p<=s.size) (hs:s.size<=2147483648) (hk:k<=20000) (hd:d<=12)
  (hZ: ∀q k':Nat,q<=s.size->k'<=20000->1<=d->Z (13- ((d-1:Nat):Int),s,(q:Int),(k':Int),())) (h:sexpF (13- (d:Int),s,(p:Int),(k:Int),()) K X):F150 Z (13- (d:Int),s,(p:Int),(k:Int),()) (xp K) X:=by
 unfold sexpF at h
 dsimp only [Lf.ty,prodL] at h
 rw [Int.toNat_natCast,Int.toNat_natCast,show (13- (13- (d:Int))).toNat=d by omega] at h
 have hl:=xW s
 have hpre: ∀q:Nat,q<=s.size-> ∀n:Int,yW (s,(q:Int),n,()):=fun q hq n=>⟨by dsimp only;omega,by dsimp only;omega,by rw [vq];exact hs⟩
 unfold F150
 dsimp only [Lf.ty,prodL]
 refine ⟨hpre p hp _, ?_⟩
 rw [Int.toNat_natCast]
 cases hdr:(bl s).drop p with
 | nil=>
  rw [hdr,show Qr d k []= .err 11 by cases d<;>rfl] at h
  exact h _ _
 | cons c r=>
  obtain ⟨d1,d2,d3⟩:=wD hdr
  rw [hdr] at h
  show bif decide (20000<IntKind.i64.wrap ((k:Int)+1))then _ else _
  have w1:IntKind.i64.wrap ((k:Int)+1)=((k+1:Nat):Int):=by rw [jW (by omega) (by omega)];omega
  have w2:IntKind.i64.wrap ((p:Int)+1)=((p+1:Nat):Int):=by rw [jW (by omega) (by omega)];omega
  rw [w1,qr]
  cases d with
  | zero=>
   have hX: ∀a b:Int,X (.ic 170 (.ag [.int .i64 12])) [some (.cells [.str s, .int .i64 a, .int .i64 b])]:=h
   split
   . unfold kO;exact hX _ _
   . unfold kO;rw [decide_eq_true (by omega),cond_true];exact hX _ _
  | succ d=>
   simp only [Qr] at h
   by_cases hk1:20000<k+1
   . rw [if_pos hk1] at h
     rw [if_pos (by omega)]
     unfold kO
     exact h _ _
   rw [if_neg hk1] at h
   rw [if_neg (by omega),decide_eq_false (by omega)]
   unfold kO
   rw [cond_false,wy,qr]
   by_cases hc:c.toNat=40
   . rw [if_pos (by omega),w2]
     rw [if_neg (by simpa using hc)] at h
     unfold F150_L17
     let Kok (a:List Sx×Nat×List UInt8):Prop:=K (.ag [.bool true, .str (⟨#[]⟩:ByteArray), .sl false .sexp a.1]) [some (.cells [.str s, .int .i64 ((s.size:Int) - (a.2.2.length:Int)), .int .i64 (a.2.1:Int)])]
     let Kerr (e:Int):Prop:= ∀(p m:Int),X (.ic 170 (.ag [.int .i64 e])) [some (.cells [.str s, .int .i64 p, .int .i64 m])]
     have h0:Res.go (rdL (Qr d) (r.length+1) (k+1) r []) Kok Kerr:=by
      cases hx:rdL (Qr d) (r.length+1) (k+1) r [] with
      | ok a=>rw [hx] at h;exact h
      | err e=>rw [hx] at h;exact h
     refine qX.of (fun g=> ∃(q k':Nat) (acc:List Sx) (m:Nat),g=(13- ((d+1:Nat):Int),s,(q:Int),(k':Int),false,(⟨#[]⟩:ByteArray),true,(⟨#[]⟩:ByteArray),acc,())/\q<=s.size/\k'<=20000/\acc.length<=q/\((bl s).drop q).length<m/\Res.go (rdL (Qr d) m k' ((bl s).drop q) acc) Kok Kerr)
      (fun g=>s.size-g.2.2.1.toNat) ?_ ⟨p+1,k+1,[],r.length+1,rfl,by omega,by omega,by simp,by rw [d1];omega,by rw [d1];exact h0⟩
     rintro g ⟨q,k',acc,m,rfl,i1,i2,i3,i4,i5⟩ W hW
     unfold F150_B17
     dsimp only
     refine ⟨hpre q i1 _, ?_⟩
     rw [Int.toNat_natCast]
     obtain ⟨m',rfl⟩: ∃m',m=m'+1:=⟨m-1,by omega⟩
     cases hdq:(bl s).drop q with
     | nil=>
      rw [hdq] at i5
      exact i5 _ _
     | cons c2 r2=>
      obtain ⟨e1,e2,e3⟩:=wD hdq
      rw [hdq] at i5 i4
      show bif !decide ((c2.toNat:Int)=41)then _ else _
      rw [wy,qr]
      by_cases h41:c2.toNat=41
      . rw [if_pos (by omega)]
        simp only [rdL,if_pos h41] at i5
        rw [jW (n:=(q:Int)+1) (by omega) (by omega),show (q:Int)+1=(s.size:Int) - (r2.length:Int)by omega]
        exact wkK_of i5
      . rw [if_neg (by omega)]
        simp only [rdL,if_neg h41] at i5
        have w3:IntKind.i64.wrap (13- ((d+1:Nat):Int)+1)=13- (d:Int):=by rw [jW (by omega) (by omega)];omega
        rw [w3]
        have hz:=hZ q k' i1 i2 (by omega)
        rw [show d+1-1=d from rfl] at hz
        refine ⟨hz, ?_⟩
        rw [Int.toNat_natCast,show (13- (13- (d:Int))).toNat=d by omega]
        obtain ⟨s1,s2⟩:=Jn d k' (c2::r2) i2
        cases hx:Qr d k' (c2::r2)with
        | err e=>
         rw [hx] at i5
         exact fun a b _=>i5 a b
        | ok a=>
         obtain ⟨x,k2,l2⟩:=a
         rw [hx] at i5
         obtain ⟨⟨pp,p1,p2,p3⟩,q1,q2⟩:=s1 x k2 l2 hx
         have hppl:0<pp.length:=List.length_pos_iff.2 p1
         obtain ⟨z1,z2,z3⟩:=YG (hdq.trans p2) i1
         show qP _ _ _
         refine ⟨by simp only [List.length_cons,List.length_nil];omega, ?_⟩
         rw [Sx.eta]
         simp only
         rw [z1]
         refine hW _ ⟨q+pp.length,k2,acc++[x],m',rfl,z3,q2,by simp;omega, ?_,by rw [z2];exact i5⟩ ?_
         . rw [z2]
           have:=congrArg List.length p2
           simp only [List.length_append,List.length_cons] at this i4;omega
         . dsimp only
           rw [Int.toNat_natCast,Int.toNat_natCast];omega
   . rw [if_neg (by omega)]
     rw [if_pos hc] at h
     refine ⟨hpre p hp _, ?_⟩
     rw [Int.toNat_natCast,hdr]
     unfold ZT atomG at h
     cases ha:yh true 0 (c::r)with
     | err e=>
      rw [ha] at h
      exact fun a=>h _ _
     | ok a=>
      obtain ⟨n,l2⟩:=a
      rw [ha] at h
      obtain ⟨⟨pp,p1,p2⟩,hn⟩:=numR_ok _ _ _ _ _ ha
      obtain ⟨z1,z2,z3⟩:=YG (hdr.trans p2) hp
      have hz2:=congrArg List.length z2
      rw [List.length_drop] at hz2
      have hn:=hn (by omega)
      simp only at h
      show bif decide (IntKind.i64.wrap ((s.size:Int) - ((s.size:Int) - (l2.length:Int))) < (n:Int))then _ else _
      rw [z1,qr,jW (n:=(s.size:Int) - ((p+pp.length:Nat):Int)) (by omega) (by omega),jW (n:=((p+pp.length:Nat):Int)+(n:Int)) (by omega) (by omega),jW (by omega) (by omega)]
      by_cases hlt:l2.length<n
      . rw [if_pos hlt] at h
        rw [if_pos (by omega)]
        exact h _ _
      . rw [if_neg hlt] at h
        rw [if_neg (by omega)]
        refine ⟨by omega,by omega,by omega,wkK_nil1 ?_⟩
        have e1:s.extract (((p+pp.length:Nat):Int)+(n:Int) - (n:Int)).toNat (((p+pp.length:Nat):Int)+(n:Int)).toNat=⟨(l2.take n).toArray⟩:=by
         apply WA
         rw [show bl ⟨(l2.take n).toArray⟩=l2.take n from bl_mk _,QT,show (((p+pp.length:Nat):Int)+(n:Int) - (n:Int)).toNat=p+pp.length by omega,show (((p+pp.length:Nat):Int)+(n:Int)).toNat=p+pp.length+n by omega,List.drop_take,z2,show p+pp.length+n- (p+pp.length)=n by omega]
        have e2:((p+pp.length:Nat):Int)+(n:Int)=(s.size:Int) - ((l2.drop n).length:Int):=by rw [List.length_drop];omega
        rw [e1,e2]
        exact h
def Va:Raw:=yU wz
theorem Kt: ∀n:Nat,(yU fun g=>wz g/\13-g.1< (n:Int)).Ok Tryz.prog 150
 | 0=>by
  have key: ∀(lv:Int) (s:ByteArray) (p k:Int),wz (lv,s,p,k,())->13-lv<0->False:=fun lv s p k h h2=>by
   obtain ⟨⟨_,_⟩,_⟩:(1<=lv/\lv<=13)/\(0<=p/\p<=(s.size:Int)/\s.size<=2*j6)/\(0<=k/\k<=20000):=h
   omega
  rintro ⟨lv,s,p,k,⟨⟩⟩ K X ⟨⟨h,h2⟩,_⟩
  exact (key lv s p k h h2).elim
 | n+1=>by
  have key: ∀(lv:Int) (s:ByteArray) (p k:Int) (K X:Kn),wz (lv,s,p,k,())->13-lv< ((n+1:Nat):Int)->sexpF (lv,s,p,k,()) K X->FCalls Tryz.prog 150 (argsT Ye we (lv,s,p,k,())) (qZ Ye O150 we (lv,s,p,k,())) K X:=fun lv s p k K X h m hF=>by
   obtain ⟨⟨e1,e2⟩,⟨a1,a2,a3⟩,b1,b2⟩:(1<=lv/\lv<=13)/\(0<=p/\p<=(s.size:Int)/\s.size<=2*j6)/\(0<=k/\k<=20000):=h
   obtain ⟨p,rfl⟩:=Int.eq_ofNat_of_zero_le a1
   obtain ⟨k,rfl⟩:=Int.eq_ofNat_of_zero_le b1
   obtain ⟨d,rfl⟩: ∃d:Nat,lv=13- (d:Int):=⟨(13-lv).toNat,by omega⟩
   rw [vq] at a3
   have hz: ∀q k':Nat,q<=s.size->k'<=20000->1<=d->((1<=13- ((d-1:Nat):Int)/\13- ((d-1:Nat):Int)<=13)/\(0<=(q:Int)/\(q:Int)<=(s.size:Int)/\s.size<=2*j6)/\(0<=(k':Int)/\(k':Int)<=20000))/\13- (13- ((d-1:Nat):Int)) < (n:Int):=fun q k' q1 q2 q3=>by rw [vq];omega
   exact FCalls.weak (F150_ok _ (Kt n) _ _ X (F150_is (X:=X) (by omega) a3 (by omega) (by omega) hz hF))
  rintro ⟨lv,s,p,k,⟨⟩⟩ K X ⟨⟨h,m⟩,hF⟩
  exact key lv s p k K X h m hF
theorem rw150_ok:Va.Ok Tryz.prog 150:=fun g K X h=>Kt ((13-g.1).toNat+1) g K X ⟨⟨h.1,by
 have key: ∀(lv:Int) (s:ByteArray) (p k:Int),wz (lv,s,p,k,())->13-lv< (((13-lv).toNat+1:Nat):Int):=fun lv s p k h=>by
  obtain ⟨⟨_,_⟩,_⟩:(1<=lv/\lv<=13)/\(0<=p/\p<=(s.size:Int)/\s.size<=2*j6)/\(0<=k/\k<=20000):=h
  omega
 obtain ⟨lv,s,p,k,⟨⟩⟩:=g
 exact key lv s p k h.1⟩,h.2⟩
end Go.Proofs.YtbglndogddddoaaGreatDoor
namespace Go.Proofs.YtbglndogddddoaaGreatDoor
open Go.RowKit Go.Shelf
def qqv:Go.Shelf.Ren:=⟨fun | 171=>209 | 243=>228 | 246=>236 | 283=>240 | 284=>241 | 285=>242 | 286=>243 | 129=>148 | 317=>244 | 318=>245 | 319=>246 | 320=>247 | 337=>248 | 338=>249 | n=>n,fun | 3=>3 | 9=>9 | 2=>2 | 4=>4 | 171=>250 | 0=>0 | 53=>137 | 37=>69 | 5=>5 | 173=>252 | 212=>255 | 51=>100 | 20=>20 | 213=>256 | 46=>118 | 232=>31 | 233=>257 | n=>n,fun | 17=>3 | 18=>4 | 19=>5 | n=>n⟩
theorem laysItoa:Go.Proofs.LaysM.n171 Tryz.prog qqv:={
 mixed:=by kernel_rfl
 f129:=Tryz.func148.trans (congrArg some (by kernel_rfl))
 f171:=Tryz.func209.trans (congrArg some (by kernel_rfl))
 f243:=Tryz.func228.trans (congrArg some (by kernel_rfl))
 f246:=Tryz.func236.trans (congrArg some (by kernel_rfl))
 f283:=Tryz.func240.trans (congrArg some (by kernel_rfl))
 f284:=Tryz.func241.trans (congrArg some (by kernel_rfl))
 f285:=Tryz.func242.trans (congrArg some (by kernel_rfl))
 f286:=Tryz.func243.trans (congrArg some (by kernel_rfl))
 f317:=Tryz.func244.trans (congrArg some (by kernel_rfl))
 f318:=Tryz.func245.trans (congrArg some (by kernel_rfl))
 f319:=Tryz.func246.trans (congrArg some (by kernel_rfl))
 f320:=Tryz.func247.trans (congrArg some (by kernel_rfl))
 f337:=Tryz.func248.trans (congrArg some (by kernel_rfl))
 f338:=Tryz.func249.trans (congrArg some (by kernel_rfl))
 t0:=Tryz.underlying0
 a0:=Tryz.isAgg0
 z0:=Tryz.sizeOf0
 v0:=Tryz.zeroValue0
 t2:=Tryz.underlying2
 a2:=Tryz.isAgg2
 z2:=Tryz.sizeOf2
 v2:=Tryz.zeroValue2
 t3:=Tryz.underlying3
 a3:=Tryz.isAgg3
 z3:=Tryz.sizeOf3
 v3:=Tryz.zeroValue3
 t4:=Tryz.underlying4
 a4:=Tryz.isAgg4
 z4:=Tryz.sizeOf4
 v4:=Tryz.zeroValue4
 t5:=Tryz.underlying5
 a5:=Tryz.isAgg5
 z5:=Tryz.sizeOf5
 v5:=Tryz.zeroValue5
 t9:=Tryz.underlying9
 a9:=Tryz.isAgg9
 z9:=Tryz.sizeOf9
 v9:=Tryz.zeroValue9
 t20:=Tryz.underlying20
 a20:=Tryz.isAgg20
 z20:=Tryz.sizeOf20
 v20:=Tryz.zeroValue20
 t37:=Tryz.underlying69
 a37:=Tryz.isAgg69
 z37:=Tryz.sizeOf69
 v37:=Tryz.zeroValue69
 t46:=Tryz.underlying118
 a46:=Tryz.isAgg118
 z46:=Tryz.sizeOf118
 v46:=Tryz.zeroValue118
 t51:=Tryz.underlying100
 a51:=Tryz.isAgg100
 z51:=Tryz.sizeOf100
 v51:=Tryz.zeroValue100
 t53:=Tryz.underlying137
 a53:=Tryz.isAgg137
 z53:=Tryz.sizeOf137
 v53:=Tryz.zeroValue137
 t171:=Tryz.underlying250
 a171:=Tryz.isAgg250
 z171:=Tryz.sizeOf250
 v171:=Tryz.zeroValue250
 t173:=Tryz.underlying252
 a173:=Tryz.isAgg252
 z173:=Tryz.sizeOf252
 v173:=Tryz.zeroValue252
 t212:=Tryz.underlying255
 a212:=Tryz.isAgg255
 z212:=Tryz.sizeOf255
 v212:=Tryz.zeroValue255
 t213:=Tryz.underlying256
 a213:=Tryz.isAgg256
 z213:=Tryz.sizeOf256
 t232:=Tryz.underlying31
 a232:=Tryz.isAgg31
 z232:=Tryz.sizeOf31
 v232:=Tryz.zeroValue31
 t233:=Tryz.underlying257
 a233:=Tryz.isAgg257
 z233:=Tryz.sizeOf257
 v233:=Tryz.zeroValue257
 g17:=by kernel_rfl
 g18:=by kernel_rfl
 g19:=by kernel_rfl
 i0:=by kernel_rfl
 i2:=by kernel_rfl
 i3:=by kernel_rfl
 i4:=by kernel_rfl
 i5:=by kernel_rfl
 i9:=by kernel_rfl
 i20:=by kernel_rfl
 i37:=by kernel_rfl
 i46:=by kernel_rfl
 i51:=by kernel_rfl
 i53:=by kernel_rfl
 i171:=by kernel_rfl
 i173:=by kernel_rfl
 i212:=by kernel_rfl
 i232:=by kernel_rfl
 i233:=by kernel_rfl
 m17:=by kernel_rfl
 m18:=by kernel_rfl
 m19:=by kernel_rfl}
def laysAtoi_ren:Go.Shelf.Ren:=⟨fun | 172=>153 | 244=>204 | 245=>205 | 247=>222 | 279=>223 | 280=>224 | 281=>225 | 282=>226 | 287=>233 | 316=>234 | 171=>209 | 205=>235 | 321=>238 | 322=>239 | 243=>228 | 246=>236 | 283=>240 | 284=>241 | 285=>242 | 286=>243 | 129=>148 | 317=>244 | 318=>245 | 319=>246 | 320=>247 | 337=>248 | 338=>249 | n=>n,fun | 9=>9 | 3=>3 | 75=>176 | 76=>177 | 4=>4 | 5=>5 | 167=>229 | 37=>69 | 0=>0 | 85=>230 | 2=>2 | 168=>232 | 53=>137 | 175=>238 | 46=>118 | 210=>241 | 127=>222 | 145=>249 | 143=>247 | 21=>21 | 171=>250 | 173=>252 | 212=>255 | 51=>100 | 20=>20 | 213=>256 | 232=>31 | 233=>257 | 80=>90 | n=>n,fun | 15=>1 | 16=>2 | 17=>3 | 18=>4 | 19=>5 | n=>n⟩
theorem laysAtoi:Go.Proofs.LaysC.n172 Tryz.prog laysAtoi_ren:={
 mixed:=by kernel_rfl
 f129:=Tryz.func148.trans (congrArg some (by kernel_rfl))
 f171:=Tryz.func209.trans (congrArg some (by kernel_rfl))
 f172:=Tryz.func153.trans (congrArg some (by kernel_rfl))
 f205:=Tryz.func235.trans (congrArg some (by kernel_rfl))
 f243:=Tryz.func228.trans (congrArg some (by kernel_rfl))
 f244:=Tryz.func204.trans (congrArg some (by kernel_rfl))
 f245:=Tryz.func205.trans (congrArg some (by kernel_rfl))
 f246:=Tryz.func236.trans (congrArg some (by kernel_rfl))
 f247:=Tryz.func222.trans (congrArg some (by kernel_rfl))
 f279:=Tryz.func223.trans (congrArg some (by kernel_rfl))
 f280:=Tryz.func224.trans (congrArg some (by kernel_rfl))
 f281:=Tryz.func225.trans (congrArg some (by kernel_rfl))
 f282:=Tryz.func226.trans (congrArg some (by kernel_rfl))
 f283:=Tryz.func240.trans (congrArg some (by kernel_rfl))
 f284:=Tryz.func241.trans (congrArg some (by kernel_rfl))
 f285:=Tryz.func242.trans (congrArg some (by kernel_rfl))
 f286:=Tryz.func243.trans (congrArg some (by kernel_rfl))
 f287:=Tryz.func233.trans (congrArg some (by kernel_rfl))
 f316:=Tryz.func234.trans (congrArg some (by kernel_rfl))
 f317:=Tryz.func244.trans (congrArg some (by kernel_rfl))
 f318:=Tryz.func245.trans (congrArg some (by kernel_rfl))
 f319:=Tryz.func246.trans (congrArg some (by kernel_rfl))
 f320:=Tryz.func247.trans (congrArg some (by kernel_rfl))
 f321:=Tryz.func238.trans (congrArg some (by kernel_rfl))
 f322:=Tryz.func239.trans (congrArg some (by kernel_rfl))
 f337:=Tryz.func248.trans (congrArg some (by kernel_rfl))
 f338:=Tryz.func249.trans (congrArg some (by kernel_rfl))
 t0:=Tryz.underlying0
 a0:=Tryz.isAgg0
 z0:=Tryz.sizeOf0
 v0:=Tryz.zeroValue0
 t2:=Tryz.underlying2
 a2:=Tryz.isAgg2
 z2:=Tryz.sizeOf2
 v2:=Tryz.zeroValue2
 t3:=Tryz.underlying3
 a3:=Tryz.isAgg3
 z3:=Tryz.sizeOf3
 v3:=Tryz.zeroValue3
 t4:=Tryz.underlying4
 a4:=Tryz.isAgg4
 z4:=Tryz.sizeOf4
 v4:=Tryz.zeroValue4
 t5:=Tryz.underlying5
 a5:=Tryz.isAgg5
 z5:=Tryz.sizeOf5
 v5:=Tryz.zeroValue5
 t9:=Tryz.underlying9
 a9:=Tryz.isAgg9
 z9:=Tryz.sizeOf9
 v9:=Tryz.zeroValue9
 t20:=Tryz.underlying20
 a20:=Tryz.isAgg20
 z20:=Tryz.sizeOf20
 v20:=Tryz.zeroValue20
 t21:=Tryz.underlying21
 a21:=Tryz.isAgg21
 z21:=Tryz.sizeOf21
 v21:=Tryz.zeroValue21
 t37:=Tryz.underlying69
 a37:=Tryz.isAgg69
 z37:=Tryz.sizeOf69
 v37:=Tryz.zeroValue69
 t46:=Tryz.underlying118
 a46:=Tryz.isAgg118
 z46:=Tryz.sizeOf118
 v46:=Tryz.zeroValue118
 t51:=Tryz.underlying100
 a51:=Tryz.isAgg100
 z51:=Tryz.sizeOf100
 v51:=Tryz.zeroValue100
 t53:=Tryz.underlying137
 a53:=Tryz.isAgg137
 z53:=Tryz.sizeOf137
 v53:=Tryz.zeroValue137
 t75:=Tryz.underlying176
 a75:=Tryz.isAgg176
 z75:=Tryz.sizeOf176
 v75:=Tryz.zeroValue176
 t76:=Tryz.underlying177
 a76:=Tryz.isAgg177
 z76:=Tryz.sizeOf177
 v76:=Tryz.zeroValue177
 t85:=Tryz.underlying230
 a85:=Tryz.isAgg230
 z85:=Tryz.sizeOf230
 v85:=Tryz.zeroValue230
 t127:=Tryz.underlying222
 a127:=Tryz.isAgg222
 z127:=Tryz.sizeOf222
 v127:=Tryz.zeroValue222
 t143:=Tryz.underlying247
 a143:=Tryz.isAgg247
 z143:=Tryz.sizeOf247
 v143:=Tryz.zeroValue247
 t145:=Tryz.underlying249
 a145:=Tryz.isAgg249
 z145:=Tryz.sizeOf249
 v145:=Tryz.zeroValue249
 t167:=Tryz.underlying229
 a167:=Tryz.isAgg229
 z167:=Tryz.sizeOf229
 v167:=Tryz.zeroValue229
 t168:=Tryz.underlying232
 a168:=Tryz.isAgg232
 z168:=Tryz.sizeOf232
 v168:=Tryz.zeroValue232
 t171:=Tryz.underlying250
 a171:=Tryz.isAgg250
 z171:=Tryz.sizeOf250
 v171:=Tryz.zeroValue250
 t173:=Tryz.underlying252
 a173:=Tryz.isAgg252
 z173:=Tryz.sizeOf252
 v173:=Tryz.zeroValue252
 t175:=Tryz.underlying238
 a175:=Tryz.isAgg238
 z175:=Tryz.sizeOf238
 v175:=Tryz.zeroValue238
 t210:=Tryz.underlying241
 a210:=Tryz.isAgg241
 z210:=Tryz.sizeOf241
 v210:=Tryz.zeroValue241
 t212:=Tryz.underlying255
 a212:=Tryz.isAgg255
 z212:=Tryz.sizeOf255
 v212:=Tryz.zeroValue255
 t213:=Tryz.underlying256
 a213:=Tryz.isAgg256
 z213:=Tryz.sizeOf256
 t232:=Tryz.underlying31
 a232:=Tryz.isAgg31
 z232:=Tryz.sizeOf31
 v232:=Tryz.zeroValue31
 t233:=Tryz.underlying257
 a233:=Tryz.isAgg257
 z233:=Tryz.sizeOf257
 v233:=Tryz.zeroValue257
 g15:=by kernel_rfl
 g16:=by kernel_rfl
 g17:=by kernel_rfl
 g18:=by kernel_rfl
 g19:=by kernel_rfl
 t80:=Tryz.underlying90
 a80:=Tryz.isAgg90
 z80:=Tryz.sizeOf90
 v80:=Tryz.zeroValue90
 i0:=by kernel_rfl
 i2:=by kernel_rfl
 i3:=by kernel_rfl
 i4:=by kernel_rfl
 i5:=by kernel_rfl
 i9:=by kernel_rfl
 i20:=by kernel_rfl
 i21:=by kernel_rfl
 i37:=by kernel_rfl
 i46:=by kernel_rfl
 i51:=by kernel_rfl
 i53:=by kernel_rfl
 i75:=by kernel_rfl
 i76:=by kernel_rfl
 i80:=by kernel_rfl
 i85:=by kernel_rfl
 i127:=by kernel_rfl
 i143:=by kernel_rfl
 i145:=by kernel_rfl
 i167:=by kernel_rfl
 i168:=by kernel_rfl
 i171:=by kernel_rfl
 i173:=by kernel_rfl
 i175:=by kernel_rfl
 i210:=by kernel_rfl
 i212:=by kernel_rfl
 i232:=by kernel_rfl
 i233:=by kernel_rfl
 m15:=by kernel_rfl
 m16:=by kernel_rfl
 m17:=by kernel_rfl
 m18:=by kernel_rfl
 m19:=by kernel_rfl
 c0:=by kernel_rfl
 c2:=by kernel_rfl
 c3:=by kernel_rfl
 c4:=by kernel_rfl
 c5:=by kernel_rfl
 c9:=by kernel_rfl
 c20:=by kernel_rfl
 c21:=by kernel_rfl
 c37:=by kernel_rfl
 c46:=by kernel_rfl
 c51:=by kernel_rfl
 c53:=by kernel_rfl
 c75:=by kernel_rfl
 c76:=by kernel_rfl
 c80:=by kernel_rfl
 c85:=by kernel_rfl
 c127:=by kernel_rfl
 c143:=by kernel_rfl
 c145:=by kernel_rfl
 c167:=by kernel_rfl
 c168:=by kernel_rfl
 c171:=by kernel_rfl
 c173:=by kernel_rfl
 c175:=by kernel_rfl
 c210:=by kernel_rfl
 c212:=by kernel_rfl
 c213:=by kernel_rfl
 c232:=by kernel_rfl
 c233:=by kernel_rfl}
theorem VO {P:Program} {g:G P} {st:St} {w w':World} (hg:Good g st w) (h1:w'.os=w.os) (h2:w'.tape=w.tape) (h3:w'.output=w.output) (hsz:w.heap.size<=w'.heap.size) (hb: ∀b,b<w.heap.size->w'.heap[b]? =w.heap[b]?):
  Good g st w'/\ ∀b0,Step b0 g st w g st w':=by
 refine ⟨⟨fun b cs h=> ?_,fun k o h=> ?_,hg.inj,hg.old,fun b o h=>hg.fx_keep (fun b hb' _=>hb b hb') h,fun b h=>hg.dm_keep (fun b hb' _=>hb b hb') h,hg.laid⟩,fun b0=>⟨h1,h2,h3,hsz,fun b hb' _=>hb b hb',fun _ _ h=>h,fun _ h=> .inl h,fun _ _ h=> .inl h,fun _ _=>Kept.refl,fun _ _=>Fixd.refl,fun _ _ h=>h,fun _ h=>h,fun _ h=> .inl h⟩⟩
 . obtain ⟨blk,E,fr,p1,p2⟩:=hg.ro b cs h
   exact ⟨blk,E,fr,by rw [hb b (hg.lt_ro h)];exact p1,p2⟩
 . obtain ⟨oi,p1,p2,p3⟩:=hg.obj k o h
   refine ⟨oi,p1,p2, ?_⟩
   rcases p3 with p3 | ⟨p3,blk,E,fr,p4,p5,p6,p7⟩
   . exact .inl p3
   . exact .inr ⟨p3,blk,E,fr,by rw [hb _ (v6 p4)];exact p4,p5,p6,p7⟩
theorem VR {P:Program} {g:G P} {st:St} {w w':World} (hg:Good g st w) (h:Below w.heap.size w w'):Good g st w'/\ ∀b0,Step b0 g st w g st w':=
 VO hg h.os h.tape h.output h.size h.block
theorem tab_is {g:G Tryz.prog} {st:St} {w:World} (hg:Good g st w):Lib.TabIs Tryz.prog w "internal/strconv.uint64pow10" .u64 Lib.pow10Tab:=by
 obtain ⟨⟨h1,h2⟩,_⟩:=hg.laid
 obtain ⟨blk,E,fr,p1,p2⟩:=hg.ro _ _ h1
 obtain ⟨blk',E',fr',q1,q2⟩:=hg.ro _ _ h2
 rw [p1] at q1
 simp only [Option.some.injEq,Obj.cells.injEq] at q1
 obtain ⟨rfl,rfl,rfl⟩:=q1
 have hsz:blk.size=20:=q2.ex 20 rfl
 unfold Lib.TabIs World.var?
 rw [show Tryz.prog.globalNamed "internal/strconv.uint64pow10" =some 3 by kernel_rfl]
 simp only [Option.bind_some,p1,Option.some.injEq]
 apply Array.ext_getElem?
 intro j
 by_cases hj:j<20
 . obtain ⟨x,x1,_,x3⟩:=p2.at_ j (T.int .u64 ((10^j:Nat):Int)) (by simp [QP,hj]) rfl
   cases x3
   rw [x1]
   simp [Lib.pow10Tab,hj]
 . rw [Array.getElem?_eq_none (by omega),Array.getElem?_eq_none (by simp [Lib.pow10Tab];omega)]
theorem WJ {P:Program} {g:G P} {u:T} {args:Array Value} (h:RL g [u] args): ∃x,args= #[x]/\R g u x:=by
 have hl:=h.len
 obtain ⟨x,rfl⟩: ∃x,args= #[x]:=by
  have:args.size=1:=by simpa using hl.symm
  exact ⟨args[0],Array.ext (by simpa using this) fun i h1 h2=>by
   have:i=0:=by simp at h2;omega
   subst this;rfl⟩
 exact ⟨x,rfl,h.val 0 u x rfl rfl⟩
def xB (n:Int):Prop:= -9223372036854775808<=n/\n<=9223372036854775807
def wS:Sp:=⟨[.leaf],[.int .i64],fun g=>xB g.1,fun g=> .str (wg g.1),fun _=>none⟩
theorem V4:wS.Ok Tryz.prog 209 true:=
 ⟨by
  rintro ⟨n,⟨⟩⟩ K X hp hK g w hg
  obtain ⟨h1,h2⟩: -9223372036854775808<=n/\n<=9223372036854775807:=hp
  refine yL.of (by kernel_rfl) fun args hr=> ?_
  obtain ⟨x,rfl,hx⟩:=WJ hr
  cases hx
  refine (Any.strconv_Itoa laysItoa n h1 h2 w (tab_is hg)).mono ?_
  rintro e w' ⟨rfl,k,os,rfl⟩
  obtain ⟨q1,q2⟩:=VO (w':=Sort.grow (w.drewN k) os) hg rfl rfl rfl (by simp [Sort.grow,World.drewN]) (fun b hb=>by simp [Sort.grow,World.drewN,Array.getElem?_append_left hb])
  exact ⟨g,[],q1,q2 _,_,hK, .str _⟩,fun _ _ _=>rfl,fun _=>rfl,fun _ _=>⟨rfl,rfl⟩⟩
def KC (s:ByteArray):Res Int Int:=match Lib.atoiAll (bl s)with
 | .ok v=> .ok v
 | .range=> .err (Lib.atoiSat (bl s))
 | _=> .err 0
def atoiPre (g:prodL [.str]):Prop:=g.1.size<=2147483648/\((∃v,Lib.atoiAll (bl g.1)= .ok v)∨Lib.atoiAll (bl g.1)= .range)
def atoiF (g:prodL [.str]) (K _:Kn):Prop:=
 Res.go (KC g.1) (fun v=>K (.tu [.int .i64 v, .cst .nilIface]) []) (fun v=>K (.tu [.int .i64 v, .ic 232 .undef]) [])
def Y7:Raw:=⟨[.leaf],[],[.str],0,fun g K X=>atoiPre g/\atoiF g K X⟩
theorem rw153_ok:Y7.Ok Tryz.prog 153:=by
 rintro ⟨s,⟨⟩⟩ K X ⟨⟨h1,h2⟩,h⟩ g w hg
 have h1:s.size<=2147483648:=h1
 refine yL.of (by kernel_rfl) fun args hr=> ?_
 obtain ⟨x,rfl,hx⟩:=WJ hr
 cases hx
 have h:Res.go (KC s) (fun v=>K (.tu [.int .i64 v, .cst .nilIface]) []) (fun v=>K (.tu [.int .i64 v, .ic 232 .undef]) []):=h
 have h2:(∃v,Lib.atoiAll (bl s)= .ok v)∨Lib.atoiAll (bl s)= .range:=h2
 unfold KC at h
 rcases h2 with ⟨v,ha⟩ | ha
 . rw [ha] at h
   refine (Any.strconv_Atoi_ok laysAtoi s (by omega) v ha w).mono ?_
   rintro e w' ⟨rfl,hw⟩
   have hb:Below w.heap.size w w':=by
    rcases hw with rfl | ⟨t,rfl⟩
    . exact Below.refl _ _
    . exact Lib.bytesWorld_below _ _ _
   obtain ⟨q1,q2⟩:=VR hg hb
   refine ⟨g,_,q1,q2 _,_,h, .tu _ _ rfl fun i c x hc hx=> ?_⟩
   rcases i with _ | _ | i
   . simp at hc hx;subst hc;subst hx;exact .int _ _
   . simp at hc hx;subst hc;subst hx;exact .cst _
   . simp at hc
 . rw [ha] at h
   obtain ⟨_,te,pe,h4⟩:=hg.laid
   obtain ⟨blk,E,fr,p1,p2⟩:=hg.ro _ _ h4
   obtain ⟨ev,x1,_,x3⟩:=p2.at_ 0 _ rfl rfl
   cases x3
   refine (Any.strconv_Atoi_range laysAtoi s (by omega) ha (.iface te pe) w (by
    show w.cell? ⟨2,0,none⟩=_
    simp [World.cell?,p1,x1]) (.inr ⟨te,pe,rfl⟩)).mono ?_
   rintro e w' ⟨N,rfl,_,_,hb⟩
   obtain ⟨q1,q2⟩:=VR hg hb
   refine ⟨g,_,q1,q2 _,_,h, .tu _ _ rfl fun i c x hc hx=> ?_⟩
   rcases i with _ | _ | i
   . simp at hc hx;subst hc;subst hx;exact .int _ _
   . simp at hc hx;subst hc;subst hx;exact .ic _ _ _ (.undef _)
   . simp at hc
end Go.Proofs.YtbglndogddddoaaGreatDoor
namespace Go.Proofs.YtbglndogddddoaaGreatDoor
open Go.RowKit
theorem assert_nil (w:World):(Instr.typeAssert .nilIface 20 170 true).run Tryz.prog w= .ok (.tuple #[.agg #[.int .i64 0], .bool false]) w:=by kernel_rfl
theorem assert_fail (v:Value) (w:World):(Instr.typeAssert (.iface 170 v) 20 170 true).run Tryz.prog w= .ok (.tuple #[v, .bool true]) w:=by kernel_rfl
theorem catch_idle (p q r:Addr) (w:World):
  CallsDIn (WF none) 0 Tryz.prog 149 #[.pointer (some p), .pointer (some q), .pointer (some r)] .returning w fun e u' w'=>e= .returned (.tuple #[])/\u'= .returning/\ ∃x,w'=w.alloc (.cells #[x] 170):=by
 refine callsDIn_of_wpSIn Tryz.func149 (c:=qq Tryz.f149) rfl trivial fun c₀ cs hu=> ?_
 apply wpSIn_seq
 apply wpSIn_region
 simp [wpOpsSIn,go_sem,recoverD,hu,Tryz.ntmps149,Exit.thenS]
 apply wpSIn_seq
 apply wpSIn_region
 simp [wpOpsSIn,go_sem,Exit.thenS,assert_nil]
 apply wpSIn_seq
 apply wpSIn_region
 simp [wpOpsSIn,go_sem,Exit.thenS]
 refine wpSIn_cond (t:=false) (by simp [Act.eval]) ?_
 simp only [Bool.false_eq_true,if_false]
 apply wpSIn_seq
 apply wpSIn_region
 simp [wpOpsSIn,go_sem,Exit.thenS]
 refine wpSIn_cond (t:=false) (by simp [Act.eval]) ?_
 simp only [Bool.false_eq_true,if_false]
 refine wpSIn_of_wpIn rfl (wpIn_skip ?_)
 cases c₀
 simp_all [bodyPostS,results,Tryz.results149]
 exact ⟨_,rfl⟩
theorem qqz {P:Program} {g:G P} {tmps:Array Value}: ∀(t:Tm),(∀p∈t,R g p.2 (tmps.getD p.1 Go.undef))-> ∀i,R g (get t i) (tmps.getD i Go.undef)
 | [],_,i=> .undef _
 | (j,v)::r,h,i=>by
  simp only [get]
  by_cases e:i=j
  . subst e;rw [if_pos rfl];exact h (i,v) (List.mem_cons_self ..)
  . rw [if_neg e];exact qqz r (fun p hp=>h p (List.mem_cons_of_mem _ hp)) i
theorem good_alloc {P:Program} {g:G P} {st:St} {w:World} (hg:Good g st w) {z:List T} {xs:Array Value} (E:TypeId) (hx:R g (.ag z) (.agg xs)) (hW:cellW z E z.length=true:=by rfl) (hM:meHead z=false:=by rfl): ∃g',Good g' (st++[some (.cells z)]) (w.alloc (.cells xs E))/\g.le g'/\(∀b0,Step b0 g st w g' (st++[some (.cells z)]) (w.alloc (.cells xs E)))/\R g' (.pt st.length 0) (.pointer (some ⟨w.heap.size,0,none⟩)):=by
 cases hx with
 | ag _ _ h1 h2 h3=>
  obtain ⟨k1,k2,k3⟩:=qN (st':=st++[some (.cells z)]) (k:=st.length) (v:=0) (o':= .cells z) (oi:=⟨w.heap.size,0,0⟩) (w':=w.alloc (.cells xs E)) hg jh (Nat.le_refl _) (by simp) rfl (.inl (zK hg)) (fun u oi hu=>by rw [zK hg] at hu;cases hu) trivial
   (fun _=> .inl (Nat.le_refl _)) rfl rfl rfl (by simp) (fun b hb _=>Below.heap_alloc w _ b hb) (fun _=>⟨xs,E,(0,0),by simp only [xA,hM];exact heap_alloc_new w _,fun q _ h=>absurd h.2 (Nat.not_lt_zero _),⟨by simp only [qQ];omega,fun j u hu=>by
    simp only [qQ] at hu
    have hj:j<xs.size:=by rw [<- h1];exact (List.getElem?_eq_some_iff.1 hu).1
    exact ⟨xs[j],by simp [hj],h3 j _ (by simp [hj]),h2 j u _ hu (by simp [hj])⟩⟩,by simp only [jj];rw [<- show z.length=xs.size from h1];exact hW⟩) (fun o ho=>by rw [List.getElem?_eq_none (Nat.le_refl _)] at ho;cases ho)
  exact ⟨_,k1,k3,k2, .pt _ 0 ⟨w.heap.size,0,0⟩ (by simp [G.set])⟩
@[reducible] def bdS (P:Program) (l:List Deferred) (h: ∀d∈l, ∀D,d≠{target:= .collected D,args:= #[]}):Bd P:=⟨l,h,true⟩
def stF (n e:Int) (X:List T) (s:ByteArray) (p m:Int) (l:List T):St:=[some (.cells X),some (.cells [.int .i64 n]),some (.cells [.int .i64 e]),some (.cells [.str s, .int .i64 p, .int .i64 m])]++l.map fun v=>some (.cells [v])
def t26 (e:Int):Tm:=[(0, .pt 0 0),(1, .pt 1 0),(2, .pt 2 0),(3, .ic 170 (.ag [.int .i64 e])),(4, .pt 4 0)]
def x0:List T:=[.bool false, .str ⟨#[]⟩, .nil]
def thenOf (c:Code):Code:=match c with | .seq _ (.seq _ (.seq _ (.cond _ r _)))=>r | c=>c
theorem den26 (n e0 e p m:Int) (s:ByteArray) (S:St):(XU D (qJ [] []) (qv []) [] [] 19 ⟨4,0⟩ 0 (thenOf (qq Tryz.f149)) (fun x _ s'=>x= .normal/\s'=S) (t26 e) (stF n e0 x0 s p m [.int .i64 e]))=(Ex.normal=Ex.normal/\stF 0 e x0 s p m [.int .i64 e]=S):=by kernel_rfl
theorem catch_fail {g:G Tryz.prog} {n e0 e p m:Int} {s:ByteArray} {w:World} (hg:Good g (stF n e0 x0 s p m []) w) {v0 v1 v2:Value} (h0:R g (.pt 0 0) v0) (h1:R g (.pt 1 0) v1) (h2:R g (.pt 2 0) v2):
  CallsDIn (WF none) 0 Tryz.prog 149 #[v0,v1,v2] (.panicking [{v:= .iface 170 (.agg #[.int .i64 e]),recovered:=false}]) w fun e' u' w'=>e'= .returned (.tuple #[])/\u'= .panicking [{v:= .iface 170 (.agg #[.int .i64 e]),recovered:=true}]/\
   ∃g',Good g' (stF 0 e x0 s p m [.int .i64 e]) w'/\Step ⟨4,0⟩ g (stF n e0 x0 s p m []) w g' (stF 0 e x0 s p m [.int .i64 e]) w':=by
 refine callsDIn_of_wpSIn Tryz.func149 (c:=qq Tryz.f149) rfl trivial fun c₀ cs hu=> ?_
 apply wpSIn_seq
 apply wpSIn_region
 simp [wpOpsSIn,go_sem,recoverD,hu,Tryz.ntmps149,Exit.thenS]
 apply wpSIn_seq
 apply wpSIn_region
 simp [wpOpsSIn,go_sem,Exit.thenS,assert_fail]
 apply wpSIn_seq
 apply wpSIn_region
 simp [wpOpsSIn,go_sem,Exit.thenS]
 refine wpSIn_cond (t:=true) (by simp [Act.eval]) ?_
 simp only [if_true]
 refine wpSIn_of_wpIn rfl ?_
 obtain ⟨g1,k1,k2,k3,k4⟩:=good_alloc (z:=[.int .i64 e]) (xs:= #[.int .i64 e]) hg 170 (.ag _ _ rfl (fun i c x hc hx=>by
  match i,hc,hx with
  | 0,hc,hx=>simp at hc hx;subst hc;subst hx;exact .int _ _
  | i+1,hc,hx=>simp at hc) (fun i x hx=>by
  match i,hx with
  | 0,hx=>simp at hx;subst hx;rfl
  | i+1,hx=>simp at hx))
 letI B:Bd Tryz.prog:=bdS Tryz.prog [] (by simp)
 refine wpIn_mono (@zx Tryz.prog B D (qJ [] []) (qv []) 19 ⟨4,0⟩ qh (vN vC) qj rfl [] [] 0 (thenOf (qq Tryz.f149)) (vl (by kernel_rfl)) _ _ _ (Eq.mpr (den26 n e0 e p m s _) ⟨rfl,rfl⟩) none (.inr (by kernel_rfl)) g1 _ _ k1 ?ht) ?_
 case ht=>
  refine ⟨by simp,⟨[],rfl,fun _=>rfl,by simp⟩,by simp,qqz _ ?_⟩
  simp only [t26,List.forall_mem_cons,List.not_mem_nil,false_imp_iff,implies_true,and_true]
  refine ⟨by simpa using h0.mono k2,by simpa using h1.mono k2,by simpa using h2.mono k2, ?_,by simpa [stF] using k4⟩
  simp
  refine .ic 170 _ _ (.ag _ _ rfl (fun i c x hc hx=>by
   match i,hc,hx with
   | 0,hc,hx=>simp at hc hx;subst hc;subst hx;exact .int _ _
   | i+1,hc,hx=>simp at hc) (fun i x hx=>by
   match i,hx with
   | 0,hx=>simp at hx;subst hx;rfl
   | i+1,hx=>simp at hx))
 rintro x a' w' ⟨x0,g',t',st',⟨rfl,rfl⟩,q1,q2,q3,q4⟩
 cases x<;>first | (exact q1.elim) | skip
 obtain ⟨ms,m1,m2,_⟩:=q3.defers
 have m1:a'.defers=ms++[]:=m1
 rw [m2 rfl] at m1
 exact ⟨m1,_,rfl, .tuple #[],by simp [results,Tryz.results149],rfl,rfl,g',q2,(k3 ⟨4,0⟩).trans q4⟩
theorem VS {a:Act} {d:Option Tmp} {x:Value}:(a.put d x).defers=a.defers:=by cases d<;>rfl
theorem Zb {P:Program} {D:TD} {Γ:yN} {n:Nat} (hD:zv P D) (hΓ:zF P Γ) {ops:Array Oper} {Q':Exit->Act->World->Prop} {A:Tm->St->Prop} {rest:List Oper}: ∀(l:List Oper) (g:G P) (st:St) (w:World) (t:Tm) (a:Act),Good g st w->RelT g n t a->kZ D Γ n ops l t st A (fun _ _ _=>False)->
  (∀g' st' w' t' a',A t' st'->Good g' st' w'->RelT g' n t' a'->g.le g'->(∀b0,Step b0 g st w g' st' w')->a'.defers=a.defers->wpListIn (WF none) 0 P ops Q' rest a' w')->wpListIn (WF none) 0 P ops Q' (l++rest) a w
 | [],g,st,w,t,a,hg,ht,h,hq=>hq g st w t a h hg ht (G.le_refl g) (fun _=>Step.refl) rfl
 | o::r,g,st,w,t,a,hg,ht,h,hq=>by
  unfold kZ at h
  rw [List.cons_append]
  unfold wpListIn
  rcases xQ ht h with ⟨t1,ht1,h,hw⟩ | ⟨t1,ht1,h,hw⟩
  . rw [if_pos hw]
    refine yu hD hΓ hg ht1 h none _ _ (fun v s' x g' w' hk g1 l1 s1 r1=> ?_) (fun u s' v g' w' hx g1 l1 s1 r1=>hx.elim)
    obtain ⟨t2,k1,k2⟩:=(ht1.mono l1.le).fin r1 hk
    exact Zb hD hΓ r g' s' w' t2 _ g1 k2 k1 fun g2 st2 w2 t2 a2 q1 q2 q3 q4 q5 q6=>hq g2 st2 w2 t2 a2 q1 q2 q3 (l1.le.trans q4) (fun b0=>(s1 b0).trans (q5 b0)) (q6.trans VS)
  . rw [if_neg (by rw [hw];simp)]
    obtain ⟨t2,k1,k2⟩:=ht1.fin (o:=o) (R.cst Go.undef) h
    exact ⟨fun _ _=>trivial,Zb hD hΓ r g st w t2 _ hg k2 k1 fun g2 st2 w2 t2 a2 q1 q2 q3 q4 q5 q6=>hq g2 st2 w2 t2 a2 q1 q2 q3 q4 q5 (q6.trans VS)⟩
def ops1 (c:Code):List Oper:=match c with | .seq (.region _ o _) _=>o.toList | _=>[]
def ops2 (c:Code):List Oper:=match c with | .seq _ (.seq (.region _ o _) _)=>o.toList | _=>[]
def rest2 (c:Code):Code:=match c with | .seq _ (.seq _ r)=>r | c=>c
theorem code12:qq Tryz.f98= .seq (.region 0 (ops1 (qq Tryz.f98)).toArray false) (.seq (.region 1 (ops2 (qq Tryz.f98)).toArray false) (rest2 (qq Tryz.f98))):=by kernel_rfl
abbrev rs12:List ResultVar:=[.cell 2 85, .cell 3 3, .cell 4 28]
def q12 (A:Kn) (B:Kn):Kc:=fun x t s=>match x with
 | .ret=>YX D t s rs12 fun l=>A (resV l) s
 | .pan v=>get t 2= .pt 0 0/\get t 3= .pt 1 0/\get t 4= .pt 2 0/\B v s
 | _=>False
def st12:St:=[some (.cells x0),some (.cells [.int .i64 0]),some (.cells [.int .i64 0])]
def t12 (s:ByteArray):Tm:=[(0, .str s),(2, .pt 0 0),(3, .pt 1 0),(4, .pt 2 0)]
def ok12 (K:Kn) (s:ByteArray) (a:Sx×Nat×List UInt8):Prop:=K (.tu [.ag [.bool a.1.isList, .str a.1.atom, .sl false .sexp a.1.list], .int .i64 ((s.size:Int) - (a.2.2.length:Int)), .int .i64 0]) []
def er12 (K:Kn) (e:Int):Prop:=K (.tu [.ag x0, .int .i64 0, .int .i64 e]) []
theorem den12 (s:ByteArray) (K B:Kn):(XU D (qJ [(150,Va)] []) (qv [(150,Va)]) [] [] 17 ⟨3,0⟩ 0 (rest2 (qq Tryz.f98)) (q12 (settle0 K) B) (t12 s) st12)=
  (wz (1,s,0,0,())/\Res.go (Qr ((13:Int) - 1).toNat (0:Int).toNat ((bl s).drop (0:Int).toNat)) (ok12 K s)
   (fun e=> ∀(p m:Int),(T.pt 0 0= .pt 0 0/\T.pt 1 0= .pt 1 0/\T.pt 2 0= .pt 2 0/\B (.ic 170 (.ag [.int .i64 e])) (stF 0 0 x0 s p m [])))):=by kernel_rfl
theorem res12 (s:ByteArray) (K:Kn) (e p m:Int):(YX D [(2, .pt 0 0),(3, .pt 1 0),(4, .pt 2 0)] (stF 0 e x0 s p m [.int .i64 e]) rs12 fun l=>settle0 K (resV l) (stF 0 e x0 s p m [.int .i64 e]))=er12 K e:=by kernel_rfl
theorem pre12 (s:ByteArray) (A:Tm->St->Prop):kZ D (qJ [] []) 17 (ops1 (qq Tryz.f98)).toArray (ops1 (qq Tryz.f98)) [(0, .str s)] [] A (fun _ _ _=>False)=A [(0, .str s),(2, .pt 0 0),(3, .pt 1 0),(4, .pt 2 0)] st12:=by kernel_rfl
theorem pre12' (s:ByteArray) (A:Tm->St->Prop):kZ D (qJ [] []) 17 (ops2 (qq Tryz.f98)).toArray ((ops2 (qq Tryz.f98)).take 1) (t12 s) st12 A (fun _ _ _=>False)=A (put (t12 s) 6 (.fn 149 [] [.pt 0 0, .pt 1 0, .pt 2 0])) st12:=by kernel_rfl
theorem Qv {P:Program} {b0:B0} {g g':G P} {st st':St} {w w':World} (h:Step b0 g st w g' st' w') {k:Nat} {cs:List T} (hk:k<b0.b) (ho:st[k]? =some (some (.cells cs))) {y:Value} (hr:R g (.pt k 0) y):R g' (.pt k 0) y:=by
 obtain ⟨_,_,_,h3⟩:=h.kept k hk _ ho
 cases hr with
 | pt _ _ oi h1=>exact .pt _ _ oi (by rw [h3];exact h1)
theorem Y4 {P:Program} {b0:B0} {g g':G P} {st st':St} {w w':World} (h:Step b0 g st w g' st' w'):Step ⟨0,0⟩ g st w g' st' w':=
 {h with kept:=fun _ h=>absurd h (Nat.not_lt_zero _),fixd:=fun _ h=>absurd h (Nat.not_lt_zero _)}
def op21 (c:Code):Oper:=(ops2 c).getD 1 default
theorem df12_is:(ops2 (qq Tryz.f98)).drop 1=[(op21 (qq Tryz.f98))]:=by kernel_rfl
theorem df12_op:(op21 (qq Tryz.f98)).op= .defer {callee:= .value (.tmp 6),args:= #[],argTypes:= #[]}:=by kernel_rfl
theorem df12_guard:(op21 (qq Tryz.f98)).guard=none:=by kernel_rfl
theorem ZQ:(op21 (qq Tryz.f98)).dst=none:=by kernel_rfl
def erB (K:Kn) (s:ByteArray):Kn:=fun v s'=> ∃e p m,v= .ic 170 (.ag [.int .i64 e])/\s'=stF 0 0 x0 s p m []/\er12 K e
theorem F98_ok (s:ByteArray) (K X:Kn) (hs:wz (1,s,0,0,())) (h:Res.go (Qr 12 0 (bl s)) (ok12 K s) (er12 K)):FCalls Tryz.prog 98 [.str s] [] K X:=by
 refine FCalls.settle0 fun g w hg=>yL.of (by unfold qk;rw [Tryz.func98];kernel_rfl) fun args hrl=> ?_
 refine callsIn_wide.1 (callsIn_of_wp_marks (F:=WF none) (n:=0) Tryz.func98 (c:=qq Tryz.f98) rfl trivial ?_)
 rw [code12,Tryz.ntmps98]
 have hΓ:zF Tryz.prog (qJ [] []):=qV (rs:=[]) (l:=[]) (fun p hp=>by cases hp) (fun p hp=>by cases hp)
 refine wpIn_seq (wpIn_region_lit (Eq.mp (congrArg (fun L=>wpListIn (WF none) 0 Tryz.prog (ops1 (qq Tryz.f98)).toArray _ L _ w) (List.append_nil (ops1 (qq Tryz.f98)))) (Zb (rest:=[]) qh hΓ (ops1 (qq Tryz.f98)) g [] w (VU 0 [.str s]) _ hg (YN (n:=17) hrl (by simp)) (Eq.mpr (pre12 s fun t' s'=>t'=t12 s/\s'=st12) ⟨rfl,rfl⟩) ?_)))
 rintro g1 _ w1 _ a1 ⟨rfl,rfl⟩ p1 p2 p3 p4 p5
 refine wpIn_seq (wpIn_region_lit (Eq.mp (congrArg (fun L=>wpListIn (WF none) 0 Tryz.prog (ops2 (qq Tryz.f98)).toArray _ L _ w1) (List.take_append_drop 1 (ops2 (qq Tryz.f98)))) (Zb (rest:=(ops2 (qq Tryz.f98)).drop 1) qh hΓ ((ops2 (qq Tryz.f98)).take 1) g1 st12 w1 (t12 s) a1 p1 p2 (Eq.mpr (pre12' s fun t' s'=>t'=put (t12 s) 6 (.fn 149 [] [.pt 0 0, .pt 1 0, .pt 2 0])/\s'=st12) ⟨rfl,rfl⟩) ?_)))
 rintro g2 _ w2 _ a2 ⟨rfl,rfl⟩ r1 r2 r3 r4 r5
 rw [df12_is]
 unfold wpListIn
 rw [if_pos (by simp [Region.wanted,df12_guard])]
 refine ⟨fun _ _=>trivial, ?_⟩
 have hv:R g2 (.fn 149 [] [.pt 0 0, .pt 1 0, .pt 2 0]) (a2.tmps.getD 6 Go.undef):=r2.val 6
 obtain ⟨y0,y1,y2,e6,z0,z1,z2⟩: ∃y0 y1 y2,a2.tmps.getD 6 Go.undef= .func (.func 149) #[] #[y0,y1,y2]/\R g2 (.pt 0 0) y0/\R g2 (.pt 1 0) y1/\R g2 (.pt 2 0) y2:=by
  generalize a2.tmps.getD 6 Go.undef=z at hv
  cases hv with
  | fn _ _ _ xs ys k0 k1 k2 k3 k4=>
   obtain rfl:xs= #[]:=Array.eq_empty_of_size_eq_zero (by simpa using k1.symm)
   obtain ⟨l⟩:=ys
   match l,k2,k4 with
   | [y0,y1,y2],_,k4=>exact ⟨y0,y1,y2,rfl,k4 0 _ _ rfl rfl,k4 1 _ _ rfl rfl,k4 2 _ _ rfl rfl⟩
  | yl _ _ yi _ _ k0=>cases k0
 have hrun:((op21 (qq Tryz.f98)).semAt (WF none).round a2.eval).run Tryz.prog w2= .ok (.defer {target:= .fn (.func 149) #[y0,y1,y2],args:= #[]}) w2:=by
  show (execOp a2.eval (op21 (qq Tryz.f98))).run Tryz.prog w2=_
  simp [execOp,df12_op,resolve,Act.eval,e6,Deferred.ofValue,go_sem]
 rw [hrun,Oper.uponIn_defer]
 obtain ⟨o0,rfl,u0⟩: ∃oi:OI,y0= .pointer (some ⟨oi.b,0,none⟩)/\g2.ob 0 0=some oi:=by cases z0 with | pt _ _ oi k=>exact ⟨oi,rfl,k⟩
 obtain ⟨o1,rfl,u1⟩: ∃oi:OI,y1= .pointer (some ⟨oi.b,0,none⟩)/\g2.ob 1 0=some oi:=by cases z1 with | pt _ _ oi k=>exact ⟨oi,rfl,k⟩
 obtain ⟨o2,rfl,u2⟩: ∃oi:OI,y2= .pointer (some ⟨oi.b,0,none⟩)/\g2.ob 2 0=some oi:=by cases z2 with | pt _ _ oi k=>exact ⟨oi,rfl,k⟩
 have rsz:=r2.size
 have rv:=r2.val
 letI B:Bd Tryz.prog:=bdS Tryz.prog [{target:= .fn (.func 149) #[.pointer (some ⟨o0.b,0,none⟩), .pointer (some ⟨o1.b,0,none⟩), .pointer (some ⟨o2.b,0,none⟩)],args:= #[]}] (by
  intro d hd D e
  simp only [List.mem_cons,List.not_mem_nil,or_false] at hd
  rw [hd] at e
  cases e)
 have hd0:a2.defers=[]:=by rw [r5,p5]
 have h':wz (1,s,0,0,())/\Res.go (Qr ((13:Int) - 1).toNat (0:Int).toNat ((bl s).drop (0:Int).toNat)) (ok12 K s)
   (fun e=> ∀(p m:Int),(T.pt 0 0= .pt 0 0/\T.pt 1 0= .pt 1 0/\T.pt 2 0= .pt 2 0/\(erB K s) (.ic 170 (.ag [.int .i64 e])) (stF 0 0 x0 s p m []))):=by
  refine ⟨hs, ?_⟩
  show Res.go (Qr 12 0 (bl s)) _ _
  cases hr:Qr 12 0 (bl s)with
  | ok a=>rw [hr] at h;exact h
  | err e=>rw [hr] at h;exact fun p m=>⟨rfl,rfl,rfl,e,p,m,rfl,rfl,h⟩
 have hrs:zF Tryz.prog (qJ [(150,Va)] []):=qV (rs:=[(150,Va)]) (l:=[]) (by intro p hp;simp only [List.mem_cons,List.not_mem_nil,or_false] at hp;subst hp;exact rw150_ok) (fun p hp=>by cases hp)
 refine wpIn_mono (@zx Tryz.prog B D (qJ [(150,Va)] []) (qv [(150,Va)]) 17 ⟨3,0⟩ qh hrs qj rfl [] [] 0 (rest2 (qq Tryz.f98)) (vl (by kernel_rfl)) _ _ _ (Eq.mpr (den12 s K (erB K s)) h') none (.inr (by kernel_rfl)) g2 w2 _ r1 ?ht) ?_
 case ht=>
  refine ⟨?_,⟨[], ?_,fun _=>rfl,by simp⟩, ?_,qqz _ ?_⟩
  . rw [ZQ];exact rsz
  . rw [ZQ];show _::a2.defers=_;rw [hd0];rfl
  . rw [ZQ];simp [Act.put,hd0]
  . rw [ZQ]
    simp only [t12,List.forall_mem_cons,List.not_mem_nil,false_imp_iff,implies_true,and_true]
    exact ⟨rv 0,rv 2,rv 3,rv 4⟩
 rintro x a' w' ⟨x0',g',t',st',hq,q1,q2,q3,q4⟩
 obtain ⟨ms,m1,m2,_⟩:=q3.defers
 have m1:a'.defers=ms++B.bd:=m1
 rw [m2 rfl,List.nil_append] at m1
 have hst:Step ⟨0,0⟩ g [] w g' st' w':=((p4 _).trans (r4 _)).trans (Y4 q4)
 have b0:=Qv q4 (k:=0) (by decide) rfl z0
 have b1:=Qv q4 (k:=1) (by decide) rfl z1
 have b2:=Qv q4 (k:=2) (by decide) rfl z2
 have hinv: ∀w:World,(invoke (.fn (.func 149) #[.pointer (some ⟨o0.b,0,none⟩), .pointer (some ⟨o1.b,0,none⟩), .pointer (some ⟨o2.b,0,none⟩)]) #[]).run Tryz.prog w= .ok (.enter 149 #[.pointer (some ⟨o0.b,0,none⟩), .pointer (some ⟨o1.b,0,none⟩), .pointer (some ⟨o2.b,0,none⟩)]) w:=fun w=>by
  simp [invoke,go_sem]
 cases x0' with
 | ret=>
  cases x<;>first | (exact q1.elim) | skip
  show LeavesInM (WF none) 0 Tryz.prog Tryz.f98 a'.tmps _ a'.defers .returning w'
  rw [m1]
  refine ⟨by simp, .inr ⟨fun h=>(by cases h), .func 149,_,149,_,rfl,hinv w',fun _ _=>trivial,(catch_idle _ _ _ w').mono ?_⟩⟩
  rintro e u' w3 ⟨rfl,rfl,y,rfl⟩
  obtain ⟨v1,v2⟩:=VO (w':=w'.alloc (.cells #[y] 170)) q2 rfl rfl rfl (by show w'.heap.size<=(w'.heap.push _).size;simp) (fun b hb=>Below.heap_alloc w' _ b hb)
  have ht: @RelT Tryz.prog bdNone g' 17 t' {tmps:=a'.tmps,defers:=[]}:= @RelT.mk Tryz.prog bdNone _ _ _ _ q3.size ⟨[],rfl,fun _=>rfl,by simp⟩ (by simp) q3.val
  obtain ⟨x,v,c1,c2,c3⟩:=wc (fn:=Tryz.f98) (K:=fun v=>settle0 K v st') qh v1 ht hq
  exact ⟨x,c2,g',st',v1,hst.trans (v2 _),v,c1,c3⟩
 | pan v=>
  cases x<;>first | (exact q1.elim) | skip
  obtain ⟨t0,t1,t2,e,p,m,rfl,rfl,hk⟩:=hq
  obtain ⟨v,rfl,hv⟩:=q1
  obtain rfl:v= .iface 170 (.agg #[.int .i64 e]):=by
   cases hv with
   | ic _ _ x hx=>
    cases hx with
    | ag _ xs k1 k2 k3=>
     obtain ⟨l⟩:=xs
     match l,k1,k2 with
     | [z],_,k2=>
      have:=k2 0 _ _ rfl rfl
      cases this
      rfl
  show LeavesInM (WF none) 0 Tryz.prog Tryz.f98 a'.tmps _ a'.defers (.panicking _) w'
  rw [m1]
  refine ⟨by simp, .inr ⟨fun h=>(by cases h), .func 149,_,149,_,rfl,hinv w',fun _ _=>trivial,(catch_fail q2 b0 b1 b2).mono ?_⟩⟩
  rintro e' u' w3 ⟨rfl,rfl,g3,v1,v2⟩
  have c0:=Qv v2 (k:=0) (by decide) rfl (t0▸q3.val 2)
  have c1:=Qv v2 (k:=1) (by decide) rfl (t1▸q3.val 3)
  have c2:=Qv v2 (k:=2) (by decide) rfl (t2▸q3.val 4)
  have ht: @RelT Tryz.prog bdNone g3 17 [(2, .pt 0 0),(3, .pt 1 0),(4, .pt 2 0)] {tmps:=a'.tmps,defers:=[]}:= @RelT.mk Tryz.prog bdNone _ _ _ _ q3.size ⟨[],rfl,fun _=>rfl,by simp⟩ (by simp) (qqz _ (by
   simp only [List.forall_mem_cons,List.not_mem_nil,false_imp_iff,implies_true,and_true]
   exact ⟨c0,c1,c2⟩))
  obtain ⟨x,v,c1,c2,c3⟩:=wc (fn:=Tryz.f98) (K:=fun v=>settle0 K v (stF 0 e x0 s p m [.int .i64 e])) qh v1 ht (Eq.mpr (res12 s K e p m) hk)
  exact ⟨x,c2,g3,_,v1,hst.trans (Y4 v2),v,c1,c3⟩
 | _=>exact hq.elim
end Go.Proofs.YtbglndogddddoaaGreatDoor
namespace Go.Proofs.YtbglndogddddoaaGreatDoor
open Go.RowKit
def J7 (s:ByteArray):Sx×Int×Int:=match Qr 12 0 (bl s)with
 | .ok a=>(a.1,(s.size:Int) - (a.2.2.length:Int),0)
 | .err e=>(⟨false,⟨#[]⟩,[]⟩,0,e)
def topP (s:ByteArray):Prop:=s.size<=2147483648
def sp98:Sp:=⟨[.leaf],[.str],fun g=>topP g.1,fun g=> .tu [.ag [.bool (J7 g.1).1.isList, .str (J7 g.1).1.atom, .sl false .sexp (J7 g.1).1.list], .int .i64 (J7 g.1).2.1, .int .i64 (J7 g.1).2.2],fun _=>none⟩
theorem wkK_nil3 {K:Kn} {b:Bool} {a:ByteArray} {v u:T} {s:St} (h:K (.tu [.ag [.bool b, .str a, .sl false .sexp []],v,u]) s):xp K (.tu [.ag [.bool b, .str a, .nil],v,u]) s:=
 ⟨_,za.tu (qt.cons WB (qt.cons (za.refl _) (qt.cons (za.refl _) qt.nil))),h⟩
theorem sp98_ok:sp98.Ok Tryz.prog 98 false:=
 ⟨by
  rintro ⟨s,⟨⟩⟩ K X q1 h
  have q1:s.size<=2147483648:=q1
  have h:K (.tu [.ag [.bool (J7 s).1.isList, .str (J7 s).1.atom, .sl false .sexp (J7 s).1.list], .int .i64 (J7 s).2.1, .int .i64 (J7 s).2.2]) []:=h
  refine FCalls.weak (F98_ok s _ X ⟨⟨Int.le_refl 1,(by omega:(1:Int)<=13)⟩,⟨Int.le_refl 0,Int.natCast_nonneg _,(by unfold j6;omega:s.size<=2*j6)⟩,Int.le_refl 0,(by omega:(0:Int)<=20000)⟩ ?_)
  unfold J7 at h
  cases hr:Qr 12 0 (bl s)with
  | ok a=>rw [hr] at h;exact wkK_of h
  | err e=>rw [hr] at h;exact wkK_nil3 h,fun _ _ _=>rfl,fun _=>rfl,fun h=>(by cases h)⟩
def JT (x:Sx):Int:=if (wH x 0 false 1).2=true then 4 else shS x
def sx0:Sx:=⟨false,⟨#[]⟩,[]⟩
def jH (s:ByteArray):Sx×Int:=if (J7 s).2.2=0 then (if (J7 s).2.1=(s.size:Int)then ((J7 s).1,0)else (sx0,12))else (sx0,(J7 s).2.2)
def ki (n:Int):Sx×Int:=if n< -1099511627776∨1099511627776<n then (sx0,2)else (⟨false,wg n,[]⟩,0)
end Go.Proofs.YtbglndogddddoaaGreatDoor
namespace Go.Proofs.YtbglndogddddoaaGreatDoor
open Go.RowKit
attribute [local irreducible] qW qb
def H50:List (Nat×Hint):=[]
def J50:List (Nat×Hint):=[]
abbrev S50:List Sh:=[.leaf]
abbrev L50:List Lf:=[.str]
def F50 (g:prodL L50) (K:Kn):Prop:=
 sp98.pre (g.1,())/\
 bif !decide ((J7 g.1).2.2=0)then (
  K (.tu [.ag [.bool false, .str (⟨#[]⟩:ByteArray), .nil], .int .i64 ((J7 g.1).2.2)]) [])
 else (
  bif !decide ((J7 g.1).2.1=(g.1.size:Int))then (
  K (.tu [.ag [.bool false, .str (⟨#[]⟩:ByteArray), .nil], .int .i64 12]) [])
 else (
  K (.tu [.ag [.bool ((J7 g.1).1.isList), .str ((J7 g.1).1.atom), .sl false .sexp ((J7 g.1).1.list)], .int .i64 0]) []))
theorem F50_eq (g:prodL L50) (K X:Kn):F50 g K=qW D (qJ [] [(98,false,sp98)]) (qv []) H50 J50 23 [.cell 2 85, .tmp 3] (qq Tryz.f50) (argsT S50 L50 g) [] (settle0 K) X:=by kernel_rfl
theorem F50_ok (g:prodL L50) (K X:Kn) (h:F50 g K):FCalls Tryz.prog 50 (argsT S50 L50 g) [] K X:=
 FCalls.settle0 (qz (Γ:=qJ [] [(98,false,sp98)]) (mu:=qv []) (H:=H50) (J:=J50) qh (qV (rs:=[]) (l:=[(98,false,sp98)]) (fun p hp=>by cases hp) (by intro p hp;simp only [List.mem_cons,List.not_mem_nil,or_false] at hp;subst hp;exact sp98_ok)) qj rfl Tryz.func50 (c:=qq Tryz.f50) rfl Tryz.ntmps50 Tryz.results50 (by unfold qk;rw [Tryz.func50];kernel_rfl) (Nat.le_of_ble_eq_true (by kernel_rfl)) (c0:=0) (Eq.mp (F50_eq g K X) h))
def H151:List (Nat×Hint):=[]
def J151:List (Nat×Hint):=[]
abbrev S151:List Sh:=[.ag [.leaf, .leaf, .leaf]]
abbrev L151:List Lf:=[.bool, .str, .sl .sexp]
def F151 (g:prodL L151) (K:Kn):Prop:=
 addPre (g.1,g.2.1,g.2.2.1,1,0,false,())/\
 bif (wH ⟨g.1,g.2.1,g.2.2.1⟩ 0 false 1).2 then (
  K (.int .i64 4) [])
 else (
  sp202.pre (g.1,g.2.1,g.2.2.1,())/\
 K (.int .i64 (shS ⟨g.1,g.2.1,g.2.2.1⟩)) [])
theorem F151_eq (g:prodL L151) (K X:Kn):F151 g K=qW D (qJ [(201,YE)] [(202,true,sp202)]) (qv [(201,YE)]) H151 J151 15 [.tmp 2] (qq Tryz.f151) (argsT S151 L151 g) [] (settle0 K) X:=by kernel_rfl
theorem F151_ok (g:prodL L151) (K X:Kn) (h:F151 g K):FCalls Tryz.prog 151 (argsT S151 L151 g) [] K X:=
 FCalls.settle0 (qz (Γ:=qJ [(201,YE)] [(202,true,sp202)]) (mu:=qv [(201,YE)]) (H:=H151) (J:=J151) qh (qV (rs:=[(201,YE)]) (l:=[(202,true,sp202)]) (by intro p hp;simp only [List.mem_cons,List.not_mem_nil,or_false] at hp;subst hp;exact rw201_ok) (by intro p hp;simp only [List.mem_cons,List.not_mem_nil,or_false] at hp;subst hp;exact sp202_ok)) qj rfl Tryz.func151 (c:=qq Tryz.f151) rfl Tryz.ntmps151 Tryz.results151 (by unfold qk;rw [Tryz.func151];kernel_rfl) (Nat.le_of_ble_eq_true (by kernel_rfl)) (c0:=0) (Eq.mp (F151_eq g K X) h))
def H170:List (Nat×Hint):=[]
def J170:List (Nat×Hint):=[(2,⟨[((2,[]),none)],[(0, .leaf),(2, .pt 0 0),(9, .leaf)],[.cells [.leaf, .leaf, .nil]],[.int .i64, .bool, .bool, .str]⟩)]
abbrev S170:List Sh:=[.leaf]
abbrev L170:List Lf:=[.int .i64]
def F170_J2 (K:Kn) (n_1:Int) (t_1 t1_1:Bool) (t2_1:ByteArray):Prop:=
 bif t_1 then (
  K (.tu [.ag [.bool false, .str (⟨#[]⟩:ByteArray), .nil], .int .i64 2]) [])
 else (
  wS.pre (n_1,())/\
 K (.tu [.ag [.bool false, .str (wg n_1), .nil], .int .i64 0]) [])
def F170 (g:prodL L170) (K:Kn):Prop:=
 bif decide (g.1< (-1099511627776))then (
  F170_J2 K g.1 true false (⟨#[]⟩:ByteArray))
 else (
  F170_J2 K g.1 (decide (1099511627776<g.1)) false (⟨#[]⟩:ByteArray))
theorem F170_eq (g:prodL L170) (K X:Kn):F170 g K=qW D (qJ [] [(209,true,wS)]) (qv []) H170 J170 14 [.cell 2 85, .tmp 3] (qq Tryz.f170) (argsT S170 L170 g) [] (settle0 K) X:=by kernel_rfl
theorem F170_ok (g:prodL L170) (K X:Kn) (h:F170 g K):FCalls Tryz.prog 170 (argsT S170 L170 g) [] K X:=
 FCalls.settle0 (qz (Γ:=qJ [] [(209,true,wS)]) (mu:=qv []) (H:=H170) (J:=J170) qh (qV (rs:=[]) (l:=[(209,true,wS)]) (fun p hp=>by cases hp) (by intro p hp;simp only [List.mem_cons,List.not_mem_nil,or_false] at hp;subst hp;exact V4)) qj rfl Tryz.func170 (c:=qq Tryz.f170) rfl Tryz.ntmps170 Tryz.results170 (by unfold qk;rw [Tryz.func170];kernel_rfl) (Nat.le_of_ble_eq_true (by kernel_rfl)) (c0:=0) (Eq.mp (F170_eq g K X) h))
end Go.Proofs.YtbglndogddddoaaGreatDoor
namespace Go.Proofs.YtbglndogddddoaaGreatDoor
open Go.RowKit
def dg1 (a:Nat) (c:UInt8):Nat:=10*a+(c.toNat-48)
def dv (a:Nat) (l:List UInt8):Nat:=l.foldl dg1 a
theorem Vl (a:Nat):dv a []=a:=rfl
theorem vU (a:Nat) (c:UInt8) (l:List UInt8):dv a (c::l)=dv (10*a+(c.toNat-48)) l:=List.foldl_cons ..
theorem dv_app: ∀(l m:List UInt8) (a:Nat),dv a (l++m)=dv (dv a l) m
 | [],_,_=>by rw [Vl,List.nil_append]
 | c::l,m,a=>by rw [List.cons_append,vU,vU,dv_app l m]
theorem dv_le: ∀(l:List UInt8) (a:Nat),a<=dv a l
 | [],a=>Nat.le_refl a
 | c::l,a=>by
  have h:=dv_le l (10*a+(c.toNat-48))
  rw [vU]
  generalize dv (10*a+(c.toNat-48)) l=z at h
  omega
attribute [irreducible] dv
theorem digsA (l m:List UInt8):kC (l++m)=(kC l&&kC m):=by simp [kC]
theorem Zk (c:UInt8) (l:List UInt8):kC (c::l)=true↔(48<=c.toNat/\c.toNat<=57)/\kC l=true:=by simp [kC]
theorem ZB (k:Nat) (h:k<10):(UInt8.ofNat (48+k)).toNat=48+k:=by
 rw [UInt8.toNat_ofNat'];omega
theorem dec_dv (u:Nat):dv 0 (Lib.decDigits u)=u:=by
 induction u using Nat.strongRecOn with
 | ind u ih=>
  by_cases h:u<10
  . rw [Lib.decDigits_one h];rw [vU,Vl,ZB u h];omega
  . rw [Lib.decDigits,dif_neg h,dv_app,ih (u / 10) (by omega)]
    rw [vU,Vl,ZB (u%10) (by omega)];omega
theorem wF (u:Nat):kC (Lib.decDigits u)=true:=by
 induction u using Nat.strongRecOn with
 | ind u ih=>
  by_cases h:u<10
  . rw [Lib.decDigits,dif_pos h];rw [Zk,ZB u h];exact ⟨by omega,rfl⟩
  . rw [Lib.decDigits,dif_neg h,digsA,ih (u / 10) (by omega),Bool.true_and,Zk,ZB (u%10) (by omega)]
    exact ⟨by omega,rfl⟩
theorem JA (u:Nat):Lib.decDigits u≠[]:=by
 by_cases h:u<10
 . rw [Lib.decDigits,dif_pos h];simp
 . rw [Lib.decDigits,dif_neg h];simp
theorem VN (u:Nat):wd (Lib.decDigits u)=true->u=0:=by
 induction u using Nat.strongRecOn with
 | ind u ih=>
  by_cases h:u<10
  . rw [Lib.decDigits,dif_pos h];simp only [wd,ZB u h,decide_eq_true_eq];omega
  . rw [Lib.decDigits,dif_neg h]
    intro h1
    have:=ih (u / 10) (by omega)
    cases hd:Lib.decDigits (u / 10)with
    | nil=>exact absurd hd (JA _)
    | cons c r=>
     rw [hd] at h1 this
     have:=this h1
     omega
def qqq (l:List UInt8):Int×Int:=
 let m:=dv 0 (if l.head?=some 45 then l.tail else l)
 if 1099511627776<m then (0,2)else (if l.head?=some 45 then -(m:Int)else m,0)
theorem KX {d:List UInt8} (h:kC d=true):d.head?≠some 45:=by
 cases d with
 | nil=>simp
 | cons c r=>
  have:=((Zk c r).1 h).1
  simp only [List.head?_cons,ne_eq,Option.some.injEq]
  rintro rfl
  exact absurd this.1 (by decide)
theorem can_itoa (n:Int):Vb (Lib.itoa n)=true:=by
 unfold Lib.itoa
 split
 . rename_i h
   have h1:=wF n.natAbs
   have h2:=JA n.natAbs
   have h3:wd (Lib.decDigits n.natAbs)=false:=by
    cases hh:wd (Lib.decDigits n.natAbs)with
    | false=>rfl
    | true=>have:=VN _ hh;omega
   simp [Vb,h1,h2,h3]
 . rename_i h
   have h1:=wF n.toNat
   have h2:=JA n.toNat
   have h4:=KX h1
   simp only [Vb,if_neg h4,h1,h2,decide_false,Bool.not_false,Bool.and_true,Bool.true_and,Bool.or_eq_true,Bool.not_eq_true',decide_eq_true_eq]
   cases hh:wd (Lib.decDigits n.toNat)with
   | false=>exact .inl rfl
   | true=>
    have:=VN _ hh
    rw [this]
    exact .inr (by rw [Lib.decDigits];rfl)
theorem num_itoa {n:Int} (h: ¬(n< -1099511627776∨1099511627776<n)):qqq (Lib.itoa n)=(n,0):=by
 unfold Lib.itoa
 split
 . rename_i h'
   simp only [qqq,List.head?_cons,if_true,List.tail_cons,dec_dv]
   rw [if_neg (by omega)]
   simp only [Prod.mk.injEq,and_true];omega
 . rename_i h'
   have h4:=KX (wF n.toNat)
   simp only [qqq,if_neg h4,dec_dv]
   rw [if_neg (by omega)]
   simp only [Prod.mk.injEq,and_true];omega
theorem VG: ∀(l:List UInt8) (a:Nat),kC l=true->a<18446744073709551616->(dv a l<18446744073709551616->Lib.parseUint10 a l= .ok (dv a l))/\(18446744073709551616<=dv a l->Lib.parseUint10 a l= .range)
 | [],a,_,ha=>by
  rw [Vl]
  exact ⟨fun _=>rfl,fun h=>by omega⟩
 | c::l,a,h,ha=>by
  obtain ⟨h1,h2⟩:=(Zk c l).1 h
  rw [vU,Lib.parseUint10,if_pos h1]
  have h3:=dv_le l (10*a+(c.toNat-48))
  have e:a*10+(c.toNat-48)=10*a+(c.toNat-48):=by omega
  rw [e]
  by_cases k1:1844674407370955162<=a
  . rw [if_pos k1]
    exact ⟨fun h=>by omega,fun _=>rfl⟩
  . rw [if_neg k1]
    by_cases k2:18446744073709551616<=10*a+(c.toNat-48)
    . rw [if_pos k2]
      exact ⟨fun h=>by omega,fun _=>rfl⟩
    . rw [if_neg k2]
      exact VG l _ h2 (by omega)
theorem numV_minus (r:List UInt8):qqq (45::r)=if 1099511627776<dv 0 r then (0,2)else (-(dv 0 r:Int),0):=rfl
theorem numV_plain {l:List UInt8} (h:l.head?≠some 45):qqq l=if 1099511627776<dv 0 l then (0,2)else ((dv 0 l:Int),0):=by simp only [qqq,if_neg h]
theorem atoi_can {l:List UInt8} (h:Vb l=true):(Lib.atoiAll l= .range/\qqq l=(0,2))∨ ∃v,Lib.atoiAll l= .ok v/\qqq l=(if v< -1099511627776∨1099511627776<v then (0,2)else (v,0)):=by
 simp only [Vb,Bool.and_eq_true,Bool.not_eq_true',decide_eq_false_iff_not,Bool.or_eq_true,decide_eq_true_eq] at h
 obtain ⟨⟨h1,h2⟩, -⟩:=h
 by_cases h45:l.head?=some 45
 . simp only [if_pos h45] at h1 h2
   obtain ⟨r,rfl⟩: ∃r,l=45::r:=by
    cases l with
    | nil=>simp at h45
    | cons c r=>simp at h45;exact ⟨r,by rw [h45]⟩
   simp only [List.tail_cons] at h1 h2
   rw [numV_minus,Lib.atoiAll_minus,Lib.parseMag,if_neg h2]
   obtain ⟨p1,p2⟩:=VG r 0 h1 (by omega)
   by_cases hz:dv 0 r<18446744073709551616
   . rw [p1 hz]
     simp only [Lib.signed]
     by_cases hw:9223372036854775808<dv 0 r
     . rw [if_pos hw,if_pos (by omega)]
       exact .inl ⟨rfl,rfl⟩
     . rw [if_neg hw]
       refine .inr ⟨_,rfl, ?_⟩
       by_cases hv:1099511627776<dv 0 r
       . rw [if_pos hv,if_pos (by omega)]
       . rw [if_neg hv,if_neg (by omega)]
   . rw [p2 (by omega),if_pos (show 1099511627776<_ by omega)]
     exact .inl ⟨rfl,rfl⟩
 . simp only [if_neg h45] at h1 h2
   cases l with
   | nil=>exact absurd rfl h2
   | cons c r=>
    have hc:=((Zk c r).1 h1).1
    rw [numV_plain h45,Lib.atoiAll_plain c r (by omega) (by omega),Lib.parseMag,if_neg h2]
    obtain ⟨p1,p2⟩:=VG (c::r) 0 h1 (by omega)
    by_cases hz:dv 0 (c::r) <18446744073709551616
    . rw [p1 hz]
      simp only [Lib.signless]
      by_cases hw:9223372036854775808<=dv 0 (c::r)
      . rw [if_pos hw,if_pos (by omega)]
        exact .inl ⟨rfl,rfl⟩
      . rw [if_neg hw]
        refine .inr ⟨_,rfl, ?_⟩
        by_cases hv:1099511627776<dv 0 (c::r)
        . rw [if_pos hv,if_pos (by omega)]
        . rw [if_neg hv,if_neg (by omega)]
    . rw [p2 (by omega),if_pos (show 1099511627776<_ by omega)]
      exact .inl ⟨rfl,rfl⟩
def nmB (e:Int) (x:Sx):Int×Int:=if e=0 then (if x.isList=true then (0,8)else if Vb (bl x.atom)=true then qqq (bl x.atom)else (0,3))else (0,e)
end Go.Proofs.YtbglndogddddoaaGreatDoor
namespace Go.Proofs.YtbglndogddddoaaGreatDoor
open Go.RowKit
theorem Z7 {p:Prop} [Decidable p] {A B:Prop}:(bif !decide p then A else B)=if p then B else A:=by
 by_cases h:p<;>simp [h]
def sp50:Sp:=⟨S50,L50,fun g=>topP g.1,fun g=> .tu [.ag [.bool (jH g.1).1.isList, .str (jH g.1).1.atom, .sl false .sexp (jH g.1).1.list], .int .i64 (jH g.1).2],fun _=>none⟩
theorem sp50_ok:sp50.Ok Tryz.prog 50 false:=
 ⟨by
  rintro ⟨s,⟨⟩⟩ K X q1 h
  have h:K (.tu [.ag [.bool (jH s).1.isList, .str (jH s).1.atom, .sl false .sexp (jH s).1.list], .int .i64 (jH s).2]) []:=h
  refine FCalls.weak (F50_ok (s,()) (xp K) X ⟨q1, ?_⟩)
  unfold jH at h
  rw [Z7,Z7]
  dsimp only at *
  split at h
  . rename_i h1
    rw [if_pos h1]
    split at h
    . rename_i h2;rw [if_pos h2];exact wkK_of h
    . rename_i h2;rw [if_neg h2];exact yP h
  . rename_i h1;rw [if_neg h1];exact yP h,fun _ _ _=>rfl,fun _=>rfl,fun h=>(by cases h)⟩
def sp170:Sp:=⟨S170,L170,fun g=>xB g.1,fun g=> .tu [.ag [.bool (ki g.1).1.isList, .str (ki g.1).1.atom, .sl false .sexp (ki g.1).1.list], .int .i64 (ki g.1).2],fun _=>none⟩
theorem sp170_ok:sp170.Ok Tryz.prog 170 false:=
 ⟨by
  rintro ⟨n,⟨⟩⟩ K X q1 h
  have h:K (.tu [.ag [.bool (ki n).1.isList, .str (ki n).1.atom, .sl false .sexp (ki n).1.list], .int .i64 (ki n).2]) []:=h
  refine FCalls.weak (F170_ok (n,()) (xp K) X ?_)
  unfold F170
  dsimp only
  rw [qr]
  unfold ki at h
  by_cases h1:n< -1099511627776
  . rw [if_pos (.inl h1)] at h
    rw [if_pos h1]
    exact yP h
  . rw [if_neg h1]
    unfold F170_J2
    rw [qr]
    by_cases h2:1099511627776<n
    . rw [if_pos (.inr h2)] at h
      rw [if_pos h2]
      exact yP h
    . rw [if_neg (fun e=>e.elim h1 h2)] at h
      rw [if_neg h2]
      exact ⟨q1,yP h⟩,fun _ _ _=>rfl,fun _=>rfl,fun h=>(by cases h)⟩
def bkP (g:prodL [.bool, .str, .sl .sexp]):Prop:=xx ⟨g.1,g.2.1,g.2.2.1⟩<=j6
def Zr:Sp:=⟨S151,L151,bkP,fun g=> .int .i64 (JT ⟨g.1,g.2.1,g.2.2.1⟩),fun _=>none⟩
theorem sp151_ok:Zr.Ok Tryz.prog 151 true:=
 ⟨by
  rintro ⟨b,a,l,⟨⟩⟩ K X q1 h
  have h:K (.int .i64 (JT ⟨b,a,l⟩)) []:=h
  have q1:xx ⟨b,a,l⟩<=j6:=q1
  refine F151_ok (b,a,l,()) K X ⟨?_, ?_⟩
  . have hn:=nodes_bk ⟨b,a,l⟩
    have q2:=q1
    rw [vq] at q2
    exact ⟨q1,⟨Int.le_refl 0,(by omega:(0:Int)+(zn ⟨b,a,l⟩:Int)<=1099511627776)⟩,(by omega:(0:Int)<=1),(by omega:(1:Int)+(zn ⟨b,a,l⟩:Int)<=1099511627776)⟩
  . unfold JT at h
    dsimp only
    cases hm:(wH ⟨b,a,l⟩ 0 false 1).2 with
    | true=>rw [hm] at h;exact h
    | false=>rw [hm] at h;exact ⟨q1,h⟩,fun _ _ _=>rfl,fun _=>rfl,fun _ _=>⟨rfl,rfl⟩⟩
end Go.Proofs.YtbglndogddddoaaGreatDoor
namespace Go.Proofs.YtbglndogddddoaaGreatDoor
open Go.RowKit
attribute [local irreducible] qW qb
def H100:List (Nat×Hint):=[]
def J100:List (Nat×Hint):=[]
abbrev S100:List Sh:=[.ag [.leaf, .leaf, .leaf]]
abbrev L100:List Lf:=[.bool, .str, .sl .sexp]
def F100 (g:prodL L100) (K:Kn):Prop:=
 Zr.pre (g.1,g.2.1,g.2.2.1,())/\
 bif !decide (JT ⟨g.1,g.2.1,g.2.2.1⟩=0)then (
  K (.tu [.int .i64 0, .int .i64 (JT ⟨g.1,g.2.1,g.2.2.1⟩)]) [])
 else (
  bif g.1 then (
  K (.tu [.int .i64 0, .int .i64 8]) [])
 else (
  sp152.pre (g.2.1,())/\
  bif !(Vb (bl g.2.1))then (
   K (.tu [.int .i64 0, .int .i64 3]) [])
  else (
   atoiPre (g.2.1,())/\
 Res.go (KC g.2.1) (fun a1=>
 bif decide (a1< (-1099511627776))then (
  K (.tu [.int .i64 0, .int .i64 2]) [])
 else (
  bif decide (1099511627776<a1)then (
  K (.tu [.int .i64 0, .int .i64 2]) [])
 else (
  K (.tu [.int .i64 a1, .int .i64 0]) []))) (fun e2=>
 K (.tu [.int .i64 0, .int .i64 2]) []))))
theorem F100_eq (g:prodL L100) (K X:Kn):F100 g K=qW D (qJ [(153,Y7)] [(151,true,Zr),(152,true,sp152)]) (qv [(153,Y7)]) H100 J100 37 [.tmp 2, .tmp 3] (qq Tryz.f100) (argsT S100 L100 g) [] (settle0 K) X:=by kernel_rfl
theorem F100_ok (g:prodL L100) (K X:Kn) (h:F100 g K):FCalls Tryz.prog 100 (argsT S100 L100 g) [] K X:=
 FCalls.settle0 (qz (Γ:=qJ [(153,Y7)] [(151,true,Zr),(152,true,sp152)]) (mu:=qv [(153,Y7)]) (H:=H100) (J:=J100) qh (qV (rs:=[(153,Y7)]) (l:=[(151,true,Zr),(152,true,sp152)]) (by intro p hp;simp only [List.mem_cons,List.not_mem_nil,or_false] at hp;subst hp;exact rw153_ok) (by intro p hp;simp only [List.mem_cons,List.not_mem_nil,or_false] at hp;rcases hp with rfl | rfl<;>first | exact sp151_ok | exact sp152_ok)) qj rfl Tryz.func100 (c:=qq Tryz.f100) rfl Tryz.ntmps100 Tryz.results100 (by unfold qk;rw [Tryz.func100];kernel_rfl) (Nat.le_of_ble_eq_true (by kernel_rfl)) (c0:=0) (Eq.mp (F100_eq g K X) h))
end Go.Proofs.YtbglndogddddoaaGreatDoor
namespace Go.Proofs.YtbglndogddddoaaGreatDoor
open Go.RowKit
def nmG (x:Sx):Int×Int:=nmB (JT x) x
def sp100:Sp:=⟨S100,L100,bkP,fun g=> .tu [.int .i64 (nmG ⟨g.1,g.2.1,g.2.2.1⟩).1, .int .i64 (nmG ⟨g.1,g.2.1,g.2.2.1⟩).2],fun _=>none⟩
theorem sp100_ok:sp100.Ok Tryz.prog 100 true:=
 ⟨by
  rintro ⟨b,a,l,⟨⟩⟩ K X q1 h
  have h:K (.tu [.int .i64 (nmB (JT ⟨b,a,l⟩) ⟨b,a,l⟩).1, .int .i64 (nmB (JT ⟨b,a,l⟩) ⟨b,a,l⟩).2]) []:=h
  have q2:xx ⟨b,a,l⟩<=j6:=q1
  have hsz:a.size<=1073741824:=by have:=(Xy q2).2.1;rw [vq] at this;exact this
  refine F100_ok (b,a,l,()) K X ⟨q1, ?_⟩
  unfold nmB at h
  dsimp only
  rw [Z7]
  by_cases h0:JT ⟨b,a,l⟩=0
  . rw [if_pos h0] at h
    rw [if_pos h0]
    cases b with
    | true=>exact h
    | false=>
     refine ⟨(by omega:a.size<=4294967296), ?_⟩
     rw [if_neg (by simp)] at h
     cases hc:Vb (bl a)with
     | false=>rw [hc] at h;exact h
     | true=>
      rw [hc,if_pos rfl] at h
      rcases atoi_can hc with ⟨e1,e2⟩ | ⟨v,e1,e2⟩
      . refine ⟨⟨(by omega:a.size<=2147483648), .inr e1⟩, ?_⟩
        unfold KC
        rw [e1]
        rw [e2] at h
        exact h
      . refine ⟨⟨(by omega:a.size<=2147483648), .inl ⟨v,e1⟩⟩, ?_⟩
        unfold KC
        rw [e1]
        rw [e2] at h
        show bif decide (v< -1099511627776)then _ else _
        rw [qr,qr]
        by_cases k1:v< -1099511627776
        . rw [if_pos (.inl k1)] at h;rw [if_pos k1];exact h
        . rw [if_neg k1]
          by_cases k2:1099511627776<v
          . rw [if_pos (.inr k2)] at h;rw [if_pos k2];exact h
          . rw [if_neg (fun e=>e.elim k1 k2)] at h;rw [if_neg k2];exact h
  . rw [if_neg h0] at h
    rw [if_neg h0]
    exact h,fun _ _ _=>rfl,fun _=>rfl,fun _ _=>⟨rfl,rfl⟩⟩
end Go.Proofs.YtbglndogddddoaaGreatDoor
namespace Go.Proofs.YtbglndogddddoaaGreatDoor
open Go.RowKit
attribute [local irreducible] qW qb
end Go.Proofs.YtbglndogddddoaaGreatDoor
namespace Go.Proofs.YtbglndogddddoaaGreatDoor
open Go.RowKit
end Go.Proofs.YtbglndogddddoaaGreatDoor
namespace Go.Proofs.YtbglndogddddoaaGreatDoor
open Go.RowKit
attribute [local irreducible] qW qb
end Go.Proofs.YtbglndogddddoaaGreatDoor
namespace Go.Proofs.YtbglndogddddoaaGreatDoor
open Go.RowKit
theorem bk_sx0:xx sx0=3:=rfl
theorem rdT_bk (s:ByteArray):xx (J7 s).1<=4*s.size+3:=by
 have hs:=Jn 12 0 (bl s) (by omega)
 unfold J7
 cases hr:Qr 12 0 (bl s)with
 | err e=>show xx sx0<=_;rw [bk_sx0];omega
 | ok a=>
  obtain ⟨x,k,r⟩:=a
  obtain ⟨⟨p,_,p2,p3⟩,_⟩:=hs.1 x k r hr
  have:=xW s
  rw [p2,List.length_append] at this
  show xx x<=_
  omega
theorem dcT_bk (s:ByteArray):xx (jH s).1<=4*s.size+3:=by
 have:=rdT_bk s
 unfold jH
 split
 . split
   . exact this
   . show xx sx0<=_;rw [bk_sx0];omega
 . show xx sx0<=_;rw [bk_sx0];omega
theorem kH: ∀(k u:Nat),u<10^(k+1)->(Lib.decDigits u).length<=k+1
 | 0,u,h=>by rw [Lib.decDigits_one (by omega)];simp
 | k+1,u,h=>by
  by_cases hu:u<10
  . rw [Lib.decDigits_one hu];simp
  . rw [Lib.decDigits,dif_neg hu,List.length_append]
    have:=kH k (u / 10) (by rw [Nat.pow_succ] at h;omega)
    simp only [List.length_cons,List.length_nil];omega
theorem Vf (n:Int):bl (wg n)=Lib.itoa n:=bl_mk _
theorem YT {n:Int} (h:xB n):(wg n).size<=21:=by
 rw [<- xW,Vf]
 obtain ⟨h1,h2⟩: -9223372036854775808<=n/\n<=9223372036854775807:=h
 unfold Lib.itoa
 split
 . have:=kH 19 n.natAbs (by omega)
   simp only [List.length_cons];omega
 . have:=kH 19 n.toNat (by omega)
   omega
theorem ck_atom {a:ByteArray} (h:a.size<=65536):JT ⟨false,a,[]⟩=0:=by
 simp [JT,wH,shS,shSs]
 omega
end Go.Proofs.YtbglndogddddoaaGreatDoor
namespace Go.Proofs.YtbglndogddddoaaGreatDoor
open Go.RowKit
theorem JF (a b:ByteArray):bl (a++b)=bl a++bl b:=by simp [bl,ByteArray.data_append]
end Go.Proofs.YtbglndogddddoaaGreatDoor
namespace Go.Proofs.YtbglndogddddoaaGreatDoor
open Go.RowKit
attribute [local irreducible] qW qb
end Go.Proofs.YtbglndogddddoaaGreatDoor
namespace Go.Proofs.YtbglndogddddoaaGreatDoor
open Go.RowKit
mutual
def nn:Sx->Nat
 | ⟨b,_,l⟩=>if b=false then 1 else 1+nns l
def nns:List Sx->Nat
 | []=>0
 | x::l=>nn x+nns l
end
mutual
def dd:Sx->Nat
 | ⟨b,_,l⟩=>if b=false then 1 else 1+dds l
def dds:List Sx->Nat
 | []=>0
 | x::l=>max (dd x) (dds l)
end
theorem nn_pos (x:Sx):1<=nn x:=by
 obtain ⟨b,a,l⟩:=x
 simp only [nn]
 split<;>omega
theorem dd_pos (x:Sx):1<=dd x:=by
 obtain ⟨b,a,l⟩:=x
 simp only [dd]
 split<;>omega
theorem V9: ∀(l:List Sx) (n d:Int),vp l n true d=(n,true)
 | [],_,_=>rfl
 | x::l,n,d=>by simp only [vp,if_true]
mutual
theorem madd_is: ∀(x:Sx) (n d:Int),(n+(nn x:Int)<=20000/\(dd x:Int)+d-1<=12->wH x n false d=(n+nn x,false))/\((wH x n false d).2=false->n+(nn x:Int)<=20000/\(dd x:Int)+d-1<=12)
 | ⟨b,a,l⟩,n,d=>by
  simp only [nn,dd,wH]
  by_cases hb:b=false
  . simp only [if_pos hb,Bool.false_or]
    refine ⟨fun h=> ?_,fun h=> ?_⟩
    . rw [decide_eq_false (by omega)];rfl
    . have:=of_decide_eq_false h;omega
  . simp only [if_neg hb,Bool.false_or]
    by_cases hc:20000<n+1∨12<d
    . rw [decide_eq_true hc,V9]
      exact ⟨fun h=>by omega,fun h=>by cases h⟩
    . rw [decide_eq_false hc]
      obtain ⟨k1,k2⟩:=madds_is l (n+1) (d+1) (by omega) (by omega)
      refine ⟨fun h=> ?_,fun h=> ?_⟩
      . rw [k1 (by omega)]
        simp only [Prod.mk.injEq,and_true];omega
      . have:=k2 h;omega
theorem madds_is: ∀(l:List Sx) (n d:Int),n<=20000->d<=13->(n+(nns l:Int)<=20000/\(dds l:Int)+d-1<=12->vp l n false d=(n+nns l,false))/\((vp l n false d).2=false->n+(nns l:Int)<=20000/\(dds l:Int)+d-1<=12)
 | [],n,d,hn,hd=>by
  simp only [nns,dds,vp]
  exact ⟨fun _=>by simp,fun _=>by omega⟩
 | x::l,n,d,hn,hd=>by
  simp only [nns,dds,vp]
  rw [if_neg (by simp)]
  obtain ⟨k1,k2⟩:=madd_is x n d
  have hp:=nn_pos x
  by_cases hx:n+(nn x:Int)<=20000/\(dd x:Int)+d-1<=12
  . rw [k1 hx]
    obtain ⟨m1,m2⟩:=madds_is l (n+nn x) d (by omega) hd
    refine ⟨fun h=> ?_,fun h=> ?_⟩
    . rw [m1 (by omega)]
      simp only [Prod.mk.injEq,and_true];omega
    . have:=m2 h;omega
  . refine ⟨fun h=>by omega,fun h=> ?_⟩
    cases hm:(wH x n false d).2 with
    | false=>exact absurd (k2 hm) hx
    | true=>rw [hm,V9] at h;cases h
end
mutual
theorem shape_eq: ∀x:Sx,shS x=ckR x
 | ⟨b,a,l⟩=>by
  simp only [shS,ckR]
  cases b with
  | false=>
   simp only [if_true,Bool.false_eq_true,false_and,false_or,true_and]
   by_cases hl:0<l.length
   . rw [if_pos hl,if_pos hl]
   . rw [if_neg hl,if_neg hl]
     have:l=[]:=List.eq_nil_of_length_eq_zero (by omega)
     subst this
     rfl
  | true=>
   simp only [Bool.true_eq_false,if_false,true_and,false_and,or_false]
   by_cases ha:a≠⟨#[]⟩
   . rw [if_pos ha,if_pos ha]
   . rw [if_neg ha,if_neg ha]
     have:a=⟨#[]⟩:=Classical.not_not.1 ha
     subst this
     rw [if_neg (by decide),Km l]
theorem Km: ∀l:List Sx,shSs l=ckRs l
 | []=>rfl
 | x::l=>by simp only [shSs,ckRs,shape_eq x,Km l]
end
end Go.Proofs.YtbglndogddddoaaGreatDoor
namespace Go.Proofs.YtbglndogddddoaaGreatDoor
open Go.RowKit
attribute [local irreducible] qW qb
end Go.Proofs.YtbglndogddddoaaGreatDoor
namespace Go.Proofs.YtbglndogddddoaaGreatDoor
open Go.RowKit
end Go.Proofs.YtbglndogddddoaaGreatDoor
namespace Go.Proofs.YtbglndogddddoaaGreatDoor
open Go.RowKit
mutual
def Qe:Sx->List UInt8
 | ⟨b,a,l⟩=>if b=false then Lib.decDigits a.size++58::bl a else 40::(xJ l++[41])
def xJ:List Sx->List UInt8
 | []=>[]
 | x::l=>Qe x++xJ l
end
mutual
theorem encB_bl: ∀x:Sx,bl (yo x)=Qe x
 | ⟨b,a,l⟩=>by
  simp only [yo,Qe]
  split
  . rw [JF,JF,Vf,Lib.itoa,if_neg (by omega),List.append_assoc];rfl
  . rw [JF,encBs_bl l];rfl
theorem encBs_bl: ∀(l:List Sx) (s:ByteArray),bl (WT l s)=bl s++xJ l
 | [],s=>by simp [WT,xJ]
 | x::l,s=>by
  simp only [WT,xJ]
  rw [encBs_bl l,JF,encB_bl x,List.append_assoc]
end
theorem num_go: ∀(d:List UInt8) (n:Nat) (r:List UInt8),kC d=true->dv n d<=65536->1<=n->yh false n (d++58::r)= .ok (dv n d,r)
 | [],n,r,_,_,_=>by
  rw [Vl,List.nil_append,yh,if_pos ⟨rfl,rfl⟩]
 | c::d,n,r,h1,h2,h3=>by
  obtain ⟨c1,c2⟩:=(Zk c d).1 h1
  rw [vU] at h2 ⊢
  have:=dv_le d (10*n+(c.toNat-48))
  rw [List.cons_append,yh,if_neg (by omega),if_neg (by simp;omega),if_neg (by omega)]
  exact num_go d _ r c2 h2 (by omega)
theorem num_dec {u:Nat} (h:u<=65536) (r:List UInt8):yh true 0 (Lib.decDigits u++58::r)= .ok (u,r):=by
 have h1:=wF u
 have h2:=dec_dv u
 have h3:=VN u
 cases hd:Lib.decDigits u with
 | nil=>exact absurd hd (JA u)
 | cons c d=>
  rw [hd] at h1 h2 h3
  obtain ⟨c1,c2⟩:=(Zk c d).1 h1
  rw [vU] at h2
  have hle:=dv_le d (10*0+(c.toNat-48))
  rw [List.cons_append,yh,if_neg (by simp),if_neg (by simp;omega),if_neg (by omega)]
  by_cases h48:c.toNat=48
  . have hu:u=0:=h3 (by simp [wd,h48])
    subst hu
    rw [Lib.decDigits_one (by omega)] at hd
    simp only [List.cons.injEq] at hd
    obtain ⟨-,rfl⟩:=hd
    rw [h48,List.nil_append,yh,if_pos ⟨rfl,rfl⟩]
  . rw [num_go d _ r c2 (by omega) (by omega),h2]
theorem atom_enc {a:List UInt8} (h:a.length<=65536) (r:List UInt8):ZT (Lib.decDigits a.length++58::(a++r))= .ok (a,r):=by
 unfold ZT atomG
 rw [num_dec h]
 simp only
 rw [if_neg (by simp),List.take_left,List.drop_left]
theorem enc_head (x:Sx): ∃c l,Qe x=c::l/\c.toNat≠41:=by
 obtain ⟨b,a,l⟩:=x
 simp only [Qe]
 split
 . have h1:=wF a.size
   cases hd:Lib.decDigits a.size with
   | nil=>exact absurd hd (JA _)
   | cons c d=>
    rw [hd] at h1
    have:=((Zk c d).1 h1).1
    exact ⟨c,_,rfl,by omega⟩
 . exact ⟨40,_,rfl,by decide⟩
theorem rdL_enc {f:Nat->List UInt8->Res (Sx×Nat×List UInt8) Int} {r:List UInt8}: ∀(xs:List Sx) (m k:Nat) (acc:List Sx),(xJ xs).length<m->
  (∀x∈xs, ∀k' s,k<=k'->k'+nn x<=k+nns xs->f k' (Qe x++s)= .ok (x,k'+nn x,s))->rdL f m k (xJ xs++41::r) acc= .ok (acc++xs,k+nns xs,r)
 | [],m,k,acc,hm,_=>by
  obtain ⟨m,rfl⟩: ∃m',m=m'+1:=⟨m-1,by omega⟩
  simp [xJ,rdL,nns]
 | x::xs,m,k,acc,hm,h=>by
  simp only [xJ,List.length_append] at hm
  obtain ⟨m,rfl⟩: ∃m',m=m'+1:=⟨m-1,by omega⟩
  obtain ⟨c,t,e,h41⟩:=enc_head x
  have hx:=h x (by simp) k (xJ xs++41::r) (Nat.le_refl _) (by simp only [nns];omega)
  simp only [xJ,nns,List.append_assoc]
  rw [e] at hx ⊢
  rw [List.cons_append] at hx ⊢
  simp only [rdL,if_neg h41,hx]
  have hlen:1<=(Qe x).length:=by rw [e];simp
  rw [rdL_enc xs m (k+nn x) (acc++[x]) (by omega) fun y hy k' s h1 h2=>h y (List.mem_cons_of_mem _ hy) k' s (by omega) (by simp only [nns];omega)]
  simp [Nat.add_assoc]
theorem ck_mem: ∀{l:List Sx},ckRs l=0-> ∀x∈l,ckR x=0
 | [],_,x,hx=>by simp at hx
 | y::l,h,x,hx=>by
  simp only [ckRs] at h
  split at h
  . rename_i h0
    rcases List.mem_cons.1 hx with rfl | hx
    . exact h0
    . exact ck_mem h x hx
  . rename_i h0;exact absurd h h0
theorem dd_mem: ∀{l:List Sx}, ∀x∈l,dd x<=dds l
 | [],x,hx=>by simp at hx
 | y::l,x,hx=>by
  simp only [dds]
  rcases List.mem_cons.1 hx with rfl | hx
  . omega
  . have:=dd_mem x hx;omega
theorem rdS_enc: ∀(d:Nat) (x:Sx) (k:Nat) (r:List UInt8),ckR x=0->dd x<=d->k+nn x<=20000->Qr d k (Qe x++r)= .ok (x,k+nn x,r)
 | 0,x,_,_,_,h,_=>by have:=dd_pos x;omega
 | d+1,⟨b,a,l⟩,k,r,h1,h2,h3=>by
  simp only [ckR,dd,nn] at h1 h2 h3
  simp only [Qe,nn]
  cases b with
  | false=>
   simp only [if_true] at h1 h2 h3 ⊢
   have hl:l=[]:=by
    by_cases hl:0<l.length
    . rw [if_pos hl] at h1;cases h1
    . exact List.eq_nil_of_length_eq_zero (by omega)
   subst hl
   have ha:(bl a).length<=65536:=by
    rw [xW]
    by_cases ha:65536<a.size
    . rw [if_neg (by simp),if_pos ha] at h1;cases h1
    . omega
   have hat:=atom_enc ha r
   have hd:=wF a.size
   rw [xW] at hat
   rw [List.append_assoc,List.cons_append]
   cases hc:Lib.decDigits a.size with
   | nil=>exact absurd hc (JA _)
   | cons c t=>
    rw [hc] at hat hd
    have:=((Zk c t).1 hd).1
    rw [List.cons_append] at hat ⊢
    rw [Qr,if_neg (by omega),if_pos (by omega),hat]
    simp [mk_bl]
  | true=>
   simp only [Bool.true_eq_false,if_false] at h1 h2 h3 ⊢
   have ha:a=⟨#[]⟩:=Classical.not_not.1 fun ha=>by rw [if_pos ha] at h1;cases h1
   subst ha
   rw [if_neg (by simp)] at h1
   have he:(40:UInt8)::(xJ l++[41])++r=40::(xJ l++41::r):=by simp
   rw [he,Qr,if_neg (by omega),if_neg (by decide),rdL_enc l _ (k+1) [] (by simp;omega) fun x hx k' s q1 q2=>rdS_enc d x k' s (ck_mem h1 x hx) (by have:=dd_mem x hx;omega) (by omega)]
   simp [Nat.add_assoc]
theorem ck_valid {x:Sx} (h:JT x=0):ckR x=0/\nn x<=20000/\dd x<=12:=by
 unfold JT at h
 obtain ⟨_,k2⟩:=madd_is x 0 1
 split at h
 . cases h
 . rename_i hm
   have:=k2 (by simpa using hm)
   rw [shape_eq] at h
   exact ⟨h,by omega,by omega⟩
theorem read_enc {x:Sx} (h:JT x=0) (r:List UInt8):Qr 12 0 (Qe x++r)= .ok (x,nn x,r):=by
 obtain ⟨h1,h2,h3⟩:=ck_valid h
 rw [rdS_enc 12 x 0 r h1 h3 (by omega),Nat.zero_add]
end Go.Proofs.YtbglndogddddoaaGreatDoor
namespace Go.Proofs.YtbglndogddddoaaGreatDoor
open Go.RowKit
end Go.Proofs.YtbglndogddddoaaGreatDoor
namespace Go.Proofs.YtbglndogddddoaaGreatDoor
open Go.RowKit
end Go.Proofs.YtbglndogddddoaaGreatDoor
namespace Go.Proofs.YtbglndogddddoaaGreatDoor
open Go.RowKit
attribute [local irreducible] qW qb
end Go.Proofs.YtbglndogddddoaaGreatDoor
namespace Go.Proofs.YtbglndogddddoaaGreatDoor
open Go.RowKit
mutual
theorem encL_len: ∀x:Sx,xx x<=j6->(Qe x).length<=22*xx x
 | ⟨b,a,l⟩,h=>by
  simp only [xx] at h ⊢
  simp only [Qe]
  have hl:=vq
  split
  . have:=kH 19 a.size (by omega)
    have:=xW a
    simp only [List.length_append,List.length_cons];omega
  . have:=YS l (by omega)
    simp only [List.length_append,List.length_cons,List.length_nil];omega
theorem YS: ∀l:List Sx,qu l<=j6->(xJ l).length<=22*qu l
 | [],_=>by simp [xJ,qu]
 | x::l,h=>by
  simp only [qu] at h ⊢
  have:=encL_len x (by omega)
  have:=YS l (by omega)
  simp only [xJ,List.length_append];omega
end
theorem size_app (a b:ByteArray):(a++b).size=a.size+b.size:=ByteArray.size_append
def wB (x:Sx):ByteArray×Int:=if JT x=0 then (yo x,0)else (⟨#[]⟩,JT x)
end Go.Proofs.YtbglndogddddoaaGreatDoor
namespace Go.Proofs.YtbglndogddddoaaGreatDoor
open Go.RowKit
attribute [local irreducible] qW qb
abbrev S76:List Sh:=[.ag [.leaf, .leaf, .leaf]]
abbrev L76:List Lf:=[.bool, .str, .sl .sexp]
end Go.Proofs.YtbglndogddddoaaGreatDoor
namespace Go.Proofs.YtbglndogddddoaaGreatDoor
open Go.RowKit
def sp76:Sp:=⟨S76,L76,bkP,fun g=> .tu [.str (wB ⟨g.1,g.2.1,g.2.2.1⟩).1, .int .i64 (wB ⟨g.1,g.2.1,g.2.2.1⟩).2],fun _=>none⟩
def EncodeOk:Prop:=sp76.Ok Tryz.prog 122 true
def sp122:Sp:=⟨S76,L76,fun g=>bkP g/\EncodeOk,sp76.res,fun _=>none⟩
theorem sp122_ok:sp122.Ok Tryz.prog 122 true:=
 ⟨fun g K X hp h=>hp.2.calls g K X hp.1 h,fun _ _ _=>rfl,fun _=>rfl,fun _ _=>⟨rfl,rfl⟩⟩
end Go.Proofs.YtbglndogddddoaaGreatDoor
namespace Go.Proofs.YtbglndogddddoaaGreatDoor
open Go.RowKit
attribute [local irreducible] qW qb
end Go.Proofs.YtbglndogddddoaaGreatDoor
namespace Go.Proofs.YtbglndogddddoaaGreatDoor
open Go.RowKit
theorem en_ok {x:Sx} (h:JT x=0):wB x=(yo x,0):=by unfold wB;rw [if_pos h]
theorem en_no {x:Sx} (h:JT x≠0):wB x=(⟨#[]⟩,JT x):=by unfold wB;rw [if_neg h]
theorem rdT_ok {s:ByteArray} {x:Sx} {k:Nat} {r:List UInt8} (h:Qr 12 0 (bl s)= .ok (x,k,r)):J7 s=(x,(s.size:Int) - (r.length:Int),0):=by unfold J7;rw [h]
theorem rdT_enc {x:Sx} (h:JT x=0) (r:ByteArray):J7 (yo x++r)=(x,((yo x).size:Int),0):=by
 rw [rdT_ok (s:=yo x++r) (by rw [JF,encB_bl];exact read_enc h (bl r)),size_app,xW]
 simp only [Prod.mk.injEq,true_and,and_true];omega
theorem dcT_enc {x:Sx} (h:JT x=0):jH (yo x)=(x,0):=by
 have:=rdT_enc h ⟨#[]⟩
 have e:yo x++(⟨#[]⟩:ByteArray)=yo x:=by apply WA;rw [JF];exact List.append_nil _
 rw [e] at this
 unfold jH
 rw [this,if_pos rfl,if_pos rfl]
end Go.Proofs.YtbglndogddddoaaGreatDoor
namespace Go.Proofs.YtbglndogddddoaaGreatDoor
open Go.RowKit
end Go.Proofs.YtbglndogddddoaaGreatDoor
namespace Go.Proofs.YtbglndogddddoaaGreatDoor
open Go.RowKit
end Go.Proofs.YtbglndogddddoaaGreatDoor
namespace Go.Proofs.YtbglndogddddoaaGreatDoor
open Go.RowKit Go.Shelf
def Zp:Go.Shelf.Ren:=⟨fun | 240=>229 | 276=>237 | n=>n,fun | 70=>187 | 72=>189 | 37=>69 | 164=>244 | n=>n,fun n=>n⟩
theorem laysCopy:Go.Proofs.Lays.n240 Tryz.prog Zp:={
 mixed:=by kernel_rfl
 f240:=Tryz.func229.trans (congrArg some (by kernel_rfl))
 f276:=Tryz.func237.trans (congrArg some (by kernel_rfl))
 t0:=Tryz.underlying0
 a0:=Tryz.isAgg0
 z0:=Tryz.sizeOf0
 v0:=Tryz.zeroValue0
 t4:=Tryz.underlying4
 a4:=Tryz.isAgg4
 z4:=Tryz.sizeOf4
 v4:=Tryz.zeroValue4
 t9:=Tryz.underlying9
 a9:=Tryz.isAgg9
 z9:=Tryz.sizeOf9
 v9:=Tryz.zeroValue9
 t20:=Tryz.underlying20
 a20:=Tryz.isAgg20
 z20:=Tryz.sizeOf20
 v20:=Tryz.zeroValue20
 t70:=Tryz.underlying187
 a70:=Tryz.isAgg187
 z70:=Tryz.sizeOf187
 v70:=Tryz.zeroValue187
 t72:=Tryz.underlying189
 a72:=Tryz.isAgg189
 z72:=Tryz.sizeOf189
 v72:=Tryz.zeroValue189
 t164:=Tryz.underlying244
 a164:=Tryz.isAgg244
 z164:=Tryz.sizeOf244
 v164:=Tryz.zeroValue244}
theorem copyX:Builder.X72 Tryz.prog Zp:={sizeBuilder:=by kernel_rfl,liesBuilder:=by kernel_rfl}
abbrev bdrO:List ObSh:=[.cells [.pt 0 0, .oa .u8 1], .arr .u8]
def yT:Raw:=⟨[.pt 0 0],bdrO,[.sl .u8],0,fun g K _=>K (.tu []) [some (.cells [.pt 0 0, .oa .u8 1 0]),some (.arr 0 .u8 g.1)]⟩
theorem rw229_ok:yT.Ok Tryz.prog 229:=by
 rintro ⟨bs,⟨⟩⟩ K X h g w hg
 have h:K (.tu []) [some (.cells [.pt 0 0, .oa .u8 1 0]),some (.arr 0 .u8 bs)]:=h
 have hg:Good g [some (.cells [.pt 0 0, .oa .u8 1 0]),some (.arr 0 .u8 bs)] w:=hg
 refine yL.of (by kernel_rfl) fun args hr=> ?_
 obtain ⟨x,rfl,hx⟩:=WJ hr
 obtain ⟨oi,o1,_,o3⟩:=hg.obj 0 _ rfl
 have o1:g.ob 0 0=some oi:=o1
 have hx:R g (.pt 0 0) x:=hx
 cases hx with
 | pt _ _ oi' h1=>
  rw [o1] at h1
  simp only [Option.some.injEq] at h1
  subst h1
  rcases o3 with o3 | ⟨_,blk,E,fr,p1,_,p3,_⟩
  . cases o3.1
  have p1:w.heap[oi.b]? =some (.cells blk E fr):=p1
  obtain ⟨y,y1,_,y3⟩:=p3.at_ 0 _ rfl
  have hy:y= .pointer (some ⟨oi.b,0,none⟩):=by
   cases y3 with
   | pt _ _ oi' h1=>
    rw [o1] at h1
    simp only [Option.some.injEq] at h1
    subst h1
    rfl
  refine (Any.Builder_copyCheck_used laysCopy copyX oi.b w (by rw [<- hy];simp [World.cell?,p1,y1])).mono ?_
  rintro e w' ⟨rfl,rfl⟩
  exact ⟨g,_,hg,Step.refl,_,h, .tu [] #[] rfl (by simp)⟩
end Go.Proofs.YtbglndogddddoaaGreatDoor
namespace Go.Proofs.YtbglndogddddoaaGreatDoor
open Go.RowKit
attribute [local irreducible] qW qb
def H210:List (Nat×Hint):=[]
def J210:List (Nat×Hint):=[]
abbrev S210:List Sh:=[.pt 0 0, .leaf]
abbrev qqk:List Lf:=[.str, .sl .u8]
abbrev O210:List ObSh:=[.cells [.pt 0 0, .oa .u8 1], .arr .u8]
def F210 (g:prodL qqk) (K:Kn):Prop:=
 qP (g.2.1.length+(zV g.1).length) 1 (
 K (.tu [.int .i64 (g.1.size:Int), .cst .nilIface]) [some (.cells [.pt 0 0, .oa .u8 1 0]),some (.arr 0 .u8 (g.2.1++(zV g.1)))])
theorem F210_eq (g:prodL qqk) (K X:Kn):F210 g K=qW D (qJ [(229,yT)] []) (qv [(229,yT)]) H210 J210 19 [.tmp 4, .tmp 5] (qq Tryz.f210) (argsT S210 qqk g) (qZ S210 O210 qqk g) (settleD (qZ S210 O210 qqk g).length 0 K) X 0:=by kernel_rfl
theorem F210_ok (g:prodL qqk) (K X:Kn) (h:F210 g K):FCalls Tryz.prog 210 (argsT S210 qqk g) (qZ S210 O210 qqk g) K X 0:=
 FCalls.settleD (qz (Γ:=qJ [(229,yT)] []) (mu:=qv [(229,yT)]) (H:=H210) (J:=J210) qh (qV (rs:=[(229,yT)]) (l:=[]) (by intro p hp;simp only [List.mem_cons,List.not_mem_nil,or_false] at hp;subst hp;exact rw229_ok) (fun p hp=>by cases hp)) qj rfl Tryz.func210 (c:=qq Tryz.f210) rfl Tryz.ntmps210 (rs:=[.tmp 4, .tmp 5]) Tryz.results210 (by unfold qk;rw [Tryz.func210];kernel_rfl) (Nat.le_of_ble_eq_true (by kernel_rfl)) (X:=X) (c0:=0) (Eq.mp (F210_eq g K X) h))
def kv:Raw:=⟨S210,O210,qqk,0,fun g K _=>F210 g K⟩
theorem rw210_ok:kv.Ok Tryz.prog 210:=fun g K X h=>F210_ok g K X h
def H211:List (Nat×Hint):=[]
def J211:List (Nat×Hint):=[]
abbrev S211:List Sh:=[.pt 0 0, .leaf]
abbrev L211:List Lf:=[.int .u8, .sl .u8]
abbrev O211:List ObSh:=[.cells [.pt 0 0, .oa .u8 1], .arr .u8]
def F211 (g:prodL L211) (K:Kn):Prop:=
 qP (g.2.1.length+[g.1].length) 1 (
 K (.cst .nilIface) [some (.cells [.pt 0 0, .oa .u8 1 0]),some (.arr 0 .u8 (g.2.1++[g.1]))])
theorem F211_eq (g:prodL L211) (K X:Kn):F211 g K=qW D (qJ [(229,yT)] []) (qv [(229,yT)]) H211 J211 17 [.tmp 4] (qq Tryz.f211) (argsT S211 L211 g) (qZ S211 O211 L211 g) (settleD (qZ S211 O211 L211 g).length 0 K) X 0:=by kernel_rfl
theorem F211_ok (g:prodL L211) (K X:Kn) (h:F211 g K):FCalls Tryz.prog 211 (argsT S211 L211 g) (qZ S211 O211 L211 g) K X 0:=
 FCalls.settleD (qz (Γ:=qJ [(229,yT)] []) (mu:=qv [(229,yT)]) (H:=H211) (J:=J211) qh (qV (rs:=[(229,yT)]) (l:=[]) (by intro p hp;simp only [List.mem_cons,List.not_mem_nil,or_false] at hp;subst hp;exact rw229_ok) (fun p hp=>by cases hp)) qj rfl Tryz.func211 (c:=qq Tryz.f211) rfl Tryz.ntmps211 (rs:=[.tmp 4]) Tryz.results211 (by unfold qk;rw [Tryz.func211];kernel_rfl) (Nat.le_of_ble_eq_true (by kernel_rfl)) (X:=X) (c0:=0) (Eq.mp (F211_eq g K X) h))
def kg:Raw:=⟨S211,O211,L211,0,fun g K _=>F211 g K⟩
theorem rw211_ok:kg.Ok Tryz.prog 211:=fun g K X h=>F211_ok g K X h
end Go.Proofs.YtbglndogddddoaaGreatDoor
namespace Go.Proofs.YtbglndogddddoaaGreatDoor
open Go.RowKit
def xK (x:Sx):List Int:=(Qe x).map fun b=>(b.toNat:Int)
def encP (x:Sx) (bs:List Int):Prop:=xx x<=j6/\bs.length+22*xx x<=70368744177664
def encPre (g:prodL [.bool, .str, .sl .sexp, .sl .u8]):Prop:=encP ⟨g.1,g.2.1,g.2.2.1⟩ g.2.2.2.1
def encF (g:prodL [.bool, .str, .sl .sexp, .sl .u8]) (K _:Kn):Prop:=
 K (.tu []) [some (.cells [.pt 0 0, .oa .u8 1 0]),some (.arr 0 .u8 (g.2.2.2.1++xK ⟨g.1,g.2.1,g.2.2.1⟩))]
end Go.Proofs.YtbglndogddddoaaGreatDoor
namespace Go.Proofs.YtbglndogddddoaaGreatDoor
open Go.RowKit
attribute [local irreducible] qW qb
def H171:List (Nat×Hint):=[(7,⟨[],[(0, .pt 0 0),(24, .leaf),(25, .leaf),(26, .leaf)],[.cells [.pt 0 0, .oa .u8 1], .arr .u8],[.sl .sexp, .int .i64, .int .i64, .sl .u8]⟩)]
def J171:List (Nat×Hint):=[]
abbrev S171:List Sh:=[.pt 0 0, .ag [.leaf, .leaf, .leaf]]
abbrev QZ:List Lf:=[.bool, .str, .sl .sexp, .sl .u8]
abbrev O171:List ObSh:=[.cells [.pt 0 0, .oa .u8 1], .arr .u8]
def kp (Z:prodL QZ->Prop):Raw:=⟨S171,O171,QZ,0,fun g K X=>Z g/\encF g K X⟩
def F171_B6 (K:Kn) (Z:prodL QZ->Prop) (W6:prodL [.sl .sexp, .int .i64, .int .i64, .sl .u8]->Prop) (t_5:List Sx) (t2_5 t3_5:Int) (o1_5:List Int):Prop:=
 bif decide (t3_5<t2_5)then (
  At t_5 t3_5 fun u7=>
 Z (u7.isList,u7.atom,u7.list,o1_5,())/\
 W6 (t_5,t2_5,IntKind.i64.wrap (t3_5+1),(o1_5++xK ⟨u7.isList,u7.atom,u7.list⟩),()))
 else (
  let g8:prodL [.int .u8, .sl .u8]:=(41,o1_5,());
 qP (g8.2.1.length+[g8.1].length) 1 (
 K (.tu []) [some (.cells [.pt 0 0, .oa .u8 1 0]),some (.arr 0 .u8 (g8.2.1++[g8.1]))]))
def F171_L6 (K:Kn) (Z:prodL QZ->Prop) (g:prodL [.sl .sexp, .int .i64, .int .i64, .sl .u8]):Prop:=
 qX (γ:=prodL [.sl .sexp, .int .i64, .int .i64, .sl .u8]) (fun V y=>F171_B6 K Z V y.1 y.2.1 y.2.2.1 y.2.2.2.1) g
def F171 (Z:prodL QZ->Prop) (g:prodL QZ) (K:Kn):Prop:=
 bif !g.1 then (
  wS.pre ((g.2.1.size:Int),())/\
  let g1:prodL [.str, .sl .u8]:=((wg (g.2.1.size:Int)),g.2.2.2.1,());
  qP (g1.2.1.length+(zV g1.1).length) 1 (
  let g2:prodL [.int .u8, .sl .u8]:=(58,g1.2.1++(zV g1.1),());
  qP (g2.2.1.length+[g2.1].length) 1 (
  let g3:prodL [.str, .sl .u8]:=(g.2.1,g2.2.1++[g2.1],());
  qP (g3.2.1.length+(zV g3.1).length) 1 (
  K (.tu []) [some (.cells [.pt 0 0, .oa .u8 1 0]),some (.arr 0 .u8 (g3.2.1++(zV g3.1)))]))))
 else (
  let g4:prodL [.int .u8, .sl .u8]:=(40,g.2.2.2.1,());
 qP (g4.2.1.length+[g4.1].length) 1 (
 F171_L6 K Z (g.2.2.1,(g.2.2.1.length:Int),0,g4.2.1++[g4.1],())))
theorem F171_eq (Z:prodL QZ->Prop) (g:prodL QZ) (K X:Kn):F171 Z g K=qW D (qJ [(171,kp Z),(210,kv),(211,kg)] [(209,true,wS)]) (qv [(171,kp Z),(210,kv),(211,kg)]) H171 J171 36 [] (qq Tryz.f171) (argsT S171 QZ g) (qZ S171 O171 QZ g) (settleD (qZ S171 O171 QZ g).length 0 K) X 0:=by kernel_rfl
theorem F171_ok (Z:prodL QZ->Prop) (hZ:(kp Z).Ok Tryz.prog 171) (g:prodL QZ) (K X:Kn) (h:F171 Z g K):FCalls Tryz.prog 171 (argsT S171 QZ g) (qZ S171 O171 QZ g) K X 0:=
 FCalls.settleD (qz (Γ:=qJ [(171,kp Z),(210,kv),(211,kg)] [(209,true,wS)]) (mu:=qv [(171,kp Z),(210,kv),(211,kg)]) (H:=H171) (J:=J171) qh (qV (rs:=[(171,kp Z),(210,kv),(211,kg)]) (l:=[(209,true,wS)]) (by intro p hp;simp only [List.mem_cons,List.not_mem_nil,or_false] at hp;rcases hp with rfl | rfl | rfl<;>first | exact hZ | exact rw210_ok | exact rw211_ok) (by intro p hp;simp only [List.mem_cons,List.not_mem_nil,or_false] at hp;subst hp;exact V4)) qj rfl Tryz.func171 (c:=qq Tryz.f171) rfl Tryz.ntmps171 (rs:=[]) Tryz.results171 (by unfold qk;rw [Tryz.func171];kernel_rfl) (Nat.le_of_ble_eq_true (by kernel_rfl)) (X:=X) (c0:=0) (Eq.mp (F171_eq Z g K X) h))
end Go.Proofs.YtbglndogddddoaaGreatDoor
namespace Go.Proofs.YtbglndogddddoaaGreatDoor
open Go.RowKit
def Qb (l:List Sx):List Int:=(xJ l).map fun b=>(b.toNat:Int)
theorem strB_bl (s:ByteArray):zV s=(bl s).map fun b=>(b.toNat:Int):=rfl
theorem encI_len {x:Sx} (h:xx x<=j6):(xK x).length<=22*xx x:=by unfold xK;rw [List.length_map];exact encL_len x h
theorem Jr (a:ByteArray) (l:List Sx):xK ⟨false,a,l⟩=zV (wg (a.size:Int))++(58::zV a):=by
 unfold xK
 simp only [Qe,if_true,strB_bl,Vf,List.map_append,List.map_cons]
 rw [Lib.itoa,if_neg (by omega),Int.toNat_natCast]
 rfl
theorem JY (a:ByteArray) (l:List Sx):xK ⟨true,a,l⟩=40::(Qb l++[41]):=by
 unfold xK Qb
 simp [Qe]
theorem F171_is {Z:prodL QZ->Prop} {b:Bool} {a:ByteArray} {l:List Sx} {bs:List Int} {K X:Kn} (hp:encP ⟨b,a,l⟩ bs) (hZ: ∀x∈l, ∀cs,encP x cs->Z (x.isList,x.atom,x.list,cs,())) (h:encF (b,a,l,bs,()) K X):F171 Z (b,a,l,bs,()) K:=by
 obtain ⟨hk,hz⟩:=hp
 obtain ⟨hs,hsz,hbl,_⟩:=Xy hk
 have hl:=vq
 unfold encF at h
 unfold F171
 simp only [xx] at hz
 dsimp only [Lf.ty,prodL] at h ⊢
 cases b
 . rw [Jr] at h
   have hn:xB (a.size:Int):=(⟨by omega,by omega⟩: -9223372036854775808<=(a.size:Int)/\(a.size:Int)<=9223372036854775807)
   have hd:=YT hn
   simp only [Bool.not_false,cond_true]
   refine ⟨hn, ?_, ?_, ?_, ?_⟩
   . rw [xk];omega
   . simp only [List.length_append,xk,List.length_cons,List.length_nil];omega
   . simp only [List.length_append,xk,List.length_cons,List.length_nil];omega
   . rw [show ((bs++zV (wg (a.size:Int)))++[58])++zV a=bs++(zV (wg (a.size:Int))++(58::zV a))by simp]
     exact h
 . rw [JY] at h
   simp only [Bool.not_true,cond_false]
   refine ⟨by simp only [List.length_cons,List.length_nil];omega, ?_⟩
   unfold F171_L6
   refine qX.fold l (fun n (cs:List Int)=>(l,(l.length:Int),(n:Int),cs,())) (fun r _ cs=>K (.tu []) [some (.cells [.pt 0 0, .oa .u8 1 0]),some (.arr 0 .u8 (cs++(Qb r++[41])))]/\cs.length+22*qu r<=70368744177664) (a0:=bs++[40]) rfl ⟨?_,by simp only [List.length_append,List.length_cons,List.length_nil];omega⟩ (fun cs hp W=> ?_) (fun n hn r cs hr hp W hW=> ?_)
   . rw [List.append_assoc];exact h
   . obtain ⟨p1,p2⟩:=hp
     unfold F171_B6
     rw [qr,if_neg (by dsimp only;omega)]
     simp only [qu] at p2
     exact ⟨by simp only [List.length_cons,List.length_nil];omega,p1⟩
   . obtain ⟨p1,p2⟩:=hp
     unfold F171_B6
     rw [qr,if_pos (by dsimp only;omega)]
     have hx:xx l[n]<=qu l:=mem_bk (List.getElem_mem hn)
     have he:=encI_len (x:=l[n]) (by omega)
     simp only [qu] at p2
     refine zX hn ⟨hZ _ (List.getElem_mem hn) cs ⟨by omega,by omega⟩, ?_⟩
     rw [Sx.eta,jw hn hs]
     refine hW (cs++xK l[n]) ⟨?_, ?_⟩
     . have e:Qb (l[n]::r)=xK l[n]++Qb r:=by unfold Qb xK;simp [xJ]
       rw [e] at p1
       rw [List.append_assoc, <- List.append_assoc (xK l[n])]
       exact p1
     . rw [List.length_append];omega
def Ke:Raw:=kp encPre
theorem Kh: ∀n:Nat,(kp fun g=>encPre g/\zn ⟨g.1,g.2.1,g.2.2.1⟩ <n).Ok Tryz.prog 171
 | 0=>fun g K X h=>absurd h.1.2 (Nat.not_lt_zero _)
 | n+1=>fun g K X h=>F171_ok _ (Kh n) g K X (F171_is h.1.1 (fun x hx cs hc=>⟨(by show encP ⟨_,_,_⟩ _;rw [Sx.eta];exact hc),by
   have h1:=((Xy h.1.1.1).2.2.2 x hx).2
   have h2:=h.1.2
   dsimp only at *
   omega⟩) h.2)
theorem rw171_ok:Ke.Ok Tryz.prog 171:=fun g K X h=>Kh (zn ⟨g.1,g.2.1,g.2.2.1⟩+1) g K X ⟨⟨h.1,Nat.lt_succ_self _⟩,h.2⟩
end Go.Proofs.YtbglndogddddoaaGreatDoor
namespace Go.Proofs.YtbglndogddddoaaGreatDoor
open Go.RowKit Go.Shelf
theorem setCell_at {w:World} {b q:Nat} {blk:Array Value} {E:TypeId} {fr:Nat×Nat} (v:Value) (h:w.heap[b]? =some (.cells blk E fr)):(w.setCell ⟨b,q,none⟩ v).heap[b]? =some (.cells (blk.setIfInBounds q v) E fr):=by
 simp [World.setCell,Array.getElem?_modify,h]
theorem setCell_else {w:World} {b q b':Nat} (v:Value) (h:b'≠b):(w.setCell ⟨b,q,none⟩ v).heap[b']? =w.heap[b']? :=by
 simp [World.setCell,Array.getElem?_modify,Ne.symm h]
def vm:Raw:=⟨[.pt 0 0],[.cells [.fp, .nil]],[],0,fun _ K _=>K (.tu []) [some (.cells [.pt 0 0, .nil])]⟩
theorem Ku:vm.Ok Tryz.prog 229:=by
 rintro ⟨⟩ K X h g w hg
 have h:K (.tu []) [some (.cells [.pt 0 0, .nil])]:=h
 have hg:Good g [some (.cells [.fp, .nil])] w:=hg
 refine yL.of (by kernel_rfl) fun args hr=> ?_
 obtain ⟨x,rfl,hx⟩:=WJ hr
 obtain ⟨oi,o1,_,o3⟩:=hg.obj 0 _ rfl
 have o1:g.ob 0 0=some oi:=o1
 have hx:R g (.pt 0 0) x:=hx
 cases hx with
 | pt _ _ oi' h1=>
  rw [o1] at h1
  simp only [Option.some.injEq] at h1
  subst h1
  rcases o3 with o3 | ⟨_,blk,E,fr,p1,p2,p3,p4⟩
  . cases o3.1
  have p1:w.heap[oi.b]? =some (.cells blk E fr):=p1
  obtain ⟨y,y1,_,y3⟩:=p3.at_ 0 _ rfl
  obtain ⟨z,z1,z2,z3⟩:=p3.at_ 1 _ rfl
  have hy:y= .pointer none:=by cases y3;rfl
  subst hy
  have p4:(E==189&&blk.size==2)=true:=p4
  simp only [Bool.and_eq_true,beq_iff_eq] at p4
  obtain ⟨rfl,hs⟩:=p4
  refine (Any.Builder_copyCheck_fresh laysCopy copyX oi.b w (by simp [World.cell?,p1,y1]) (by simp [World.shape?,p1,hs];rfl) (by
   have:=p2 0 (by omega)
   simp only [World.frozen?,p1]
   simpa using this)).mono ?_
  rintro e w' ⟨rfl,rfl⟩
  obtain ⟨k1,k2,k3⟩:=qN (st':=[some (.cells [.pt 0 0, .nil])]) (k:=0) (v:=0) (o':= .cells [.pt 0 0, .nil]) (oi:=oi) (w':=w.setCell ⟨oi.b,0,none⟩ (.pointer (some ⟨oi.b,0,none⟩))) hg (fun i=>by cases i<;>simp) (by decide) (by decide) rfl (.inr o1) (fun u oi' hu=>jN (o':= .cells [.fp, .nil]) hg rfl hu) trivial
   (fun _=> .inr ⟨_,rfl,ze o1 (by simp [qm])⟩) rfl rfl rfl (by simp [World.setCell]) (fun b _ hb=>setCell_else _ fun e=>hb _ rfl (by rw [ze o1 (by simp [qm]),e]))
   (fun _=>⟨_,189,fr,setCell_at _ p1,fun q hq=>p2 q (by simpa using hq),⟨by simp [qQ,hs],fun j u hj=>by
    match j,hj with
    | 0,hj=>simp [qQ] at hj;subst hj;exact ⟨_,by simp [hs],rfl, .pt 0 0 oi o1⟩
    | 1,hj=>simp [qQ] at hj;subst hj;exact ⟨z,by simpa using z1,z2,z3⟩
    | j+2,hj=>simp [qQ] at hj⟩,rfl⟩) (fun o ho=>by
    simp only [List.getElem?_cons_zero,Option.some.injEq] at ho;subst ho;exact ⟨_,rfl,rfl,o1⟩)
  exact ⟨_,_,k1,k2 _,_,h, .tu [] #[] rfl (by simp)⟩
end Go.Proofs.YtbglndogddddoaaGreatDoor
namespace Go.Proofs.YtbglndogddddoaaGreatDoor
open Go.RowKit
attribute [local irreducible] qW qb
def H210f:List (Nat×Hint):=[]
def J210f:List (Nat×Hint):=[]
abbrev Kv:List Sh:=[.pt 0 0, .leaf]
abbrev ZX:List Lf:=[.str]
abbrev O210f:List ObSh:=[.cells [.fp, .nil]]
def F210f (g:prodL ZX) (K:Kn):Prop:=
 qP ((zV g.1).length) 1 (
 K (.tu [.int .i64 (g.1.size:Int), .cst .nilIface]) [some (.cells [.pt 0 0, .oa .u8 1 0]),some (.arr 0 .u8 (zV g.1))])
theorem F210f_eq (g:prodL ZX) (K X:Kn):F210f g K=qW D (qJ [(229,vm)] []) (qv [(229,vm)]) H210f J210f 19 [.tmp 4, .tmp 5] (qq Tryz.f210) (argsT Kv ZX g) (qZ Kv O210f ZX g) (settleD (qZ Kv O210f ZX g).length 0 K) X 0:=by kernel_rfl
theorem F210f_ok (g:prodL ZX) (K X:Kn) (h:F210f g K):FCalls Tryz.prog 210 (argsT Kv ZX g) (qZ Kv O210f ZX g) K X 0:=
 FCalls.settleD (qz (Γ:=qJ [(229,vm)] []) (mu:=qv [(229,vm)]) (H:=H210f) (J:=J210f) qh (qV (rs:=[(229,vm)]) (l:=[]) (by intro p hp;simp only [List.mem_cons,List.not_mem_nil,or_false] at hp;subst hp;exact Ku) (fun p hp=>by cases hp)) qj rfl Tryz.func210 (c:=qq Tryz.f210) rfl Tryz.ntmps210 (rs:=[.tmp 4, .tmp 5]) Tryz.results210 (by unfold qk;rw [Tryz.func210];kernel_rfl) (Nat.le_of_ble_eq_true (by kernel_rfl)) (X:=X) (c0:=0) (Eq.mp (F210f_eq g K X) h))
def Jc:Raw:=⟨Kv,O210f,ZX,0,fun g K _=>F210f g K⟩
theorem rw210f_ok:Jc.Ok Tryz.prog 210:=fun g K X h=>F210f_ok g K X h
def H211f:List (Nat×Hint):=[]
def J211f:List (Nat×Hint):=[]
abbrev KG:List Sh:=[.pt 0 0, .leaf]
abbrev ZZ:List Lf:=[.int .u8]
abbrev O211f:List ObSh:=[.cells [.fp, .nil]]
def F211f (g:prodL ZZ) (K:Kn):Prop:=
 qP ([g.1].length) 1 (
 K (.cst .nilIface) [some (.cells [.pt 0 0, .oa .u8 1 0]),some (.arr 0 .u8 [g.1])])
theorem F211f_eq (g:prodL ZZ) (K X:Kn):F211f g K=qW D (qJ [(229,vm)] []) (qv [(229,vm)]) H211f J211f 17 [.tmp 4] (qq Tryz.f211) (argsT KG ZZ g) (qZ KG O211f ZZ g) (settleD (qZ KG O211f ZZ g).length 0 K) X 0:=by kernel_rfl
theorem F211f_ok (g:prodL ZZ) (K X:Kn) (h:F211f g K):FCalls Tryz.prog 211 (argsT KG ZZ g) (qZ KG O211f ZZ g) K X 0:=
 FCalls.settleD (qz (Γ:=qJ [(229,vm)] []) (mu:=qv [(229,vm)]) (H:=H211f) (J:=J211f) qh (qV (rs:=[(229,vm)]) (l:=[]) (by intro p hp;simp only [List.mem_cons,List.not_mem_nil,or_false] at hp;subst hp;exact Ku) (fun p hp=>by cases hp)) qj rfl Tryz.func211 (c:=qq Tryz.f211) rfl Tryz.ntmps211 (rs:=[.tmp 4]) Tryz.results211 (by unfold qk;rw [Tryz.func211];kernel_rfl) (Nat.le_of_ble_eq_true (by kernel_rfl)) (X:=X) (c0:=0) (Eq.mp (F211f_eq g K X) h))
def Jm:Raw:=⟨KG,O211f,ZZ,0,fun g K _=>F211f g K⟩
theorem rw211f_ok:Jm.Ok Tryz.prog 211:=fun g K X h=>F211f_ok g K X h
end Go.Proofs.YtbglndogddddoaaGreatDoor
namespace Go.Proofs.YtbglndogddddoaaGreatDoor
open Go.RowKit
attribute [local irreducible] qW qb
def H171f:List (Nat×Hint):=[(7,⟨[((0,[1]),none)],[(0, .pt 0 0),(24, .leaf),(25, .leaf),(26, .leaf)],[.cells [.pt 0 0, .oa .u8 1], .arr .u8],[.sl .sexp, .int .i64, .int .i64, .sl .u8]⟩)]
def J171f:List (Nat×Hint):=[]
abbrev KK:List Sh:=[.pt 0 0, .ag [.leaf, .leaf, .leaf]]
abbrev Z0:List Lf:=[.bool, .str, .sl .sexp]
abbrev O171f:List ObSh:=[.cells [.fp, .nil]]
def V1 (K:Kn) (W6:prodL [.sl .sexp, .int .i64, .int .i64, .sl .u8]->Prop) (t_5:List Sx) (t2_5 t3_5:Int) (w_5:List Int):Prop:=
 bif decide (t3_5<t2_5)then (
  At t_5 t3_5 fun u7=>
 encPre (u7.isList,u7.atom,u7.list,w_5,())/\
 W6 (t_5,t2_5,IntKind.i64.wrap (t3_5+1),(w_5++xK ⟨u7.isList,u7.atom,u7.list⟩),()))
 else (
  let g8:prodL [.int .u8, .sl .u8]:=(41,w_5,());
 qP (g8.2.1.length+[g8.1].length) 1 (
 K (.tu []) [some (.cells [.pt 0 0, .oa .u8 1 0]),some (.arr 0 .u8 (g8.2.1++[g8.1]))]))
def F171f_L6 (K:Kn) (g:prodL [.sl .sexp, .int .i64, .int .i64, .sl .u8]):Prop:=
 qX (γ:=prodL [.sl .sexp, .int .i64, .int .i64, .sl .u8]) (fun V y=>V1 K V y.1 y.2.1 y.2.2.1 y.2.2.2.1) g
def F171f (g:prodL Z0) (K:Kn):Prop:=
 bif !g.1 then (
  wS.pre ((g.2.1.size:Int),())/\
  let g1:prodL [.str]:=((wg (g.2.1.size:Int)),());
  qP ((zV g1.1).length) 1 (
  let g2:prodL [.int .u8, .sl .u8]:=(58,zV g1.1,());
  qP (g2.2.1.length+[g2.1].length) 1 (
  let g3:prodL [.str, .sl .u8]:=(g.2.1,g2.2.1++[g2.1],());
  qP (g3.2.1.length+(zV g3.1).length) 1 (
  K (.tu []) [some (.cells [.pt 0 0, .oa .u8 1 0]),some (.arr 0 .u8 (g3.2.1++(zV g3.1)))]))))
 else (
  let g4:prodL [.int .u8]:=(40,());
 qP ([g4.1].length) 1 (
 F171f_L6 K (g.2.2.1,(g.2.2.1.length:Int),0,[g4.1],())))
theorem F171f_eq (g:prodL Z0) (K X:Kn):F171f g K=qW D (qJ [(171,Ke),(210,kv),(210,Jc),(211,kg),(211,Jm)] [(209,true,wS)]) (qv [(171,Ke),(210,kv),(210,Jc),(211,kg),(211,Jm)]) H171f J171f 36 [] (qq Tryz.f171) (argsT KK Z0 g) (qZ KK O171f Z0 g) (settleD (qZ KK O171f Z0 g).length 0 K) X 0:=by kernel_rfl
theorem F171f_ok (g:prodL Z0) (K X:Kn) (h:F171f g K):FCalls Tryz.prog 171 (argsT KK Z0 g) (qZ KK O171f Z0 g) K X 0:=
 FCalls.settleD (qz (Γ:=qJ [(171,Ke),(210,kv),(210,Jc),(211,kg),(211,Jm)] [(209,true,wS)]) (mu:=qv [(171,Ke),(210,kv),(210,Jc),(211,kg),(211,Jm)]) (H:=H171f) (J:=J171f) qh (qV (rs:=[(171,Ke),(210,kv),(210,Jc),(211,kg),(211,Jm)]) (l:=[(209,true,wS)]) (by intro p hp;simp only [List.mem_cons,List.not_mem_nil,or_false] at hp;rcases hp with rfl | rfl | rfl | rfl | rfl<;>first | exact rw171_ok | exact rw210_ok | exact rw210f_ok | exact rw211_ok | exact rw211f_ok) (by intro p hp;simp only [List.mem_cons,List.not_mem_nil,or_false] at hp;subst hp;exact V4)) qj rfl Tryz.func171 (c:=qq Tryz.f171) rfl Tryz.ntmps171 (rs:=[]) Tryz.results171 (by unfold qk;rw [Tryz.func171];kernel_rfl) (Nat.le_of_ble_eq_true (by kernel_rfl)) (X:=X) (c0:=0) (Eq.mp (F171f_eq g K X) h))
end Go.Proofs.YtbglndogddddoaaGreatDoor
namespace Go.Proofs.YtbglndogddddoaaGreatDoor
open Go.RowKit
def encPf (g:prodL [.bool, .str, .sl .sexp]):Prop:=encP ⟨g.1,g.2.1,g.2.2.1⟩ []
theorem F171f_is {b:Bool} {a:ByteArray} {l:List Sx} {K:Kn} (hp:encP ⟨b,a,l⟩ []) (h:K (.tu []) [some (.cells [.pt 0 0, .oa .u8 1 0]),some (.arr 0 .u8 (xK ⟨b,a,l⟩))]):F171f (b,a,l,()) K:=by
 obtain ⟨hk,hz⟩:=hp
 obtain ⟨hs,hsz,hbl,_⟩:=Xy hk
 have hl:=vq
 unfold F171f
 simp only [xx,List.length_nil] at hz
 dsimp only [Lf.ty,prodL] at h ⊢
 cases b
 . rw [Jr] at h
   have hn:xB (a.size:Int):=(⟨by omega,by omega⟩: -9223372036854775808<=(a.size:Int)/\(a.size:Int)<=9223372036854775807)
   have hd:=YT hn
   simp only [Bool.not_false,cond_true]
   refine ⟨hn, ?_, ?_, ?_, ?_⟩
   . rw [xk];omega
   . simp only [xk,List.length_cons,List.length_nil];omega
   . simp only [List.length_append,xk,List.length_cons,List.length_nil];omega
   . rw [show ((zV (wg (a.size:Int)))++[58])++zV a=(zV (wg (a.size:Int))++(58::zV a))by simp]
     exact h
 . rw [JY] at h
   simp only [Bool.not_true,cond_false]
   refine ⟨by simp only [List.length_cons,List.length_nil];omega, ?_⟩
   unfold F171f_L6
   refine qX.fold l (fun n (cs:List Int)=>(l,(l.length:Int),(n:Int),cs,())) (fun r _ cs=>K (.tu []) [some (.cells [.pt 0 0, .oa .u8 1 0]),some (.arr 0 .u8 (cs++(Qb r++[41])))]/\cs.length+22*qu r<=70368744177664) (a0:=[40]) rfl ⟨?_,by simp only [List.length_cons,List.length_nil];omega⟩ (fun cs hp W=> ?_) (fun n hn r cs hr hp W hW=> ?_)
   . exact h
   . obtain ⟨p1,p2⟩:=hp
     unfold V1
     rw [qr,if_neg (by dsimp only;omega)]
     simp only [qu] at p2
     exact ⟨by simp only [List.length_cons,List.length_nil];omega,p1⟩
   . obtain ⟨p1,p2⟩:=hp
     unfold V1
     rw [qr,if_pos (by dsimp only;omega)]
     have hx:xx l[n]<=qu l:=mem_bk (List.getElem_mem hn)
     have he:=encI_len (x:=l[n]) (by omega)
     simp only [qu] at p2
     refine zX hn ⟨(by show encP ⟨l[n].isList,l[n].atom,l[n].list⟩ cs;rw [Sx.eta];exact ⟨by omega,by omega⟩), ?_⟩
     rw [Sx.eta,jw hn hs]
     refine hW (cs++xK l[n]) ⟨?_, ?_⟩
     . have e:Qb (l[n]::r)=xK l[n]++Qb r:=by unfold Qb xK;simp [xJ]
       rw [e] at p1
       rw [List.append_assoc, <- List.append_assoc (xK l[n])]
       exact p1
     . rw [List.length_append];omega
def Jd:Raw:=⟨KK,O171f,Z0,0,fun g K _=>encPf g/\K (.tu []) [some (.cells [.pt 0 0, .oa .u8 1 0]),some (.arr 0 .u8 (xK ⟨g.1,g.2.1,g.2.2.1⟩))]⟩
theorem rw171f_ok:Jd.Ok Tryz.prog 171:=fun g K X h=>F171f_ok g K X (F171f_is h.1 h.2)
end Go.Proofs.YtbglndogddddoaaGreatDoor
namespace Go.Proofs.YtbglndogddddoaaGreatDoor
open Go.RowKit
set_option maxHeartbeats 1000000 in
set_option maxRecDepth 100000 in
theorem string39 (b g cap:Nat) (cur:Array Value) (fr:Nat×Nat) (l:List UInt8) (w:World) (c0:w.cell? ⟨b,1,none⟩=some (.slice (some ⟨g,0,none⟩) l.length cap)) (hg:w.heap[g]? =some (.cells cur 5 fr)) (hl0:l.length≠0) (hnc:l.length<=cap) (hcm:cap<=maxLen) (hcs:cap<=cur.size)
  (hat: ∀(j:Nat) (x:UInt8),l[j]? =some x->cur[j]? =some (Value.int .u8 x.toNat)):
  Calls Tryz.prog 172 #[.pointer (some ⟨b,0,none⟩)] w fun e w'=>e= .returned (.string ⟨l.toArray⟩)/\w'=w.drew.freeze ⟨g,0,none⟩ l.length:=by
 have c1:w.drew.cell? ⟨b,1,none⟩=some (.slice (some ⟨g,0,none⟩) l.length cap):=c0
 have hg':w.drew.heap[g]? =some (.cells cur 5 fr):=hg
 have hSD:(Builtin.unsafeSliceData_ #[69] 222 #[.slice (some ⟨g,0,none⟩) l.length cap]).run Tryz.prog w.drew= .ok (.pointer (some ⟨g,0,none⟩)) w.drew:=
  Lib.run_unsafeSliceData_row _ _ _ _ _ _ (by omega)
 have hUS:(Builtin.unsafeString_ #[222,3] 9 #[.pointer (some ⟨g,0,none⟩), .int .i64 l.length]).run Tryz.prog w.drew= .ok (.string ⟨l.toArray⟩) (w.drew.freeze ⟨g,0,none⟩ l.length):=by
  refine Lib.run_unsafeString_row w.drew 222 3 9 5 Tryz.underlying222 (by kernel_rfl) g cur.size (by simp [World.shape?,hg']) l (fun e=>hl0 (by rw [e];rfl)) (by omega) (by unfold maxLen at hcm;omega) ?_
  intro j x hx
  have:=hat j x hx
  unfold Addr.add
  by_cases hj:j=0
  . subst hj;simp [World.cell?,hg',this]
  . simp [hj,World.cell?,hg',this]
 go_enter Tryz.func172,Tryz.ntmps172
 go_wp2
 go_region
 all_goals (go_wp2;go_ret;exact ⟨rfl,rfl⟩)
end Go.Proofs.YtbglndogddddoaaGreatDoor
namespace Go.Proofs.YtbglndogddddoaaGreatDoor
open Go.RowKit
theorem freeze_else {w:World} {a:Addr} {n b:Nat} (h:b≠a.block):(w.freeze a n).heap[b]? =w.heap[b]? :=by
 unfold World.freeze
 split
 . rfl
 . simp [Array.getElem?_modify,Ne.symm h]
theorem freeze_size {w:World} {a:Addr} {n:Nat}:(w.freeze a n).heap.size=w.heap.size:=by
 unfold World.freeze
 split
 . rfl
 . simp
theorem freeze_os {w:World} {a:Addr} {n:Nat}:(w.freeze a n).os=w.os:=by
 unfold World.freeze;split<;>rfl
theorem freeze_tape {w:World} {a:Addr} {n:Nat}:(w.freeze a n).tape=w.tape:=by
 unfold World.freeze;split<;>rfl
theorem freeze_out {w:World} {a:Addr} {n:Nat}:(w.freeze a n).output=w.output:=by
 unfold World.freeze;split<;>rfl
theorem u8_back {n:Int} (h1:0<=n) (h2:n<256):n=((UInt8.ofNat n.toNat).toNat:Int):=by
 rw [UInt8.toNat_ofNat',Nat.mod_eq_of_lt (by omega)]
 omega
def strPre (g:prodL [.sl .u8]):Prop:=g.1≠[]/\ ∀n∈g.1,0<=n/\n<256
def YA:Raw:=⟨[.pt 0 0],bdrO,[.sl .u8],0,fun g K _=>strPre g/\K (.str (xf g.1)) [some (.cells [.pt 0 0, .oa .u8 1 0]),some (.arr 1 .u8 [])]⟩
theorem rw172_ok:YA.Ok Tryz.prog 172:=by
 rintro ⟨l,⟨⟩⟩ K X h g w hg
 obtain ⟨⟨hne,hb⟩,h⟩:=h
 have hne:l≠[]:=hne
 have hb: ∀n∈l,0<=n/\n<256:=hb
 have h:K (.str (xf l)) [some (.cells [.pt 0 0, .oa .u8 1 0]),some (.arr 1 .u8 [])]:=h
 have hg:Good g [some (.cells [.pt 0 0, .oa .u8 1 0]),some (.arr 0 .u8 l)] w:=hg
 refine yL.of (by kernel_rfl) fun args hr=> ?_
 obtain ⟨x,rfl,hx⟩:=WJ hr
 obtain ⟨oi,o1,_,o3⟩:=hg.obj 0 _ rfl
 obtain ⟨oa,a1,a2,a3,a4,a5⟩:=hg.arr (k:=1) (ver:=0) (e:= .u8) (l:=l) rfl
 have o1:g.ob 0 0=some oi:=o1
 have hx:R g (.pt 0 0) x:=hx
 have hl0:0<l.length:=List.length_pos_iff.2 hne
 obtain ⟨_,cur,E,fr,q1,q2,q3,q4,q5⟩:=a5 (by omega)
 have q5:(E==5)=true:=q5
 obtain rfl:E=5:=by simpa using q5
 cases hx with
 | pt _ _ oi' h1=>
  rw [o1] at h1
  simp only [Option.some.injEq] at h1
  subst h1
  rcases o3 with o3 | ⟨_,blk,E,fr',p1,_,p3,_⟩
  . cases o3.1
  have p1:w.heap[oi.b]? =some (.cells blk E fr'):=p1
  obtain ⟨z,z1,_,z3⟩:=p3.at_ 1 _ rfl
  have z3:R g (.oa .u8 1 0) z:=z3
  have hz:z= .slice (some ⟨oa.b,0,none⟩) l.length oa.cap:=by
   cases z3 with
   | oa _ _ _ oi'' A r1 r2 r3 r4=>
    rw [a1] at r1
    simp only [Option.some.injEq] at r1
    subst r1
    rw [r2 (by omega),a2]
  subst hz
  have hlen:(l.map fun n=>UInt8.ofNat n.toNat).length=l.length:=List.length_map ..
  refine (string39 oi.b oa.b oa.cap cur fr (l.map fun n=>UInt8.ofNat n.toNat) w (by rw [hlen];simp [World.cell?,p1,z1]) q1 (by rw [hlen];omega) (by rw [hlen];omega) a4 (by rw [show sz .u8=1 from rfl,Nat.mul_one] at q4;exact q4) (fun j x hx=> ?_)).mono ?_
  . simp only [List.getElem?_map,Option.map_eq_some_iff] at hx
    obtain ⟨n,hn,rfl⟩:=hx
    obtain ⟨y,y1,_,y3⟩:=q3.at_ j (.int .u8 n) (by
     have:=ja (e:= .u8) (j:=0) hn (by decide)
     simpa [sz,enc] using this)
    cases y3
    obtain ⟨b1,b2⟩:=hb n (List.mem_of_getElem? hn)
    rw [y1]
    exact congrArg (fun m=>some (Value.int .u8 m)) (u8_back b1 b2)
  . rintro e w' ⟨rfl,rfl⟩
    have hnew:g.ob 1 1=none:=by
     cases hh:g.ob 1 1 with
     | none=>rfl
     | some oi=>have:=jN (o':= .arr 0 .u8 l) hg rfl hh;simp [obVer] at this
    obtain ⟨k1,k2,k3⟩:=qN (st':=[some (.cells [.pt 0 0, .oa .u8 1 0]),some (.arr 1 .u8 [])]) (k:=1) (v:=1) (o':= .arr 1 .u8 []) (oi:=⟨0,0,0⟩) (w':=w.drew.freeze ⟨oa.b,0,none⟩ (l.map fun n=>UInt8.ofNat n.toNat).length) hg (fun i=>by rcases i with _ | _ | i<;>simp) (Nat.le_of_ble_eq_true rfl) (Nat.le_of_ble_eq_true rfl) rfl (.inl hnew)
     (fun u oi' hu=>by have:=jN (o':= .arr 0 .u8 l) hg rfl hu;simp [obVer] at this;omega) ⟨rfl,Nat.le_refl _,Nat.zero_le _⟩ (fun h=>absurd ⟨rfl,rfl⟩ h) freeze_os freeze_tape freeze_out (by rw [freeze_size];exact Nat.le_refl _)
     (fun b _ hb=>freeze_else fun e=>hb (.arr 0 .u8 l) rfl (by rw [ze a1 (by simp [qm];omega)];exact congrArg some e.symm)) (fun h=>absurd ⟨rfl,rfl⟩ h) (fun o ho=>by
      simp only [List.getElem?_cons_succ,List.getElem?_cons_zero,Option.some.injEq] at ho;subst ho;exact ⟨_,_,rfl⟩)
    exact ⟨_,_,k1,k2 _,_,h, .str _⟩
end Go.Proofs.YtbglndogddddoaaGreatDoor
namespace Go.Proofs.YtbglndogddddoaaGreatDoor
open Go.RowKit
attribute [local irreducible] qW qb
def H122:List (Nat×Hint):=[]
def J122:List (Nat×Hint):=[]
abbrev S122:List Sh:=[.ag [.leaf, .leaf, .leaf]]
abbrev L122:List Lf:=[.bool, .str, .sl .sexp]
def F122 (g:prodL L122) (K:Kn):Prop:=
 Zr.pre (g.1,g.2.1,g.2.2.1,())/\
 bif !decide (JT ⟨g.1,g.2.1,g.2.2.1⟩=0)then (
  K (.tu [.str (⟨#[]⟩:ByteArray), .int .i64 (JT ⟨g.1,g.2.1,g.2.2.1⟩)]) [])
 else (
  encPf (g.1,g.2.1,g.2.2.1,())/\
 strPre ((xK ⟨g.1,g.2.1,g.2.2.1⟩),())/\
 K (.tu [.str (xf (xK ⟨g.1,g.2.1,g.2.2.1⟩)), .int .i64 0]) [])
theorem F122_eq (g:prodL L122) (K X:Kn):F122 g K=qW D (qJ [(171,Jd),(172,YA)] [(151,true,Zr)]) (qv [(171,Jd),(172,YA)]) H122 J122 14 [.tmp 2, .tmp 3] (qq Tryz.f122) (argsT S122 L122 g) [] (settle0 K) X:=by kernel_rfl
theorem F122_ok (g:prodL L122) (K X:Kn) (h:F122 g K):FCalls Tryz.prog 122 (argsT S122 L122 g) [] K X:=
 FCalls.settle0 (qz (Γ:=qJ [(171,Jd),(172,YA)] [(151,true,Zr)]) (mu:=qv [(171,Jd),(172,YA)]) (H:=H122) (J:=J122) qh (qV (rs:=[(171,Jd),(172,YA)]) (l:=[(151,true,Zr)]) (by intro p hp;simp only [List.mem_cons,List.not_mem_nil,or_false] at hp;rcases hp with rfl | rfl<;>first | exact rw171f_ok | exact rw172_ok) (by intro p hp;simp only [List.mem_cons,List.not_mem_nil,or_false] at hp;subst hp;exact sp151_ok)) qj rfl Tryz.func122 (c:=qq Tryz.f122) rfl Tryz.ntmps122 Tryz.results122 (by unfold qk;rw [Tryz.func122];kernel_rfl) (Nat.le_of_ble_eq_true (by kernel_rfl)) (c0:=0) (Eq.mp (F122_eq g K X) h))
end Go.Proofs.YtbglndogddddoaaGreatDoor
namespace Go.Proofs.YtbglndogddddoaaGreatDoor
open Go.RowKit
theorem bStr_encI (x:Sx):xf (xK x)=yo x:=by
 have h:bl (xf (xK x))=bl (yo x):=by
  rw [encB_bl]
  unfold xf xK bl
  simp [Function.comp_def]
 exact ByteArray.ext (Array.toList_inj.1 h)
theorem encI_ne (x:Sx):xK x≠[]:=by
 obtain ⟨b,a,l⟩:=x
 cases b
 . rw [Jr];simp
 . rw [JY];simp
theorem encI_byte (x:Sx): ∀n∈xK x,0<=n/\n<256:=by
 intro n hn
 unfold xK at hn
 obtain ⟨b,_,rfl⟩:=List.mem_map.1 hn
 have:=b.toNat_lt
 omega
theorem encode_ok:EncodeOk:=
 ⟨by
  rintro ⟨b,a,l,⟨⟩⟩ K X q1 h
  have h:K (.tu [.str (wB ⟨b,a,l⟩).1, .int .i64 (wB ⟨b,a,l⟩).2]) []:=h
  have q1:xx ⟨b,a,l⟩<=j6:=q1
  refine F122_ok (b,a,l,()) K X ⟨q1, ?_⟩
  unfold wB at h
  dsimp only
  rw [Z7]
  by_cases h0:JT ⟨b,a,l⟩=0
  . rw [if_pos h0] at h
    rw [if_pos h0]
    refine ⟨⟨q1, ?_⟩,⟨encI_ne _,encI_byte _⟩, ?_⟩
    . have:=vq;simp only [List.length_nil];omega
    . show K (.tu [.str (xf (xK ⟨b,a,l⟩)), .int .i64 0]) []
      rw [bStr_encI];exact h
  . rw [if_neg h0] at h
    rw [if_neg h0]
    exact h,fun _ _ _=>rfl,fun _=>rfl,fun _ _=>⟨rfl,rfl⟩⟩
end Go.Proofs.YtbglndogddddoaaGreatDoor
namespace Go.Proofs.YtbglndogddddoaaGreatDoor
open Go.RowKit Go.Lib
def xm (d:Dig):List Int:=[d.b0,d.b1,d.b2,d.b3,d.b4,d.b5,d.b6,d.b7,d.b8,d.b9,d.b10,d.b11,d.b12,d.b13,d.b14,d.b15,d.b16,d.b17,d.b18,d.b19,d.b20,d.b21,d.b22,d.b23,d.b24,d.b25,d.b26,d.b27,d.b28,d.b29,d.b30,d.b31]
def vR (d:Dig):ByteArray:=xf (xm d)
def xb (a b:Dig):Bool:=decide (a.b0=b.b0)&&(decide (a.b1=b.b1)&&(decide (a.b2=b.b2)&&(decide (a.b3=b.b3)&&(decide (a.b4=b.b4)&&(decide (a.b5=b.b5)&&(decide (a.b6=b.b6)&&(decide (a.b7=b.b7)&&(decide (a.b8=b.b8)&&(decide (a.b9=b.b9)&&(decide (a.b10=b.b10)&&(decide (a.b11=b.b11)&&(decide (a.b12=b.b12)&&(decide (a.b13=b.b13)&&(decide (a.b14=b.b14)&&(decide (a.b15=b.b15)&&(decide (a.b16=b.b16)&&(decide (a.b17=b.b17)&&(decide (a.b18=b.b18)&&(decide (a.b19=b.b19)&&(decide (a.b20=b.b20)&&(decide (a.b21=b.b21)&&(decide (a.b22=b.b22)&&(decide (a.b23=b.b23)&&(decide (a.b24=b.b24)&&(decide (a.b25=b.b25)&&(decide (a.b26=b.b26)&&(decide (a.b27=b.b27)&&(decide (a.b28=b.b28)&&(decide (a.b29=b.b29)&&(decide (a.b30=b.b30)&&(decide (a.b31=b.b31)&&(true))))))))))))))))))))))))))))))))
def zw (a b:Idn):Bool:=decide (a.patch.b0=b.patch.b0)&&(decide (a.patch.b1=b.patch.b1)&&(decide (a.patch.b2=b.patch.b2)&&(decide (a.patch.b3=b.patch.b3)&&(decide (a.patch.b4=b.patch.b4)&&(decide (a.patch.b5=b.patch.b5)&&(decide (a.patch.b6=b.patch.b6)&&(decide (a.patch.b7=b.patch.b7)&&(decide (a.patch.b8=b.patch.b8)&&(decide (a.patch.b9=b.patch.b9)&&(decide (a.patch.b10=b.patch.b10)&&(decide (a.patch.b11=b.patch.b11)&&(decide (a.patch.b12=b.patch.b12)&&(decide (a.patch.b13=b.patch.b13)&&(decide (a.patch.b14=b.patch.b14)&&(decide (a.patch.b15=b.patch.b15)&&(decide (a.patch.b16=b.patch.b16)&&(decide (a.patch.b17=b.patch.b17)&&(decide (a.patch.b18=b.patch.b18)&&(decide (a.patch.b19=b.patch.b19)&&(decide (a.patch.b20=b.patch.b20)&&(decide (a.patch.b21=b.patch.b21)&&(decide (a.patch.b22=b.patch.b22)&&(decide (a.patch.b23=b.patch.b23)&&(decide (a.patch.b24=b.patch.b24)&&(decide (a.patch.b25=b.patch.b25)&&(decide (a.patch.b26=b.patch.b26)&&(decide (a.patch.b27=b.patch.b27)&&(decide (a.patch.b28=b.patch.b28)&&(decide (a.patch.b29=b.patch.b29)&&(decide (a.patch.b30=b.patch.b30)&&(decide (a.patch.b31=b.patch.b31)&&(decide (a.n=b.n)&&(true)))))))))))))))))))))))))))))))))
def dz:Dig:=⟨0,0,0,0,0,0,0,0,0,0,0,0,0,0,0,0,0,0,0,0,0,0,0,0,0,0,0,0,0,0,0,0⟩
def iz:Idn:=⟨dz,0⟩
def Qt (x:Idn):Bool:=xb x.patch dz
def bs (l:List Int):List UInt8:=l.map fun n=>UInt8.ofNat n.toNat
def jq (a b:Dig):Int:=compareBytes (bs (xm a)) (bs (xm b))
def JX (a b:Int):Int:=bif decide (a<b)then -1 else bif decide (b<a)then 1 else 0
def idC (a b:Idn):Int:=bif !decide (jq a.patch b.patch=0)then jq a.patch b.patch else JX a.n b.n
def wK:List Int->Int->Int
 | [],_=> -1
 | a::l,n=>bif decide (n=a)then 0 else bif decide (wK l n<0)then -1 else wK l n+1
theorem idxI_ge: ∀(l:List Int) (n:Int), -1<=wK l n
 | [],_=>Int.le_refl _
 | a::l,n=>by
  have:=idxI_ge l n
  unfold wK
  cases decide (n=a)
  . cases c:decide (wK l n<0)
    . have:=of_decide_eq_false c;simp only [cond_false];omega
    . simp
  . simp
def chrB (b:UInt8):Bool:=decide ((97<=b.toNat/\b.toNat<=122)∨(65<=b.toNat/\b.toNat<=90)∨(48<=b.toNat/\b.toNat<=57)∨b.toNat=46∨b.toNat=95∨b.toNat=45)
def restN (s:ByteArray):Bool:=bif !decide (s=(⟨#[]⟩:ByteArray))then (bif decide ((s.size:Int)<=40)then (bif !decide (s=(⟨#[46]⟩:ByteArray))then !decide (s=(⟨#[46,46]⟩:ByteArray))else false)else false)else false
def kK (s:ByteArray):Bool:=s.data.toList.all chrB&&restN s
def cleanB (s:ByteArray) (a b:Int):Bool:=s.data.toList.all fun x=> !(decide ((x.toNat:Int)=a)||decide ((x.toNat:Int)=b))
def XQ (s:ByteArray):Bool:=bif decide ((s.size:Int)<=1000)then cleanB s 10 0 else false
def JB (l:List ByteArray):Bool:=decide (40<l.length)||decide (3000< (l.map ByteArray.size).sum)
def qY (s:ByteArray):Sx:=⟨false,s,[]⟩
def ql (l:List Sx):Sx:=⟨true,⟨#[]⟩,l⟩
def qC (n:Int):Sx:=(ki n).1
theorem kY (a b:Dig):xb a b=decide (a=b):=by
 have:decide (a=b)=decide (xm a=xm b):=by
  rw [decide_eq_decide]
  refine ⟨fun h=>by rw [h],fun h=> ?_⟩
  obtain ⟨a0,a1,a2,a3,a4,a5,a6,a7,a8,a9,a10,a11,a12,a13,a14,a15,a16,a17,a18,a19,a20,a21,a22,a23,a24,a25,a26,a27,a28,a29,a30,a31⟩:=a
  obtain ⟨b0,b1,b2,b3,b4,b5,b6,b7,b8,b9,b10,b11,b12,b13,b14,b15,b16,b17,b18,b19,b20,b21,b22,b23,b24,b25,b26,b27,b28,b29,b30,b31⟩:=b
  simp only [xm,List.cons.injEq,and_true] at h
  simpa only [Dig.mk.injEq] using h
 rw [this]
 simp only [xb,xm,List.cons.injEq,and_true,Bool.and_true,Bool.decide_and]
theorem vZ (a b:Idn):zw a b=decide (a=b):=by
 obtain ⟨a,n⟩:=a
 obtain ⟨b,m⟩:=b
 have h:zw ⟨a,n⟩ ⟨b,m⟩=(xb a b&&decide (n=m)):=by
  simp only [zw,xb,Bool.and_true,Bool.and_assoc]
 rw [h,kY, <- Bool.decide_and,decide_eq_decide,Idn.mk.injEq]
theorem xj {α:Type} {K:α->Prop} {c:Bool} {x y:α} {P Q:Prop} (h1:K x->P) (h2:K y->Q) (h:K (bif c then x else y)):bif c then P else Q:=by
 cases c
 . exact h2 h
 . exact h1 h
theorem qX.count {γ:Type} {body:(γ->Prop)->γ->Prop} (N:Nat) (S:Nat->γ) (P:Nat->Prop) (h: ∀n,n<=N->P n-> ∀W:γ->Prop,(n<N->P (n+1)->W (S (n+1)))->body W (S n)) (h0:P 0):qX body (S 0):=by
 have key: ∀k n,n+k=N->P n->kj body (k+1) (S n):=by
  intro k
  induction k with
  | zero=>intro n hn hp;exact h n (by omega) hp _ fun hlt=>by omega
  | succ k ih=>intro n hn hp;exact h n (by omega) hp _ fun hlt hp'=>ih (n+1) (by omega) hp'
 exact ⟨N+1,key N 0 (by omega) h0⟩
theorem qX.countTo {γ:Type} {body:(γ->Prop)->γ->Prop} {g:γ} (N:Nat) (S:Nat->γ) (P:Nat->Prop) (hg:g=S 0) (h: ∀n,n<=N->P n-> ∀W:γ->Prop,(n<N->P (n+1)->W (S (n+1)))->body W (S n)) (h0:P 0):qX body g:=by
 rw [hg];exact qX.count N S P h h0
theorem jm {α:Type} {l:List α} {n:Nat} (h:n<l.length):l.take (n+1)=l.take n++[l[n]]:=by
 simp
theorem zq {n N:Nat} (h:n<N):decide ((n:Int) < (N:Int))=true:=by simp;omega
theorem qG {N:Nat}:decide ((N:Int) < (N:Int))=false:=by simp
end Go.Proofs.YtbglndogddddoaaGreatDoor
namespace Go.Proofs.YtbglndogddddoaaGreatDoor
open Go.RowKit
theorem qX.all {γ:Type} {body:(γ->Prop)->γ->Prop} {g:γ} (N:Nat) (S:Nat->γ) (p:Nat->Bool) (Q:Bool->Prop) (hQ:Q (decide (∀n,n<N->p n=true))) (hg:g=S 0)
  (step: ∀(W:γ->Prop) (n:Nat),n<N->(p n=true->W (S (n+1)))->(p n=false->Q false)->body W (S n)) (last:Q true-> ∀W:γ->Prop,body W (S N)):qX body g:=by
 refine qX.countTo N S (fun n=> ∀i,i<n->p i=true) hg (fun n hn hp W hW=> ?_) fun i hi=>by omega
 by_cases hlt:n<N
 . refine step W n hlt (fun h=>hW hlt fun i hi=> ?_) fun h=> ?_
   . by_cases e:i=n
     . rw [e];exact h
     . exact hp i (by omega)
   . have:decide (∀n,n<N->p n=true)=false:=by
      rw [decide_eq_false_iff_not]
      intro ha
      have:=ha n hlt
      rw [h] at this;cases this
     rwa [this] at hQ
 . have:n=N:=by omega
   subst this
   have:decide (∀i,i<n->p i=true)=true:=by rw [decide_eq_true_eq];exact hp
   rw [this] at hQ
   exact last hQ W
theorem VD {α:Type} [DecidableEq α] {a b:List α} (h:a.length=b.length):decide (a=b)=decide (∀n,n<a.length->decide (a[n]? =b[n]?)=true):=by
 rw [decide_eq_decide]
 refine ⟨fun e n _=>by rw [e];simp,fun e=>List.ext_getElem? fun n=> ?_⟩
 by_cases hn:n<a.length
 . simpa using e n hn
 . rw [List.getElem?_eq_none (by omega),List.getElem?_eq_none (by omega)]
theorem decB_one {n:Nat} (h:n<10):wg (n:Int)=⟨#[UInt8.ofNat (48+n)]⟩:=by
 unfold wg Lib.itoa
 rw [if_neg (by omega),show ((n:Int)).toNat=n by omega,Lib.decDigits_one h]
theorem JV (d:Dig):(vR d).size=32:=rfl
theorem kw (s:ByteArray):xx (qY s)=s.size+3:=by simp [qY,xx,qu]
theorem wE (l:List Sx):xx (ql l)=qu l+3:=by
 have:(⟨#[]⟩:ByteArray).size=0:=rfl
 simp only [ql,xx,this];omega
theorem itoa_len {n:Int} (h:xB n):(wg n).size<=21:=by
 obtain ⟨h1,h2⟩:=h
 show (Lib.itoa n).toArray.size<=21
 rw [List.size_toArray]
 unfold Lib.itoa
 split
 . have:=kH 19 n.natAbs (by omega)
   simp only [List.length_cons];omega
 . have:=kH 19 n.toNat (by omega)
   omega
theorem Jx {n:Int} (h:xB n):xx (qC n)<=24:=by
 have:=itoa_len h
 unfold qC ki
 split
 . simp only [sx0,xx,qu];exact Nat.le_of_ble_eq_true rfl
 . simp only [xx,qu];omega
theorem qX.map {α β γ:Type} {body:(γ->Prop)->γ->Prop} {g:γ} (l:List α) (f:α->β) (S:Int->List β->γ) (hr:l.length<=4294967296) (hg:g=S 0 [])
  (step: ∀(W:γ->Prop) (n:Nat) (h:n<l.length) (out:List β),out.length=n->W (S (IntKind.i64.wrap ((n:Int)+1)) (out++[f l[n]]))->body W (S n out))
  (last: ∀W:γ->Prop,body W (S l.length (l.map f))):qX body g:=by
 refine qX.countTo l.length (fun n=>S n ((l.take n).map f)) (fun _=>True) (by simpa using hg) (fun n hn _ W hW=> ?_) trivial
 by_cases hlt:n<l.length
 . refine step W n hlt _ (by simp;omega) ?_
   have:=hW hlt trivial
   rw [jw hlt hr]
   rwa [jm hlt,List.map_append] at this
 . have:n=l.length:=by omega
   subst this
   simp only [List.take_length]
   exact last W
def Yk (n:Nat):Prop:=n<=4294967295
theorem eqI {n m:Nat}:decide ((n:Int)=(m:Int))=decide (n=m):=by
 rw [decide_eq_decide];omega
theorem jS {α:Type} {a:List α} {n:Nat} (h:n<a.length):a[n]? =some a[n]:=List.getElem?_eq_getElem h
theorem w64 {n:Int} (h:0<=n/\n<=8589934592):IntKind.i64.wrap n=n:=jW (by omega) (by omega)
def sumP (l:List ByteArray):Prop:=(l.map jY).sum<=2097152
theorem sum_take {l:List ByteArray} {n:Nat} (h:n<l.length):((l.take (n+1)).map ByteArray.size).sum=((l.take n).map ByteArray.size).sum+l[n].size:=by
 rw [jm h,List.map_append,List.sum_append];simp
theorem sum_bk: ∀l:List ByteArray,(l.map jY).sum=(l.map ByteArray.size).sum+l.length
 | []=>rfl
 | s::l=>by simp only [List.map_cons,List.sum_cons,List.length_cons,sum_bk l,jY];omega
theorem sum_le {l:List ByteArray} (n:Nat):((l.take n).map ByteArray.size).sum<=(l.map ByteArray.size).sum:=by
 have:=List.take_append_drop n l
 have e:(l.map ByteArray.size).sum=((l.take n).map ByteArray.size).sum+((l.drop n).map ByteArray.size).sum:=by
  rw [<- List.sum_append, <- List.map_append,this]
 omega
theorem dec_allO {α:Type} {a:List α} (q:α->Bool):a.all q=decide (∀n,n<a.length->(a[n]?).all q=true):=by
 rw [Bool.eq_iff_iff,decide_eq_true_eq,List.all_eq_true]
 refine ⟨fun e n h=>by rw [jS h];exact e _ (List.getElem_mem _),fun e x hx=> ?_⟩
 obtain ⟨n,h,rfl⟩:=List.mem_iff_getElem.1 hx
 have:=e n h
 rwa [jS h] at this
theorem u8_wf {n:Int} (h:IntKind.u8.min<=n/\n<=IntKind.u8.max):0<=n/\n<=255:=by
 simpa [IntKind.min,IntKind.max,IntKind.signed,IntKind.bits] using h
end Go.Proofs.YtbglndogddddoaaGreatDoor
namespace Go.Proofs.YtbglndogddddoaaGreatDoor
open Go.RowKit
attribute [local irreducible] qW qb
set_option maxRecDepth 100000
def H47:List (Nat×Hint):=[]
def J47:List (Nat×Hint):=[]
abbrev S47:List Sh:=[.leaf]
abbrev L47:List Lf:=[.el .idk]
def F47 (g:prodL L47) (K:Kn):Prop:=
 K (.bool (xb g.1.patch dz)) []
theorem F47_eq (g:prodL L47) (K X:Kn):F47 g K=qW D (qJ [] []) (qv []) H47 J47 7 [.tmp 2] (qq Tryz.f47) (argsT S47 L47 g) [] (settle0 K) X:=by kernel_rfl
theorem F47_ok (g:prodL L47) (K X:Kn) (h:F47 g K):FCalls Tryz.prog 47 (argsT S47 L47 g) [] K X:=
 FCalls.settle0 (qz qh (vN vC) qj rfl Tryz.func47 (c:=qq Tryz.f47) rfl Tryz.ntmps47 Tryz.results47 (by unfold qk;rw [Tryz.func47];kernel_rfl) (Nat.le_of_ble_eq_true (by kernel_rfl)) (c0:=0) (Eq.mp (F47_eq g K X) h))
def sp47:Sp:=⟨S47,L47,fun _=>True,fun g=> .bool (Qt g.1),fun _=>none⟩
theorem sp47_ok:sp47.Ok Tryz.prog 47 true:=
 ⟨fun g K X hp h=>F47_ok g K X h,fun _ _ _=>rfl,fun _=>rfl,by first | exact fun _ _=>⟨rfl,rfl⟩ | (intro h;cases h)⟩
def H28:List (Nat×Hint):=[]
def J28:List (Nat×Hint):=[]
abbrev S28:List Sh:=[]
abbrev L28:List Lf:=[]
def F28 (g:prodL L28) (K:Kn):Prop:=
 K (.ag (enc .idk (⟨dz, -1⟩:Idn))) []
theorem F28_eq (g:prodL L28) (K X:Kn):F28 g K=qW D (qJ [] []) (qv []) H28 J28 2 [.cell 0 36] (qq Tryz.f28) (argsT S28 L28 g) [] (settle0 K) X:=by kernel_rfl
theorem F28_ok (g:prodL L28) (K X:Kn) (h:F28 g K):FCalls Tryz.prog 28 (argsT S28 L28 g) [] K X:=
 FCalls.settle0 (qz qh (vN vC) qj rfl Tryz.func28 (c:=qq Tryz.f28) rfl Tryz.ntmps28 Tryz.results28 (by unfold qk;rw [Tryz.func28];kernel_rfl) (Nat.le_of_ble_eq_true (by kernel_rfl)) (c0:=0) (Eq.mp (F28_eq g K X) h))
def sp28:Sp:=⟨S28,L28,fun _=>True,fun g=> .ag (enc .idk (⟨dz, -1⟩:Idn)),fun _=>none⟩
theorem sp28_ok:sp28.Ok Tryz.prog 28 false:=
 ⟨fun g K X hp h=>F28_ok g K X h,fun _ _ _=>rfl,fun _=>rfl,by first | exact fun _ _=>⟨rfl,rfl⟩ | (intro h;cases h)⟩
def H119:List (Nat×Hint):=[]
def J119:List (Nat×Hint):=[]
abbrev S119:List Sh:=[.leaf]
abbrev L119:List Lf:=[.str]
def F119 (g:prodL L119) (K:Kn):Prop:=
 K (.ag [.bool false, .str g.1, .nil]) []
theorem F119_eq (g:prodL L119) (K X:Kn):F119 g K=qW D (qJ [] []) (qv []) H119 J119 5 [.cell 2 85] (qq Tryz.f119) (argsT S119 L119 g) [] (settle0 K) X:=by kernel_rfl
theorem F119_ok (g:prodL L119) (K X:Kn) (h:F119 g K):FCalls Tryz.prog 119 (argsT S119 L119 g) [] K X:=
 FCalls.settle0 (qz qh (vN vC) qj rfl Tryz.func119 (c:=qq Tryz.f119) rfl Tryz.ntmps119 Tryz.results119 (by unfold qk;rw [Tryz.func119];kernel_rfl) (Nat.le_of_ble_eq_true (by kernel_rfl)) (c0:=0) (Eq.mp (F119_eq g K X) h))
def yH:Sp:=⟨S119,L119,fun _=>True,fun g=> .ag [.bool false, .str g.1, .nil],fun _=>none⟩
theorem kd:yH.Ok Tryz.prog 119 false:=
 ⟨fun g K X hp h=>F119_ok g K X h,fun _ _ _=>rfl,fun _=>rfl,by first | exact fun _ _=>⟨rfl,rfl⟩ | (intro h;cases h)⟩
def H118:List (Nat×Hint):=[]
def J118:List (Nat×Hint):=[]
abbrev S118:List Sh:=[.fsl .sexp]
abbrev L118:List Lf:=[.sl .sexp]
abbrev O118:List ObSh:=[]
def F118 (g:prodL L118) (K:Kn):Prop:=
 K (.ag [.bool true, .str (⟨#[]⟩:ByteArray), .sl true .sexp g.1]) []
theorem F118_eq (g:prodL L118) (K X:Kn):F118 g K=qW D (qJ [] []) (qv []) H118 J118 5 [.cell 2 85] (qq Tryz.f118) (argsT S118 L118 g) (qZ S118 O118 L118 g) (settle0 K) X 0:=by kernel_rfl
theorem F118_ok (g:prodL L118) (K X:Kn) (h:F118 g K):FCalls Tryz.prog 118 (argsT S118 L118 g) (qZ S118 O118 L118 g) K X 0:=
 FCalls.settle0 (qz qh (vN vC) qj rfl Tryz.func118 (c:=qq Tryz.f118) rfl Tryz.ntmps118 Tryz.results118 (by unfold qk;rw [Tryz.func118];kernel_rfl) (Nat.le_of_ble_eq_true (by kernel_rfl)) (c0:=0) (Eq.mp (F118_eq g K X) h))
def kJ:Raw:=⟨S118,O118,L118,0,fun g K _=>F118 g K⟩
theorem rw118_ok:kJ.Ok Tryz.prog 118:=fun g K X h=>F118_ok g K X h
def H83:List (Nat×Hint):=[]
def J83:List (Nat×Hint):=[]
abbrev S83:List Sh:=[.leaf]
abbrev L83:List Lf:=[.int .i64]
def F83 (g:prodL L83) (K:Kn):Prop:=
 K (.bool (!decide (g.1=g.1))) []
theorem F83_eq (g:prodL L83) (K X:Kn):F83 g K=qW D (qJ [] []) (qv []) H83 J83 6 [.tmp 2] (qq Tryz.f83) (argsT S83 L83 g) [] (settle0 K) X:=by kernel_rfl
theorem F83_ok (g:prodL L83) (K X:Kn) (h:F83 g K):FCalls Tryz.prog 83 (argsT S83 L83 g) [] K X:=
 FCalls.settle0 (qz qh (vN vC) qj rfl Tryz.func83 (c:=qq Tryz.f83) rfl Tryz.ntmps83 Tryz.results83 (by unfold qk;rw [Tryz.func83];kernel_rfl) (Nat.le_of_ble_eq_true (by kernel_rfl)) (c0:=0) (Eq.mp (F83_eq g K X) h))
def sp83:Sp:=⟨S83,L83,fun _=>True,fun g=> .bool (!decide (g.1=g.1)),fun _=>none⟩
theorem sp83_ok:sp83.Ok Tryz.prog 83 false:=
 ⟨fun g K X hp h=>F83_ok g K X h,fun _ _ _=>rfl,fun _=>rfl,by first | exact fun _ _=>⟨rfl,rfl⟩ | (intro h;cases h)⟩
def H41:List (Nat×Hint):=[]
def J41:List (Nat×Hint):=[]
abbrev S41:List Sh:=[.leaf, .leaf]
abbrev L41:List Lf:=[.int .i64, .int .i64]
def F41 (g:prodL L41) (K:Kn):Prop:=
 True/\
 True/\
 bif !decide (g.1=g.1)then (
  bif !decide (g.2.1=g.2.1)then (
   K (.int .i64 0) [])
  else (
   K (.int .i64 (-1)) []))
 else (
  bif !decide (g.2.1=g.2.1)then (
  K (.int .i64 1) [])
 else (
  bif decide (g.1<g.2.1)then (
  K (.int .i64 (-1)) [])
 else (
  bif decide (g.2.1<g.1)then (
  K (.int .i64 1) [])
 else (
  K (.int .i64 0) []))))
theorem F41_eq (g:prodL L41) (K X:Kn):F41 g K=qW D (qJ [] [(83,false,sp83)]) (qv []) H41 J41 20 [.tmp 4] (qq Tryz.f41) (argsT S41 L41 g) [] (settle0 K) X:=by kernel_rfl
theorem F41_ok (g:prodL L41) (K X:Kn) (h:F41 g K):FCalls Tryz.prog 41 (argsT S41 L41 g) [] K X:=
 FCalls.settle0 (qz (Γ:=qJ [] [(83,false,sp83)]) (mu:=qv []) (H:=H41) (J:=J41) qh (qV (rs:=[]) (l:=[(83,false,sp83)]) (fun p hp=>by cases hp) (by intro p hp;simp only [List.mem_cons,List.not_mem_nil,or_false] at hp;subst hp;exact sp83_ok)) qj rfl Tryz.func41 (c:=qq Tryz.f41) rfl Tryz.ntmps41 Tryz.results41 (by unfold qk;rw [Tryz.func41];kernel_rfl) (Nat.le_of_ble_eq_true (by kernel_rfl)) (c0:=0) (Eq.mp (F41_eq g K X) h))
def H64:List (Nat×Hint):=[]
def J64:List (Nat×Hint):=[]
abbrev S64:List Sh:=[]
abbrev L64:List Lf:=[]
def F64 (g:prodL L64) (K:Kn):Prop:=
 K (.ag [.int .u32 1779033703, .int .u32 3144134277, .int .u32 1013904242, .int .u32 2773480762, .int .u32 1359893119, .int .u32 2600822924, .int .u32 528734635, .int .u32 1541459225]) []
theorem F64_eq (g:prodL L64) (K X:Kn):F64 g K=qW D (qJ [] []) (qv []) H64 J64 2 [.cell 0 101] (qq Tryz.f64) (argsT S64 L64 g) [] (settle0 K) X:=by kernel_rfl
theorem F64_ok (g:prodL L64) (K X:Kn) (h:F64 g K):FCalls Tryz.prog 64 (argsT S64 L64 g) [] K X:=
 FCalls.settle0 (qz qh (vN vC) qj rfl Tryz.func64 (c:=qq Tryz.f64) rfl Tryz.ntmps64 Tryz.results64 (by unfold qk;rw [Tryz.func64];kernel_rfl) (Nat.le_of_ble_eq_true (by kernel_rfl)) (c0:=0) (Eq.mp (F64_eq g K X) h))
def sp64:Sp:=⟨S64,L64,fun _=>True,fun g=> .ag [.int .u32 1779033703, .int .u32 3144134277, .int .u32 1013904242, .int .u32 2773480762, .int .u32 1359893119, .int .u32 2600822924, .int .u32 528734635, .int .u32 1541459225],fun _=>none⟩
theorem sp64_ok:sp64.Ok Tryz.prog 64 false:=
 ⟨fun g K X hp h=>F64_ok g K X h,fun _ _ _=>rfl,fun _=>rfl,by first | exact fun _ _=>⟨rfl,rfl⟩ | (intro h;cases h)⟩
def H62:List (Nat×Hint):=[(4,⟨[],[(0, .leaf),(1, .leaf),(5, .leaf)],[],[.sl .dig, .sl .dig, .int .i64]⟩)]
def J62:List (Nat×Hint):=[]
abbrev S62:List Sh:=[.leaf, .leaf]
abbrev L62:List Lf:=[.sl .dig, .sl .dig]
def Vm (K:Kn) (W2:prodL [.sl .dig, .sl .dig, .int .i64]->Prop) (a_1:List Dig) (b_1:List Dig) (i_1:Int):Prop:=
 bif decide (i_1< (a_1.length:Int))then (
  At a_1 i_1 fun u3=>
 At b_1 i_1 fun u4=>
 bif !(xb u3 u4)then (
  K (.bool false) [])
 else (
  W2 (a_1,b_1,IntKind.i64.wrap (i_1+1),())))
 else (
  K (.bool true) [])
def F62_L2 (K:Kn) (g:prodL [.sl .dig, .sl .dig, .int .i64]):Prop:=
 qX (γ:=prodL [.sl .dig, .sl .dig, .int .i64]) (fun V y=>Vm K V y.1 y.2.1 y.2.2.1) g
def F62 (g:prodL L62) (K:Kn):Prop:=
 bif !decide ((g.1.length:Int)=(g.2.1.length:Int))then (
  K (.bool false) [])
 else (
  F62_L2 K (g.1,g.2.1,0,()))
theorem F62_eq (g:prodL L62) (K X:Kn):F62 g K=qW D (qJ [] []) (qv []) H62 J62 26 [.tmp 4] (qq Tryz.f62) (argsT S62 L62 g) [] (settle0 K) X:=by kernel_rfl
theorem F62_ok (g:prodL L62) (K X:Kn) (h:F62 g K):FCalls Tryz.prog 62 (argsT S62 L62 g) [] K X:=
 FCalls.settle0 (qz qh (vN vC) qj rfl Tryz.func62 (c:=qq Tryz.f62) rfl Tryz.ntmps62 Tryz.results62 (by unfold qk;rw [Tryz.func62];kernel_rfl) (Nat.le_of_ble_eq_true (by kernel_rfl)) (c0:=0) (Eq.mp (F62_eq g K X) h))
def H109:List (Nat×Hint):=[(4,⟨[],[(0, .leaf),(1, .leaf),(5, .leaf)],[],[.sl .str, .sl .str, .int .i64]⟩)]
def J109:List (Nat×Hint):=[]
abbrev S109:List Sh:=[.leaf, .leaf]
abbrev L109:List Lf:=[.sl .str, .sl .str]
def Z5 (K:Kn) (W2:prodL [.sl .str, .sl .str, .int .i64]->Prop) (a_1:List ByteArray) (b_1:List ByteArray) (i_1:Int):Prop:=
 bif decide (i_1< (a_1.length:Int))then (
  At a_1 i_1 fun u3=>
 At b_1 i_1 fun u4=>
 bif !decide (u3=u4)then (
  K (.bool false) [])
 else (
  W2 (a_1,b_1,IntKind.i64.wrap (i_1+1),())))
 else (
  K (.bool true) [])
def F109_L2 (K:Kn) (g:prodL [.sl .str, .sl .str, .int .i64]):Prop:=
 qX (γ:=prodL [.sl .str, .sl .str, .int .i64]) (fun V y=>Z5 K V y.1 y.2.1 y.2.2.1) g
def F109 (g:prodL L109) (K:Kn):Prop:=
 bif !decide ((g.1.length:Int)=(g.2.1.length:Int))then (
  K (.bool false) [])
 else (
  F109_L2 K (g.1,g.2.1,0,()))
theorem F109_eq (g:prodL L109) (K X:Kn):F109 g K=qW D (qJ [] []) (qv []) H109 J109 26 [.tmp 4] (qq Tryz.f109) (argsT S109 L109 g) [] (settle0 K) X:=by kernel_rfl
theorem F109_ok (g:prodL L109) (K X:Kn) (h:F109 g K):FCalls Tryz.prog 109 (argsT S109 L109 g) [] K X:=
 FCalls.settle0 (qz qh (vN vC) qj rfl Tryz.func109 (c:=qq Tryz.f109) rfl Tryz.ntmps109 Tryz.results109 (by unfold qk;rw [Tryz.func109];kernel_rfl) (Nat.le_of_ble_eq_true (by kernel_rfl)) (c0:=0) (Eq.mp (F109_eq g K X) h))
def H110:List (Nat×Hint):=[(4,⟨[],[(0, .leaf),(1, .leaf),(5, .leaf)],[],[.sl .idk, .sl .idk, .int .i64]⟩)]
def J110:List (Nat×Hint):=[]
abbrev S110:List Sh:=[.leaf, .leaf]
abbrev L110:List Lf:=[.sl .idk, .sl .idk]
def Zo (K:Kn) (W2:prodL [.sl .idk, .sl .idk, .int .i64]->Prop) (a_1:List Idn) (b_1:List Idn) (i_1:Int):Prop:=
 bif decide (i_1< (a_1.length:Int))then (
  At a_1 i_1 fun u3=>
 At b_1 i_1 fun u4=>
 bif !(zw u3 u4)then (
  K (.bool false) [])
 else (
  W2 (a_1,b_1,IntKind.i64.wrap (i_1+1),())))
 else (
  K (.bool true) [])
def F110_L2 (K:Kn) (g:prodL [.sl .idk, .sl .idk, .int .i64]):Prop:=
 qX (γ:=prodL [.sl .idk, .sl .idk, .int .i64]) (fun V y=>Zo K V y.1 y.2.1 y.2.2.1) g
def F110 (g:prodL L110) (K:Kn):Prop:=
 bif !decide ((g.1.length:Int)=(g.2.1.length:Int))then (
  K (.bool false) [])
 else (
  F110_L2 K (g.1,g.2.1,0,()))
theorem F110_eq (g:prodL L110) (K X:Kn):F110 g K=qW D (qJ [] []) (qv []) H110 J110 26 [.tmp 4] (qq Tryz.f110) (argsT S110 L110 g) [] (settle0 K) X:=by kernel_rfl
theorem F110_ok (g:prodL L110) (K X:Kn) (h:F110 g K):FCalls Tryz.prog 110 (argsT S110 L110 g) [] K X:=
 FCalls.settle0 (qz qh (vN vC) qj rfl Tryz.func110 (c:=qq Tryz.f110) rfl Tryz.ntmps110 Tryz.results110 (by unfold qk;rw [Tryz.func110];kernel_rfl) (Nat.le_of_ble_eq_true (by kernel_rfl)) (c0:=0) (Eq.mp (F110_eq g K X) h))
def H34:List (Nat×Hint):=[(3,⟨[],[(0, .leaf),(3, .leaf),(4, .leaf)],[],[.sl .str, .int .i64, .int .i64]⟩)]
def J34:List (Nat×Hint):=[]
abbrev S34:List Sh:=[.leaf]
abbrev L34:List Lf:=[.sl .str]
def F34_B2 (K:Kn) (W2:prodL [.sl .str, .int .i64, .int .i64]->Prop) (l_1:List ByteArray) (n_1 i_1:Int):Prop:=
 bif decide (i_1< (l_1.length:Int))then (
  At l_1 i_1 fun u3=>
 W2 (l_1,IntKind.i64.wrap (n_1+(u3.size:Int)),IntKind.i64.wrap (i_1+1),()))
 else (
  bif decide (40< (l_1.length:Int))then (
  K (.bool true) [])
 else (
  K (.bool (decide (3000<n_1))) []))
def F34_L2 (K:Kn) (g:prodL [.sl .str, .int .i64, .int .i64]):Prop:=
 qX (γ:=prodL [.sl .str, .int .i64, .int .i64]) (fun V y=>F34_B2 K V y.1 y.2.1 y.2.2.1) g
def F34 (g:prodL L34) (K:Kn):Prop:=
 F34_L2 K (g.1,0,0,())
theorem F34_eq (g:prodL L34) (K X:Kn):F34 g K=qW D (qJ [] []) (qv []) H34 J34 25 [.tmp 2] (qq Tryz.f34) (argsT S34 L34 g) [] (settle0 K) X:=by kernel_rfl
theorem F34_ok (g:prodL L34) (K X:Kn) (h:F34 g K):FCalls Tryz.prog 34 (argsT S34 L34 g) [] K X:=
 FCalls.settle0 (qz qh (vN vC) qj rfl Tryz.func34 (c:=qq Tryz.f34) rfl Tryz.ntmps34 Tryz.results34 (by unfold qk;rw [Tryz.func34];kernel_rfl) (Nat.le_of_ble_eq_true (by kernel_rfl)) (c0:=0) (Eq.mp (F34_eq g K X) h))
def H115:List (Nat×Hint):=[(2,⟨[],[(0, .leaf),(6, .leaf),(7, .leaf)],[],[.str, .int .i64, .int .i64]⟩)]
def J115:List (Nat×Hint):=[(6,⟨[],[(0, .leaf),(6, .leaf),(7, .leaf),(46, .leaf)],[],[.str, .int .i64, .int .i64, .bool]⟩)]
abbrev S115:List Sh:=[.leaf]
abbrev L115:List Lf:=[.str]
def qo (K:Kn) (W2:prodL [.str, .int .i64, .int .i64]->Prop) (s_4:ByteArray) (t_4 t2_4:Int) (t3_4:Bool):Prop:=
 bif t3_4 then (
  K (.bool false) [])
 else (
  W2 (s_4,t_4,IntKind.i64.wrap (t2_4+1),()))
def ZV (K:Kn) (W2:prodL [.str, .int .i64, .int .i64]->Prop) (s_1:ByteArray) (t_1 t2_1:Int):Prop:=
 bif decide (t2_1<t_1)then (
  JR s_1 t2_1 fun b3=>
 bif decide (b3<97)then (
  bif decide (b3<65)then (
   bif decide (b3<48)then (
    bif !decide (b3=46)then (
     bif !decide (b3=95)then (
      qo K W2 s_1 t_1 t2_1 (!decide (b3=45)))
     else (
      qo K W2 s_1 t_1 t2_1 false))
    else (
     qo K W2 s_1 t_1 t2_1 false))
   else (
    bif decide (57<b3)then (
     bif !decide (b3=46)then (
      bif !decide (b3=95)then (
       qo K W2 s_1 t_1 t2_1 (!decide (b3=45)))
      else (
       qo K W2 s_1 t_1 t2_1 false))
     else (
      qo K W2 s_1 t_1 t2_1 false))
    else (
     qo K W2 s_1 t_1 t2_1 false)))
  else (
   bif decide (90<b3)then (
    bif decide (b3<48)then (
     bif !decide (b3=46)then (
      bif !decide (b3=95)then (
       qo K W2 s_1 t_1 t2_1 (!decide (b3=45)))
      else (
       qo K W2 s_1 t_1 t2_1 false))
     else (
      qo K W2 s_1 t_1 t2_1 false))
    else (
     bif decide (57<b3)then (
      bif !decide (b3=46)then (
       bif !decide (b3=95)then (
        qo K W2 s_1 t_1 t2_1 (!decide (b3=45)))
       else (
        qo K W2 s_1 t_1 t2_1 false))
      else (
       qo K W2 s_1 t_1 t2_1 false))
     else (
      qo K W2 s_1 t_1 t2_1 false)))
   else (
    qo K W2 s_1 t_1 t2_1 false)))
 else (
  bif decide (122<b3)then (
   bif decide (b3<65)then (
    bif decide (b3<48)then (
     bif !decide (b3=46)then (
      bif !decide (b3=95)then (
       qo K W2 s_1 t_1 t2_1 (!decide (b3=45)))
      else (
       qo K W2 s_1 t_1 t2_1 false))
     else (
      qo K W2 s_1 t_1 t2_1 false))
    else (
     bif decide (57<b3)then (
      bif !decide (b3=46)then (
       bif !decide (b3=95)then (
        qo K W2 s_1 t_1 t2_1 (!decide (b3=45)))
       else (
        qo K W2 s_1 t_1 t2_1 false))
      else (
       qo K W2 s_1 t_1 t2_1 false))
     else (
      qo K W2 s_1 t_1 t2_1 false)))
   else (
    bif decide (90<b3)then (
     bif decide (b3<48)then (
      bif !decide (b3=46)then (
       bif !decide (b3=95)then (
        qo K W2 s_1 t_1 t2_1 (!decide (b3=45)))
       else (
        qo K W2 s_1 t_1 t2_1 false))
      else (
       qo K W2 s_1 t_1 t2_1 false))
     else (
      bif decide (57<b3)then (
       bif !decide (b3=46)then (
        bif !decide (b3=95)then (
         qo K W2 s_1 t_1 t2_1 (!decide (b3=45)))
        else (
         qo K W2 s_1 t_1 t2_1 false))
       else (
        qo K W2 s_1 t_1 t2_1 false))
      else (
       qo K W2 s_1 t_1 t2_1 false)))
    else (
     qo K W2 s_1 t_1 t2_1 false)))
  else (
   qo K W2 s_1 t_1 t2_1 false)))
 else (
  bif !decide (s_1=(⟨#[]⟩:ByteArray))then (
  bif decide ((s_1.size:Int)<=40)then (
   bif !decide (s_1=(⟨#[46]⟩:ByteArray))then (
    K (.bool (!decide (s_1=(⟨#[46,46]⟩:ByteArray)))) [])
   else (
    K (.bool false) []))
  else (
   K (.bool false) []))
 else (
  K (.bool false) []))
def F115_L2 (K:Kn) (g:prodL [.str, .int .i64, .int .i64]):Prop:=
 qX (γ:=prodL [.str, .int .i64, .int .i64]) (fun V y=>ZV K V y.1 y.2.1 y.2.2.1) g
def F115 (g:prodL L115) (K:Kn):Prop:=
 F115_L2 K (g.1,(g.1.size:Int),0,())
theorem F115_eq (g:prodL L115) (K X:Kn):F115 g K=qW D (qJ [] []) (qv []) H115 J115 63 [.tmp 2] (qq Tryz.f115) (argsT S115 L115 g) [] (settle0 K) X:=by kernel_rfl
theorem F115_ok (g:prodL L115) (K X:Kn) (h:F115 g K):FCalls Tryz.prog 115 (argsT S115 L115 g) [] K X:=
 FCalls.settle0 (qz qh (vN vC) qj rfl Tryz.func115 (c:=qq Tryz.f115) rfl Tryz.ntmps115 Tryz.results115 (by unfold qk;rw [Tryz.func115];kernel_rfl) (Nat.le_of_ble_eq_true (by kernel_rfl)) (c0:=0) (Eq.mp (F115_eq g K X) h))
end Go.Proofs.YtbglndogddddoaaGreatDoor
namespace Go.Proofs.YtbglndogddddoaaGreatDoor
open Go.RowKit
theorem F62_is {a b:List Dig} {K:Kn} (hl:Yk a.length) (h:K (.bool (decide (a=b))) []):F62 (a,b,()) K:=by
 unfold Yk at hl
 unfold F62
 show bif !decide ((a.length:Int)=(b.length:Int))then _ else _
 rw [eqI]
 by_cases e:a.length=b.length
 . rw [decide_eq_true e,Bool.not_true,cond_false]
   rw [VD e] at h
   refine qX.all a.length (fun n=>(a,b,(n:Int),())) (fun n=>decide (a[n]? =b[n]?)) (fun r=>K (.bool r) []) h rfl (fun W n hn ht hf=> ?_) fun ht W=> ?_
   . show Vm K W a b n
     unfold Vm
     rw [zq hn,cond_true]
     refine zX hn (zX (by omega) ?_)
     rw [kY]
     rw [jS hn,jS (show n<b.length by omega)] at ht hf
     simp only [Option.some.injEq] at ht hf
     cases c:decide (a[n]=b[n])<;>simp only [c,Bool.not_false,Bool.not_true,cond_true,cond_false]
     . exact hf c
     . rw [jw hn (by omega)];exact ht c
   . show Vm K W a b (a.length:Int)
     unfold Vm
     rw [qG,cond_false];exact ht
 . rw [decide_eq_false e,Bool.not_false,cond_true]
   have:decide (a=b)=false:=decide_eq_false fun c=>e (by rw [c])
   rwa [this] at h
def sp62:Sp:=⟨S62,L62,fun g=>Yk g.1.length,fun g=> .bool (decide (g.1=g.2.1)),fun _=>none⟩
theorem sp62_ok:sp62.Ok Tryz.prog 62 true:=
 ⟨fun g K X hp h=>F62_ok g K X (F62_is hp h),fun _ _ _=>rfl,fun _=>rfl,by first | exact fun _ _=>⟨rfl,rfl⟩ | (intro h;cases h)⟩
theorem F109_is {a b:List ByteArray} {K:Kn} (hl:Yk a.length) (h:K (.bool (decide (a=b))) []):F109 (a,b,()) K:=by
 unfold Yk at hl
 unfold F109
 show bif !decide ((a.length:Int)=(b.length:Int))then _ else _
 rw [eqI]
 by_cases e:a.length=b.length
 . rw [decide_eq_true e,Bool.not_true,cond_false]
   rw [VD e] at h
   refine qX.all a.length (fun n=>(a,b,(n:Int),())) (fun n=>decide (a[n]? =b[n]?)) (fun r=>K (.bool r) []) h rfl (fun W n hn ht hf=> ?_) fun ht W=> ?_
   . show Z5 K W a b n
     unfold Z5
     rw [zq hn,cond_true]
     refine zX hn (zX (by omega) ?_)
     rw [jS hn,jS (show n<b.length by omega)] at ht hf
     simp only [Option.some.injEq] at ht hf
     cases c:decide (a[n]=b[n])<;>simp only [c,Bool.not_false,Bool.not_true,cond_true,cond_false]
     . exact hf c
     . rw [jw hn (by omega)];exact ht c
   . show Z5 K W a b (a.length:Int)
     unfold Z5
     rw [qG,cond_false];exact ht
 . rw [decide_eq_false e,Bool.not_false,cond_true]
   have:decide (a=b)=false:=decide_eq_false fun c=>e (by rw [c])
   rwa [this] at h
def sp109:Sp:=⟨S109,L109,fun g=>Yk g.1.length,fun g=> .bool (decide (g.1=g.2.1)),fun _=>none⟩
theorem sp109_ok:sp109.Ok Tryz.prog 109 true:=
 ⟨fun g K X hp h=>F109_ok g K X (F109_is hp h),fun _ _ _=>rfl,fun _=>rfl,by first | exact fun _ _=>⟨rfl,rfl⟩ | (intro h;cases h)⟩
theorem F110_is {a b:List Idn} {K:Kn} (hl:Yk a.length) (h:K (.bool (decide (a=b))) []):F110 (a,b,()) K:=by
 unfold Yk at hl
 unfold F110
 show bif !decide ((a.length:Int)=(b.length:Int))then _ else _
 rw [eqI]
 by_cases e:a.length=b.length
 . rw [decide_eq_true e,Bool.not_true,cond_false]
   rw [VD e] at h
   refine qX.all a.length (fun n=>(a,b,(n:Int),())) (fun n=>decide (a[n]? =b[n]?)) (fun r=>K (.bool r) []) h rfl (fun W n hn ht hf=> ?_) fun ht W=> ?_
   . show Zo K W a b n
     unfold Zo
     rw [zq hn,cond_true]
     refine zX hn (zX (by omega) ?_)
     rw [vZ]
     rw [jS hn,jS (show n<b.length by omega)] at ht hf
     simp only [Option.some.injEq] at ht hf
     cases c:decide (a[n]=b[n])<;>simp only [c,Bool.not_false,Bool.not_true,cond_true,cond_false]
     . exact hf c
     . rw [jw hn (by omega)];exact ht c
   . show Zo K W a b (a.length:Int)
     unfold Zo
     rw [qG,cond_false];exact ht
 . rw [decide_eq_false e,Bool.not_false,cond_true]
   have:decide (a=b)=false:=decide_eq_false fun c=>e (by rw [c])
   rwa [this] at h
def sp110:Sp:=⟨S110,L110,fun g=>Yk g.1.length,fun g=> .bool (decide (g.1=g.2.1)),fun _=>none⟩
theorem sp110_ok:sp110.Ok Tryz.prog 110 true:=
 ⟨fun g K X hp h=>F110_ok g K X (F110_is hp h),fun _ _ _=>rfl,fun _=>rfl,by first | exact fun _ _=>⟨rfl,rfl⟩ | (intro h;cases h)⟩
theorem F34_is {l:List ByteArray} {K:Kn} (hl:sumP l) (h:K (.bool (JB l)) []):F34 (l,()) K:=by
 unfold sumP at hl
 rw [sum_bk] at hl
 unfold F34
 refine qX.countTo l.length (fun n=>(l,((((l.take n).map ByteArray.size).sum:Nat):Int),(n:Int),())) (fun _=>True) rfl (fun n hn _ W hW=> ?_) trivial
 show F34_B2 K W l ((((l.take n).map ByteArray.size).sum:Nat):Int) n
 unfold F34_B2
 by_cases hlt:n<l.length
 . rw [zq hlt,cond_true]
   refine zX hlt ?_
   have:=hW hlt trivial
   rw [sum_take hlt] at this
   have h1:=sum_le (l:=l) (n+1)
   rw [sum_take hlt] at h1
   rw [jw hlt (by omega),w64 (by omega)]
   exact_mod_cast this
 . have:n=l.length:=by omega
   subst this
   rw [qG,cond_false,List.take_length]
   unfold JB at h
   have e1:decide (40< (l.length:Int))=decide (40<l.length):=by rw [decide_eq_decide];omega
   have e2:decide (3000< (((l.map ByteArray.size).sum:Nat):Int))=decide (3000< (l.map ByteArray.size).sum):=by rw [decide_eq_decide];omega
   rw [e1,e2]
   cases c:decide (40<l.length)<;>simp only [c,Bool.true_or,Bool.false_or,cond_true,cond_false] at h ⊢ <;>exact h
def sp34:Sp:=⟨S34,L34,fun g=>sumP g.1,fun g=> .bool (JB g.1),fun _=>none⟩
theorem sp34_ok:sp34.Ok Tryz.prog 34 true:=
 ⟨fun g K X hp h=>F34_ok g K X (F34_is hp h),fun _ _ _=>rfl,fun _=>rfl,by first | exact fun _ _=>⟨rfl,rfl⟩ | (intro h;cases h)⟩
theorem F41_is {a b:Int} {K:Kn} (h:K (.int .i64 (JX a b)) []):F41 (a,b,()) K:=by
 unfold F41
 simp only [decide_true,Bool.not_true,cond_false]
 refine ⟨trivial,trivial, ?_⟩
 unfold JX at h
 cases c:decide (a<b)<;>simp only [c,cond_true,cond_false] at h ⊢
 . cases d:decide (b<a)<;>simp only [d,cond_true,cond_false] at h ⊢ <;>exact h
 . exact h
def sp41:Sp:=⟨S41,L41,fun _=>True,fun g=> .int .i64 (JX g.1 g.2.1),fun _=>none⟩
theorem sp41_ok:sp41.Ok Tryz.prog 41 false:=
 ⟨fun g K X _ h=>F41_ok g K X (F41_is h),fun _ _ _=>rfl,fun _=>rfl,by first | exact fun _ _=>⟨rfl,rfl⟩ | (intro h;cases h)⟩
end Go.Proofs.YtbglndogddddoaaGreatDoor
namespace Go.Proofs.YtbglndogddddoaaGreatDoor
open Go.RowKit Go.Lib
theorem J5 {P:Program} [Bd P] {g:G P} {st:St} {w:World} (hg:Good g st w) {full:Bool} {l:List Int} {x:Value} (h:R g (.sl full .u8 l) x):(Extern.Bytes.bytesOf x).run P w= .ok ⟨(bs l).toArray⟩ w:=by
 cases h with
 | sl _ _ _ A c h1 h2 h3 h4=>
  by_cases hl:l=[]
  . subst hl
    cases A with
    | none=>rfl
    | some a=>rfl
  . obtain ⟨b,off,cs,rfl,k2,k3⟩:=h4 hl
    obtain ⟨blk,E,fr,p1,p2⟩:=hg.ro b cs k2
    obtain ⟨he,_⟩:=Xu (e:= .u8) (f:=id) rfl l
    have hrow:=zS.ofR p2 p1 off (l.length*sz .u8) (by rw [k3];exact zW)
    rw [k3,he] at hrow
    have hc: ∀(j:Nat) (y:Int),l[j]? =some y->w.cell? ((⟨b,off,none⟩:Addr).add j)=some (.int .u8 y):=fun j y hj=>by
     obtain ⟨z,y1,_,y3⟩:=hrow j (.int .u8 y) (by simp only [id,List.getElem?_map,hj];rfl)
     cases y3
     rw [Addr.add_lit];exact y1
    have hl:=run_loadBytesX (P:=P) w l ⟨b,off,none⟩ .empty hc
    show (Extern.Bytes.loadBytes ⟨b,off,none⟩ l.length .empty).run P w=_
    rw [hl]
    congr 1
    apply ByteArray.ext
    show (#[]:Array UInt8)++(Lib.bytesOf l).toArray=(bs l).toArray
    rw [Array.empty_append]
    rfl
theorem run_compare {P:Program} {w:World} {x y:Value} {l m:List UInt8} (hx:(Extern.Bytes.bytesOf x).run P w= .ok ⟨l.toArray⟩ w) (hy:(Extern.Bytes.bytesOf y).run P w= .ok ⟨m.toArray⟩ w):
  (Extern.BytealgCompare.compare #[x,y]).run P w= .ok (.int .i64 (compareBytes l m)) w:=by
 change Sem.run P (do pure (goInt (Extern.BytealgCompare.cmp (<- Extern.Bytes.bytesOf x) (<- Extern.Bytes.bytesOf y)))) w=_
 simp only [Sem.run_bind,hx,hy,Sem.run_pure,Result.andThen]
 rw [cmp_eq]
 rfl
set_option maxHeartbeats 1000000 in
set_option maxRecDepth 100000 in
theorem KF {w:World} {x y:Value} {l m:List UInt8} (hx:(Extern.Bytes.bytesOf x).run Tryz.prog w= .ok ⟨l.toArray⟩ w) (hy:(Extern.Bytes.bytesOf y).run Tryz.prog w= .ok ⟨m.toArray⟩ w):
  Calls Tryz.prog 40 #[x,y] w fun e w'=>e= .returned (.int .i64 (compareBytes l m))/\w'=w:=by
 go_enter Tryz.func40,Tryz.ntmps40
 go_wp2
 rw [run_callFunc_extern Tryz.func82 (by kernel_rfl) (by kernel_rfl) (by kernel_rfl) (e:=Extern.BytealgCompare.compare) (by kernel_rfl),run_compare hx hy]
 simp only [Result.andThen]
 rw [Oper.upon_value]
 go_wp2
 go_ret
 exact ⟨rfl,rfl⟩
set_option maxHeartbeats 1000000 in
set_option maxRecDepth 100000 in
theorem idx_calls {w:World} {s:ByteArray} {c:Int}:
  Calls Tryz.prog 208 #[.string s, .int .u8 c] w fun e w'=>e= .returned (.int .i64 (Lib.indexByte s.data.toList c.toNat.toUInt8))/\w'=w:=by
 go_enter Tryz.func208,Tryz.ntmps208
 go_wp2
 rw [run_callFunc_extern Tryz.func227 (by kernel_rfl) (by kernel_rfl) (by kernel_rfl) (e:=Extern.BytealgIndexByte.indexByte) (by kernel_rfl),Lib.run_indexByteString]
 simp only [Result.andThen]
 rw [Oper.upon_value]
 go_wp2
 go_ret
 exact ⟨rfl,rfl⟩
theorem rl_two {P:Program} {g:G P} {u v:T} {args:Array Value} (h:RL g [u,v] args): ∃x y,args= #[x,y]/\R g u x/\R g v y:=by
 have h2:args.size=2:=h.len.symm
 refine ⟨args[0],args[1],Array.ext (by simpa using h2) fun i h1 h3=> ?_,h.val 0 u _ rfl (Array.getElem?_eq_getElem (by omega)),h.val 1 v _ rfl (Array.getElem?_eq_getElem (by omega))⟩
 have:i=0∨i=1:=by simp at h3;omega
 rcases this with rfl | rfl<;>rfl
def cmpBs (l m:List Int):Int:=compareBytes (bs l) (bs m)
def Vx (s:ByteArray) (c:Int):Int:=Lib.indexByte s.data.toList c.toNat.toUInt8
def sp40:Sp:=⟨[.leaf, .leaf],[.sl .u8, .sl .u8],fun _=>True,fun g=> .int .i64 (cmpBs g.1 g.2.1),fun _=>none⟩
theorem sp40_ok:sp40.Ok Tryz.prog 40 true:=
 ⟨by
  rintro ⟨l,m,⟨⟩⟩ K X hp hK g w hg
  refine yL.of (by kernel_rfl) fun args hr=> ?_
  obtain ⟨x,y,rfl,hx,hy⟩:=rl_two hr
  refine (KF (J5 hg hx) (J5 hg hy)).mono ?_
  rintro e w' ⟨rfl,rfl⟩
  exact ⟨g,[],hg,Step.refl,_,hK, .int _ _⟩,fun _ _ _=>rfl,fun _=>rfl,fun _ _=>⟨rfl,rfl⟩⟩
def sp208:Sp:=⟨[.leaf, .leaf],[.str, .int .u8],fun _=>True,fun g=> .int .i64 (Vx g.1 g.2.1),fun _=>none⟩
theorem sp208_ok:sp208.Ok Tryz.prog 208 true:=
 ⟨by
  rintro ⟨s,c,⟨⟩⟩ K X hp hK g w hg
  refine yL.of (by kernel_rfl) fun args hr=> ?_
  obtain ⟨x,y,rfl,hx,hy⟩:=rl_two hr
  cases hx
  cases hy
  refine idx_calls.mono ?_
  rintro e w' ⟨rfl,rfl⟩
  exact ⟨g,[],hg,Step.refl,_,hK, .int _ _⟩,fun _ _ _=>rfl,fun _=>rfl,fun _ _=>⟨rfl,rfl⟩⟩
end Go.Proofs.YtbglndogddddoaaGreatDoor
namespace Go.Proofs.YtbglndogddddoaaGreatDoor
open Go.RowKit
attribute [local irreducible] qW qb
set_option maxRecDepth 100000
def H18:List (Nat×Hint):=[]
def J18:List (Nat×Hint):=[]
abbrev S18:List Sh:=[.leaf, .leaf]
abbrev L18:List Lf:=[.el .dig, .el .dig]
def F18 (g:prodL L18) (K:Kn):Prop:=
 True/\
 K (.int .i64 (cmpBs (xm g.1) (xm g.2.1))) []
theorem F18_eq (g:prodL L18) (K X:Kn):F18 g K=qW D (qJ [] [(40,true,sp40)]) (qv []) H18 J18 8 [.tmp 4] (qq Tryz.f18) (argsT S18 L18 g) [] (settle0 K) X:=by kernel_rfl
theorem F18_ok (g:prodL L18) (K X:Kn) (h:F18 g K):FCalls Tryz.prog 18 (argsT S18 L18 g) [] K X:=
 FCalls.settle0 (qz (Γ:=qJ [] [(40,true,sp40)]) (mu:=qv []) (H:=H18) (J:=J18) qh (qV (rs:=[]) (l:=[(40,true,sp40)]) (fun p hp=>by cases hp) (by intro p hp;simp only [List.mem_cons,List.not_mem_nil,or_false] at hp;subst hp;exact sp40_ok)) qj rfl Tryz.func18 (c:=qq Tryz.f18) rfl Tryz.ntmps18 Tryz.results18 (by unfold qk;rw [Tryz.func18];kernel_rfl) (Nat.le_of_ble_eq_true (by kernel_rfl)) (c0:=0) (Eq.mp (F18_eq g K X) h))
def sp18:Sp:=⟨S18,L18,fun _=>True,fun g=> .int .i64 (jq g.1 g.2.1),fun _=>none⟩
theorem sp18_ok:sp18.Ok Tryz.prog 18 true:=
 ⟨fun g K X hp h=>F18_ok g K X (by
  have h:K (.int .i64 (jq g.1 g.2.1)) []:=h
  exact ⟨trivial,h⟩),fun _ _ _=>rfl,fun _=>rfl,by first | exact fun _ _=>⟨rfl,rfl⟩ | (intro h;cases h)⟩
def H159:List (Nat×Hint):=[]
def J159:List (Nat×Hint):=[]
abbrev S159:List Sh:=[.leaf, .leaf]
abbrev L159:List Lf:=[.str, .int .u8]
def F159 (g:prodL L159) (K:Kn):Prop:=
 True/\
 K (.int .i64 (Vx g.1 g.2.1)) []
theorem F159_eq (g:prodL L159) (K X:Kn):F159 g K=qW D (qJ [] [(208,true,sp208)]) (qv []) H159 J159 8 [.tmp 4] (qq Tryz.f159) (argsT S159 L159 g) [] (settle0 K) X:=by kernel_rfl
theorem F159_ok (g:prodL L159) (K X:Kn) (h:F159 g K):FCalls Tryz.prog 159 (argsT S159 L159 g) [] K X:=
 FCalls.settle0 (qz (Γ:=qJ [] [(208,true,sp208)]) (mu:=qv []) (H:=H159) (J:=J159) qh (qV (rs:=[]) (l:=[(208,true,sp208)]) (fun p hp=>by cases hp) (by intro p hp;simp only [List.mem_cons,List.not_mem_nil,or_false] at hp;subst hp;exact sp208_ok)) qj rfl Tryz.func159 (c:=qq Tryz.f159) rfl Tryz.ntmps159 Tryz.results159 (by unfold qk;rw [Tryz.func159];kernel_rfl) (Nat.le_of_ble_eq_true (by kernel_rfl)) (c0:=0) (Eq.mp (F159_eq g K X) h))
def sp159:Sp:=⟨S159,L159,fun _=>True,fun g=> .int .i64 (Vx g.1 g.2.1),fun _=>none⟩
theorem sp159_ok:sp159.Ok Tryz.prog 159 true:=
 ⟨fun g K X hp h=>F159_ok g K X (by
  have h:K (.int .i64 (Vx g.1 g.2.1)) []:=h
  exact ⟨trivial,h⟩),fun _ _ _=>rfl,fun _=>rfl,by first | exact fun _ _=>⟨rfl,rfl⟩ | (intro h;cases h)⟩
def H17:List (Nat×Hint):=[]
def J17:List (Nat×Hint):=[]
abbrev S17:List Sh:=[.leaf, .leaf]
abbrev L17:List Lf:=[.el .idk, .el .idk]
def F17 (g:prodL L17) (K:Kn):Prop:=
 True/\
 bif !decide (cmpBs (xm g.1.patch) (xm g.2.1.patch)=0)then (
  K (.int .i64 (cmpBs (xm g.1.patch) (xm g.2.1.patch))) [])
 else (
  True/\
 K (.int .i64 (JX g.1.n g.2.1.n)) [])
theorem F17_eq (g:prodL L17) (K X:Kn):F17 g K=qW D (qJ [] [(40,true,sp40),(41,false,sp41)]) (qv []) H17 J17 19 [.tmp 4] (qq Tryz.f17) (argsT S17 L17 g) [] (settle0 K) X:=by kernel_rfl
theorem F17_ok (g:prodL L17) (K X:Kn) (h:F17 g K):FCalls Tryz.prog 17 (argsT S17 L17 g) [] K X:=
 FCalls.settle0 (qz qh (vN (vV sp40_ok (vV sp41_ok vC))) qj rfl Tryz.func17 (c:=qq Tryz.f17) rfl Tryz.ntmps17 Tryz.results17 (by unfold qk;rw [Tryz.func17];kernel_rfl) (Nat.le_of_ble_eq_true (by kernel_rfl)) (c0:=0) (Eq.mp (F17_eq g K X) h))
def sp17:Sp:=⟨S17,L17,fun _=>True,fun g=> .int .i64 (idC g.1 g.2.1),fun _=>none⟩
theorem sp17_ok:sp17.Ok Tryz.prog 17 true:=
 ⟨fun g K X hp h=>F17_ok g K X (by
  have h:K (.int .i64 (idC g.1 g.2.1)) []:=h
  revert h;unfold F17 idC;show (fun v=>K (.int .i64 v) []) _->_
  repeat' (first | exact id | refine xj (K:=fun v=>K (.int .i64 v) []) ?_ ?_ | (intro h;refine ⟨trivial, ?_⟩;revert h))),fun _ _ _=>rfl,fun _=>rfl,by first | exact fun _ _=>⟨rfl,rfl⟩ | (intro h;cases h)⟩
end Go.Proofs.YtbglndogddddoaaGreatDoor
namespace Go.Proofs.YtbglndogddddoaaGreatDoor
open Go.RowKit
def szP (s:ByteArray):Prop:=s.size<=2147483648
theorem getB {s:ByteArray} {n:Nat} (h:n<s.size):s.data.toList[n]? =some (s.data[n]'h):=by
 rw [List.getElem?_eq_getElem (by simpa using h)];simp
theorem StrAt_get {s:ByteArray} {n:Nat} {K:Int->Prop} (h:n<s.size) (hK:K ((s.data[n]'h).toNat:Int)):JR s (n:Int) K:=
 ⟨Int.natCast_nonneg _,s.data[n]'h,getElem?_pos s n h,hK⟩
theorem all_bytes (s:ByteArray) (q:UInt8->Bool):s.data.toList.all q=decide (∀n,n<s.size->(s.data.toList[n]?).all q=true):=by
 rw [dec_allO];rfl
theorem F115_is {s:ByteArray} {K:Kn} (hs:szP s) (h:K (.bool (kK s)) []):F115 (s,()) K:=by
 unfold szP at hs
 unfold kK at h
 rw [all_bytes] at h
 unfold F115
 refine qX.all s.size (fun n=>(s,(s.size:Int),(n:Int),())) (fun n=>(s.data.toList[n]?).all chrB) (fun r=>K (.bool (r&&restN s)) []) h rfl (fun W n hn ht hf=> ?_) fun ht W=> ?_
 . show ZV K W s (s.size:Int) n
   unfold ZV
   rw [zq hn,cond_true]
   refine StrAt_get hn ?_
   simp only [getB hn,Option.all_some] at ht hf
   rw [Bool.false_and] at hf
   generalize s.data[n]'hn=c at ht hf ⊢
   have e1:chrB c=true->qo K W s s.size n false:=fun e=>by unfold qo;rw [cond_false,jw hn (by omega)];exact ht e
   have e2:chrB c=false->qo K W s s.size n true:=fun e=>by unfold qo;rw [cond_true];exact hf e
   simp only [Bool.cond_eq_ite,decide_eq_true_eq,Bool.not_eq_true',decide_eq_false_iff_not]
   (repeat' split)<;>first
    | exact e1 (decide_eq_true (by omega))
    | exact e2 (decide_eq_false (by omega))
    | (by_cases d:((c.toNat:Nat):Int)=45<;>simp only [d,decide_true,decide_false,Bool.not_true,Bool.not_false]<;>first | exact e1 (decide_eq_true (by omega)) | exact e2 (decide_eq_false (by omega)))
 . show ZV K W s (s.size:Int) (s.size:Int)
   unfold ZV
   rw [qG,cond_false]
   rw [Bool.true_and] at ht
   revert ht
   unfold restN
   repeat' (first | exact id | refine xj (K:=fun v=>K (.bool v) []) ?_ ?_)
def sp115:Sp:=⟨S115,L115,fun g=>szP g.1,fun g=> .bool (kK g.1),fun _=>none⟩
theorem sp115_ok:sp115.Ok Tryz.prog 115 true:=
 ⟨fun g K X hp h=>F115_ok g K X (F115_is hp h),fun _ _ _=>rfl,fun _=>rfl,fun _ _=>⟨rfl,rfl⟩⟩
end Go.Proofs.YtbglndogddddoaaGreatDoor
namespace Go.Proofs.YtbglndogddddoaaGreatDoor
open Go.RowKit
attribute [local irreducible] qW qb
set_option maxRecDepth 100000
def H117:List (Nat×Hint):=[]
def J117:List (Nat×Hint):=[]
abbrev S117:List Sh:=[.leaf]
abbrev L117:List Lf:=[.str]
def F117 (g:prodL L117) (K:Kn):Prop:=
 bif decide ((g.1.size:Int)<=1000)then (
  True/\
  bif decide (Vx g.1 10<0)then (
   True/\
   K (.bool (decide (Vx g.1 0<0))) [])
  else (
   K (.bool false) []))
 else (
  K (.bool false) [])
theorem F117_eq (g:prodL L117) (K X:Kn):F117 g K=qW D (qJ [] [(159,true,sp159)]) (qv []) H117 J117 16 [.tmp 2] (qq Tryz.f117) (argsT S117 L117 g) [] (settle0 K) X:=by kernel_rfl
theorem F117_ok (g:prodL L117) (K X:Kn) (h:F117 g K):FCalls Tryz.prog 117 (argsT S117 L117 g) [] K X:=
 FCalls.settle0 (qz (Γ:=qJ [] [(159,true,sp159)]) (mu:=qv []) (H:=H117) (J:=J117) qh (qV (rs:=[]) (l:=[(159,true,sp159)]) (fun p hp=>by cases hp) (by intro p hp;simp only [List.mem_cons,List.not_mem_nil,or_false] at hp;subst hp;exact sp159_ok)) qj rfl Tryz.func117 (c:=qq Tryz.f117) rfl Tryz.ntmps117 Tryz.results117 (by unfold qk;rw [Tryz.func117];kernel_rfl) (Nat.le_of_ble_eq_true (by kernel_rfl)) (c0:=0) (Eq.mp (F117_eq g K X) h))
def H207:List (Nat×Hint):=[(2,⟨[],[(0, .leaf),(1, .leaf),(7, .leaf),(8, .leaf)],[],[.sl .i64, .int .i64, .int .i64, .int .i64]⟩)]
def J207:List (Nat×Hint):=[]
abbrev S207:List Sh:=[.leaf, .leaf]
abbrev L207:List Lf:=[.sl .i64, .int .i64]
def F207_B2 (K:Kn) (W2:prodL [.sl .i64, .int .i64, .int .i64, .int .i64]->Prop) (s_1:List Int) (v_1 t_1 t2_1:Int):Prop:=
 bif decide (t2_1<t_1)then (
  At s_1 t2_1 fun u3=>
 bif decide (v_1=u3)then (
  K (.int .i64 t2_1) [])
 else (
  W2 (s_1,v_1,t_1,IntKind.i64.wrap (t2_1+1),())))
 else (
  K (.int .i64 (-1)) [])
def F207_L2 (K:Kn) (g:prodL [.sl .i64, .int .i64, .int .i64, .int .i64]):Prop:=
 qX (γ:=prodL [.sl .i64, .int .i64, .int .i64, .int .i64]) (fun V y=>F207_B2 K V y.1 y.2.1 y.2.2.1 y.2.2.2.1) g
def F207 (g:prodL L207) (K:Kn):Prop:=
 F207_L2 K (g.1,g.2.1,(g.1.length:Int),0,())
theorem F207_eq (g:prodL L207) (K X:Kn):F207 g K=qW D (qJ [] []) (qv []) H207 J207 19 [.tmp 4] (qq Tryz.f207) (argsT S207 L207 g) [] (settle0 K) X:=by kernel_rfl
theorem F207_ok (g:prodL L207) (K X:Kn) (h:F207 g K):FCalls Tryz.prog 207 (argsT S207 L207 g) [] K X:=
 FCalls.settle0 (qz qh (vN vC) qj rfl Tryz.func207 (c:=qq Tryz.f207) rfl Tryz.ntmps207 Tryz.results207 (by unfold qk;rw [Tryz.func207];kernel_rfl) (Nat.le_of_ble_eq_true (by kernel_rfl)) (c0:=0) (Eq.mp (F207_eq g K X) h))
end Go.Proofs.YtbglndogddddoaaGreatDoor
namespace Go.Proofs.YtbglndogddddoaaGreatDoor
open Go.RowKit
theorem idx_neg: ∀(l:List UInt8) (c:UInt8),decide (Lib.indexByte l c<0)=l.all fun x=> !(x==c)
 | [],c=>rfl
 | b::l,c=>by
  have ih:=idx_neg l c
  unfold Lib.indexByte
  cases e:b==c
  . simp only [Bool.false_eq_true,if_false,List.all_cons,e,Bool.not_false,Bool.true_and]
    rw [<- ih]
    have hg:=Lib.indexByte_ge l c
    by_cases h:Lib.indexByte l c= -1
    . rw [h];rfl
    . have:(Lib.indexByte l c== -1)=false:=by simpa using h
      rw [this,decide_eq_decide]
      simp only [Bool.false_eq_true,if_false]
      omega
  . simp [e]
theorem lineB_eq (s:ByteArray):XQ s=bif decide ((s.size:Int)<=1000)then (bif decide (Vx s 10<0)then decide (Vx s 0<0)else false)else false:=by
 unfold XQ
 have:cleanB s 10 0=bif decide (Vx s 10<0)then decide (Vx s 0<0)else false:=by
  unfold cleanB Vx
  rw [idx_neg,idx_neg]
  have e1: ∀x:UInt8,decide ((x.toNat:Int)=10)=(x==(10:Int).toNat.toUInt8):=fun x=>by
   rw [Bool.eq_iff_iff,decide_eq_true_eq,beq_iff_eq, <- UInt8.toNat_inj]
   show _↔x.toNat=10
   omega
  have e2: ∀x:UInt8,decide ((x.toNat:Int)=0)=(x==(0:Int).toNat.toUInt8):=fun x=>by
   rw [Bool.eq_iff_iff,decide_eq_true_eq,beq_iff_eq, <- UInt8.toNat_inj]
   show _↔x.toNat=0
   omega
  simp only [e1,e2,Bool.not_or]
  induction s.data.toList with
  | nil=>rfl
  | cons a l ih=>
   simp only [List.all_cons,ih]
   cases a==(10:Int).toNat.toUInt8<;>cases a==(0:Int).toNat.toUInt8<;>simp
 rw [this]
def sp117:Sp:=⟨S117,L117,fun _=>True,fun g=> .bool (XQ g.1),fun _=>none⟩
theorem sp117_ok:sp117.Ok Tryz.prog 117 true:=
 ⟨fun g K X _ h=>F117_ok g K X (by
  have h:K (.bool (XQ g.1)) []:=h
  rw [lineB_eq] at h
  revert h
  unfold F117
  exact xj (K:=fun v=>K (.bool v) []) (fun h=>⟨trivial,xj (K:=fun v=>K (.bool v) []) (fun h=>⟨trivial,h⟩) id h⟩) id),fun _ _ _=>rfl,fun _=>rfl,fun _ _=>⟨rfl,rfl⟩⟩
theorem F207_is {l:List Int} {n:Int} {K:Kn} (hl:Yk l.length) (h:K (.int .i64 (wK l n)) []):F207 (l,n,()) K:=by
 unfold Yk at hl
 unfold F207
 have key: ∀(m:Nat),m<=l.length->(∀j,j<m->l[j]? ≠some n)->(K (.int .i64 (wK l n)) [])->wK l n=(if wK (l.drop m) n<0 then -1 else wK (l.drop m) n+m):=by
  intro m hm hj _
  induction m with
  | zero=>
   rw [List.drop_zero]
   have:=idxI_ge l n
   split<;>omega
  | succ m ih=>
   have e:=ih (by omega) fun j hj'=>hj j (by omega)
   have hlt:m<l.length:=by omega
   rw [List.drop_eq_getElem_cons hlt,wK] at e
   have: ¬n=l[m]:=fun q=>hj m (by omega) (by rw [List.getElem?_eq_getElem hlt,q])
   rw [decide_eq_false this,cond_false] at e
   have:=idxI_ge (l.drop (m+1)) n
   cases c:decide (wK (l.drop (m+1)) n<0)<;>simp only [c,cond_true,cond_false] at e
   . have c:=of_decide_eq_false c
     rw [if_neg c];rw [if_neg (by omega)] at e;omega
   . have c:=of_decide_eq_true c
     rw [if_pos c];simpa using e
 refine qX.countTo l.length (fun m=>(l,n,(l.length:Int),(m:Int),())) (fun m=> ∀j,j<m->l[j]? ≠some n) rfl (fun m hm hj W hW=> ?_) (by omega)
 show F207_B2 K W l n l.length m
 unfold F207_B2
 have e:=key m hm hj h
 by_cases hlt:m<l.length
 . rw [zq hlt,cond_true]
   refine zX hlt ?_
   by_cases q:n=l[m]
   . rw [decide_eq_true q,cond_true]
     rw [List.drop_eq_getElem_cons hlt,wK,decide_eq_true q,cond_true] at e
     rw [e] at h
     simpa using h
   . rw [decide_eq_false q,cond_false,jw hlt (by omega)]
     refine hW hlt fun j hj'=> ?_
     by_cases c:j=m
     . subst c;rw [List.getElem?_eq_getElem hlt];simpa using fun c=>q c.symm
     . exact hj j (by omega)
 . have:m=l.length:=by omega
   subst this
   rw [qG,cond_false]
   rw [List.drop_length,wK] at e
   rw [e] at h
   simpa using h
def sp207:Sp:=⟨S207,L207,fun g=>Yk g.1.length,fun g=> .int .i64 (wK g.1 g.2.1),fun _=>none⟩
theorem sp207_ok:sp207.Ok Tryz.prog 207 true:=
 ⟨fun g K X hp h=>F207_ok g K X (F207_is hp h),fun _ _ _=>rfl,fun _=>rfl,fun _ _=>⟨rfl,rfl⟩⟩
end Go.Proofs.YtbglndogddddoaaGreatDoor
namespace Go.Proofs.YtbglndogddddoaaGreatDoor
open Go.RowKit
attribute [local irreducible] qW qb
set_option maxRecDepth 100000
def H158:List (Nat×Hint):=[]
def J158:List (Nat×Hint):=[]
abbrev S158:List Sh:=[.leaf, .leaf]
abbrev L158:List Lf:=[.sl .i64, .int .i64]
def F158 (g:prodL L158) (K:Kn):Prop:=
 sp207.pre (g.1,g.2.1,())/\
 K (.bool (decide (0<=wK g.1 g.2.1))) []
theorem F158_eq (g:prodL L158) (K X:Kn):F158 g K=qW D (qJ [] [(207,true,sp207)]) (qv []) H158 J158 9 [.tmp 4] (qq Tryz.f158) (argsT S158 L158 g) [] (settle0 K) X:=by kernel_rfl
theorem F158_ok (g:prodL L158) (K X:Kn) (h:F158 g K):FCalls Tryz.prog 158 (argsT S158 L158 g) [] K X:=
 FCalls.settle0 (qz (Γ:=qJ [] [(207,true,sp207)]) (mu:=qv []) (H:=H158) (J:=J158) qh (qV (rs:=[]) (l:=[(207,true,sp207)]) (fun p hp=>by cases hp) (by intro p hp;simp only [List.mem_cons,List.not_mem_nil,or_false] at hp;subst hp;exact sp207_ok)) qj rfl Tryz.func158 (c:=qq Tryz.f158) rfl Tryz.ntmps158 Tryz.results158 (by unfold qk;rw [Tryz.func158];kernel_rfl) (Nat.le_of_ble_eq_true (by kernel_rfl)) (c0:=0) (Eq.mp (F158_eq g K X) h))
def sp158:Sp:=⟨S158,L158,fun g=>Yk g.1.length,fun g=> .bool (decide (0<=wK g.1 g.2.1)),fun _=>none⟩
theorem sp158_ok:sp158.Ok Tryz.prog 158 true:=
 ⟨fun g K X hp h=>F158_ok g K X (by
  have h:K (.bool (decide (0<=wK g.1 g.2.1))) []:=h
  exact ⟨hp,h⟩),fun _ _ _=>rfl,fun _=>rfl,by first | exact fun _ _=>⟨rfl,rfl⟩ | (intro h;cases h)⟩
def H157:List (Nat×Hint):=[]
def J157:List (Nat×Hint):=[]
abbrev S157:List Sh:=[.leaf, .leaf]
abbrev L157:List Lf:=[.sl .i64, .pr .i64]
def F157 (g:prodL L157) (K:Kn):Prop:=
 sp158.pre (g.1,g.2.1,())/\
 K (.bool (decide (0<=wK g.1 g.2.1))) []
theorem F157_eq (g:prodL L157) (K X:Kn):F157 g K=qW D (qJ [] [(158,true,sp158)]) (qv []) H157 J157 7 [.tmp 3] (qq Tryz.f157) (argsT S157 L157 g) [] (settle0 K) X:=by kernel_rfl
theorem F157_ok (g:prodL L157) (K X:Kn) (h:F157 g K):FCalls Tryz.prog 157 (argsT S157 L157 g) [] K X:=
 FCalls.settle0 (qz (Γ:=qJ [] [(158,true,sp158)]) (mu:=qv []) (H:=H157) (J:=J157) qh (qV (rs:=[]) (l:=[(158,true,sp158)]) (fun p hp=>by cases hp) (by intro p hp;simp only [List.mem_cons,List.not_mem_nil,or_false] at hp;subst hp;exact sp158_ok)) qj rfl Tryz.func157 (c:=qq Tryz.f157) rfl Tryz.ntmps157 Tryz.results157 (by unfold qk;rw [Tryz.func157];kernel_rfl) (Nat.le_of_ble_eq_true (by kernel_rfl)) (c0:=0) (Eq.mp (F157_eq g K X) h))
def qe:Sp:=⟨S157,L157,fun g=>Yk g.1.length,fun g=> .bool (decide (0<=wK g.1 g.2.1)),fun _=>none⟩
theorem vF:qe.Ok Tryz.prog 157 true:=
 ⟨fun g K X hp h=>F157_ok g K X (by
  have h:K (.bool (decide (0<=wK g.1 g.2.1))) []:=h
  exact ⟨hp,h⟩),fun _ _ _=>rfl,fun _=>rfl,by first | exact fun _ _=>⟨rfl,rfl⟩ | (intro h;cases h)⟩
set_option maxRecDepth 100000
def H116k1:List (Nat×Hint):=[]
def J116k1:List (Nat×Hint):=[]
abbrev S116k1:List Sh:=[.leaf]
abbrev yR:List Lf:=[.el .chg]
def kv116k1 (g:prodL yR):prodL yR:=(⟨1,g.1.file,g.1.typ,g.1.parent,g.1.name,g.1.mode,g.1.data,g.1.after,g.1.before,g.1.lines,g.1.over⟩,g.2)
def F116k1 (g:prodL yR) (K:Kn):Prop:=
 qe.pre ([1],1,())/\
 qe.pre ([2,3,4,5,6],1,())/\
 bif zw g.1.file iz then (
  qe.pre ([2],1,())/\
  bif zw g.1.parent iz then (
   bif decide (g.1.name=(⟨#[]⟩:ByteArray))then (
    qe.pre ([3],1,())/\
    bif decide (g.1.mode=0)then (
     qe.pre ([4],1,())/\
     bif decide (g.1.data=(⟨#[]⟩:ByteArray))then (
      qe.pre ([5,6],1,())/\
      bif zw g.1.after iz then (
       bif zw g.1.before iz then (
        qe.pre ([5],1,())/\
        bif decide ((g.1.lines.length:Int)=0)then (
         qe.pre ([2,3,4,6,7],1,())/\
         K (.bool (decide ((g.1.over.length:Int)=0))) [])
        else (
         K (.bool false) []))
       else (
        K (.bool false) []))
      else (
       K (.bool false) []))
     else (
      K (.bool false) []))
    else (
     K (.bool false) []))
   else (
    K (.bool false) []))
  else (
   K (.bool false) []))
 else (
  K (.bool false) [])
theorem F116k1_eq (g:prodL yR) (K X:Kn):F116k1 g K=qW D (qJ [] [(157,true,qe)]) (qv []) H116k1 J116k1 104 [.tmp 2] (qq Tryz.f116) (argsT S116k1 yR (kv116k1 g)) [] (settle0 K) X:=by kernel_rfl
theorem F116k1_ok (g:prodL yR) (K X:Kn) (h:F116k1 g K):FCalls Tryz.prog 116 (argsT S116k1 yR (kv116k1 g)) [] K X:=
 FCalls.settle0 (qz (Γ:=qJ [] [(157,true,qe)]) (mu:=qv []) (H:=H116k1) (J:=J116k1) qh (qV (rs:=[]) (l:=[(157,true,qe)]) (fun p hp=>by cases hp) (by intro p hp;simp only [List.mem_cons,List.not_mem_nil,or_false] at hp;subst hp;exact vF)) qj rfl Tryz.func116 (c:=qq Tryz.f116) rfl Tryz.ntmps116 Tryz.results116 (by unfold qk;rw [Tryz.func116];kernel_rfl) (Nat.le_of_ble_eq_true (by kernel_rfl)) (c0:=0) (Eq.mp (F116k1_eq g K X) h))
def H116k2:List (Nat×Hint):=[]
def J116k2:List (Nat×Hint):=[]
abbrev S116k2:List Sh:=[.leaf]
abbrev Q1:List Lf:=[.el .chg]
def kv116k2 (g:prodL Q1):prodL Q1:=(⟨2,g.1.file,g.1.typ,g.1.parent,g.1.name,g.1.mode,g.1.data,g.1.after,g.1.before,g.1.lines,g.1.over⟩,g.2)
def F116k2 (g:prodL Q1) (K:Kn):Prop:=
 qe.pre ([1],2,())/\
 bif decide (g.1.typ=0)then (
  qe.pre ([2,3,4,5,6],2,())/\
  qe.pre ([2],2,())/\
  qe.pre ([3],2,())/\
  bif decide (g.1.mode=0)then (
   qe.pre ([4],2,())/\
   bif decide (g.1.data=(⟨#[]⟩:ByteArray))then (
    qe.pre ([5,6],2,())/\
    bif zw g.1.after iz then (
     bif zw g.1.before iz then (
      qe.pre ([5],2,())/\
      bif decide ((g.1.lines.length:Int)=0)then (
       qe.pre ([2,3,4,6,7],2,())/\
       K (.bool true) [])
      else (
       K (.bool false) []))
     else (
      K (.bool false) []))
    else (
     K (.bool false) []))
   else (
    K (.bool false) []))
  else (
   K (.bool false) []))
 else (
  K (.bool false) [])
theorem F116k2_eq (g:prodL Q1) (K X:Kn):F116k2 g K=qW D (qJ [] [(157,true,qe)]) (qv []) H116k2 J116k2 104 [.tmp 2] (qq Tryz.f116) (argsT S116k2 Q1 (kv116k2 g)) [] (settle0 K) X:=by kernel_rfl
theorem F116k2_ok (g:prodL Q1) (K X:Kn) (h:F116k2 g K):FCalls Tryz.prog 116 (argsT S116k2 Q1 (kv116k2 g)) [] K X:=
 FCalls.settle0 (qz (Γ:=qJ [] [(157,true,qe)]) (mu:=qv []) (H:=H116k2) (J:=J116k2) qh (qV (rs:=[]) (l:=[(157,true,qe)]) (fun p hp=>by cases hp) (by intro p hp;simp only [List.mem_cons,List.not_mem_nil,or_false] at hp;subst hp;exact vF)) qj rfl Tryz.func116 (c:=qq Tryz.f116) rfl Tryz.ntmps116 Tryz.results116 (by unfold qk;rw [Tryz.func116];kernel_rfl) (Nat.le_of_ble_eq_true (by kernel_rfl)) (c0:=0) (Eq.mp (F116k2_eq g K X) h))
def H116k3:List (Nat×Hint):=[]
def J116k3:List (Nat×Hint):=[]
abbrev S116k3:List Sh:=[.leaf]
abbrev QD:List Lf:=[.el .chg]
def kv116k3 (g:prodL QD):prodL QD:=(⟨3,g.1.file,g.1.typ,g.1.parent,g.1.name,g.1.mode,g.1.data,g.1.after,g.1.before,g.1.lines,g.1.over⟩,g.2)
def F116k3 (g:prodL QD) (K:Kn):Prop:=
 qe.pre ([1],3,())/\
 bif decide (g.1.typ=0)then (
  qe.pre ([2,3,4,5,6],3,())/\
  qe.pre ([2],3,())/\
  bif zw g.1.parent iz then (
   bif decide (g.1.name=(⟨#[]⟩:ByteArray))then (
    qe.pre ([3],3,())/\
    qe.pre ([4],3,())/\
    bif decide (g.1.data=(⟨#[]⟩:ByteArray))then (
     qe.pre ([5,6],3,())/\
     bif zw g.1.after iz then (
      bif zw g.1.before iz then (
       qe.pre ([5],3,())/\
       bif decide ((g.1.lines.length:Int)=0)then (
        qe.pre ([2,3,4,6,7],3,())/\
        K (.bool true) [])
       else (
        K (.bool false) []))
      else (
       K (.bool false) []))
     else (
      K (.bool false) []))
    else (
     K (.bool false) []))
   else (
    K (.bool false) []))
  else (
   K (.bool false) []))
 else (
  K (.bool false) [])
theorem F116k3_eq (g:prodL QD) (K X:Kn):F116k3 g K=qW D (qJ [] [(157,true,qe)]) (qv []) H116k3 J116k3 104 [.tmp 2] (qq Tryz.f116) (argsT S116k3 QD (kv116k3 g)) [] (settle0 K) X:=by kernel_rfl
theorem F116k3_ok (g:prodL QD) (K X:Kn) (h:F116k3 g K):FCalls Tryz.prog 116 (argsT S116k3 QD (kv116k3 g)) [] K X:=
 FCalls.settle0 (qz (Γ:=qJ [] [(157,true,qe)]) (mu:=qv []) (H:=H116k3) (J:=J116k3) qh (qV (rs:=[]) (l:=[(157,true,qe)]) (fun p hp=>by cases hp) (by intro p hp;simp only [List.mem_cons,List.not_mem_nil,or_false] at hp;subst hp;exact vF)) qj rfl Tryz.func116 (c:=qq Tryz.f116) rfl Tryz.ntmps116 Tryz.results116 (by unfold qk;rw [Tryz.func116];kernel_rfl) (Nat.le_of_ble_eq_true (by kernel_rfl)) (c0:=0) (Eq.mp (F116k3_eq g K X) h))
def H116k4:List (Nat×Hint):=[]
def J116k4:List (Nat×Hint):=[]
abbrev S116k4:List Sh:=[.leaf]
abbrev Q2:List Lf:=[.el .chg]
def kv116k4 (g:prodL Q2):prodL Q2:=(⟨4,g.1.file,g.1.typ,g.1.parent,g.1.name,g.1.mode,g.1.data,g.1.after,g.1.before,g.1.lines,g.1.over⟩,g.2)
def F116k4 (g:prodL Q2) (K:Kn):Prop:=
 qe.pre ([1],4,())/\
 bif decide (g.1.typ=0)then (
  qe.pre ([2,3,4,5,6],4,())/\
  qe.pre ([2],4,())/\
  bif zw g.1.parent iz then (
   bif decide (g.1.name=(⟨#[]⟩:ByteArray))then (
    qe.pre ([3],4,())/\
    bif decide (g.1.mode=0)then (
     qe.pre ([4],4,())/\
     qe.pre ([5,6],4,())/\
     bif zw g.1.after iz then (
      bif zw g.1.before iz then (
       qe.pre ([5],4,())/\
       bif decide ((g.1.lines.length:Int)=0)then (
        qe.pre ([2,3,4,6,7],4,())/\
        K (.bool true) [])
       else (
        K (.bool false) []))
      else (
       K (.bool false) []))
     else (
      K (.bool false) []))
    else (
     K (.bool false) []))
   else (
    K (.bool false) []))
  else (
   K (.bool false) []))
 else (
  K (.bool false) [])
theorem F116k4_eq (g:prodL Q2) (K X:Kn):F116k4 g K=qW D (qJ [] [(157,true,qe)]) (qv []) H116k4 J116k4 104 [.tmp 2] (qq Tryz.f116) (argsT S116k4 Q2 (kv116k4 g)) [] (settle0 K) X:=by kernel_rfl
theorem F116k4_ok (g:prodL Q2) (K X:Kn) (h:F116k4 g K):FCalls Tryz.prog 116 (argsT S116k4 Q2 (kv116k4 g)) [] K X:=
 FCalls.settle0 (qz (Γ:=qJ [] [(157,true,qe)]) (mu:=qv []) (H:=H116k4) (J:=J116k4) qh (qV (rs:=[]) (l:=[(157,true,qe)]) (fun p hp=>by cases hp) (by intro p hp;simp only [List.mem_cons,List.not_mem_nil,or_false] at hp;subst hp;exact vF)) qj rfl Tryz.func116 (c:=qq Tryz.f116) rfl Tryz.ntmps116 Tryz.results116 (by unfold qk;rw [Tryz.func116];kernel_rfl) (Nat.le_of_ble_eq_true (by kernel_rfl)) (c0:=0) (Eq.mp (F116k4_eq g K X) h))
def H116k5:List (Nat×Hint):=[]
def J116k5:List (Nat×Hint):=[]
abbrev S116k5:List Sh:=[.leaf]
abbrev QF:List Lf:=[.el .chg]
def kv116k5 (g:prodL QF):prodL QF:=(⟨5,g.1.file,g.1.typ,g.1.parent,g.1.name,g.1.mode,g.1.data,g.1.after,g.1.before,g.1.lines,g.1.over⟩,g.2)
def F116k5 (g:prodL QF) (K:Kn):Prop:=
 qe.pre ([1],5,())/\
 bif decide (g.1.typ=0)then (
  qe.pre ([2,3,4,5,6],5,())/\
  qe.pre ([2],5,())/\
  bif zw g.1.parent iz then (
   bif decide (g.1.name=(⟨#[]⟩:ByteArray))then (
    qe.pre ([3],5,())/\
    bif decide (g.1.mode=0)then (
     qe.pre ([4],5,())/\
     bif decide (g.1.data=(⟨#[]⟩:ByteArray))then (
      qe.pre ([5,6],5,())/\
      qe.pre ([5],5,())/\
      qe.pre ([2,3,4,6,7],5,())/\
      K (.bool (decide ((g.1.over.length:Int)=0))) [])
     else (
      K (.bool false) []))
    else (
     K (.bool false) []))
   else (
    K (.bool false) []))
  else (
   K (.bool false) []))
 else (
  K (.bool false) [])
theorem F116k5_eq (g:prodL QF) (K X:Kn):F116k5 g K=qW D (qJ [] [(157,true,qe)]) (qv []) H116k5 J116k5 104 [.tmp 2] (qq Tryz.f116) (argsT S116k5 QF (kv116k5 g)) [] (settle0 K) X:=by kernel_rfl
theorem F116k5_ok (g:prodL QF) (K X:Kn) (h:F116k5 g K):FCalls Tryz.prog 116 (argsT S116k5 QF (kv116k5 g)) [] K X:=
 FCalls.settle0 (qz (Γ:=qJ [] [(157,true,qe)]) (mu:=qv []) (H:=H116k5) (J:=J116k5) qh (qV (rs:=[]) (l:=[(157,true,qe)]) (fun p hp=>by cases hp) (by intro p hp;simp only [List.mem_cons,List.not_mem_nil,or_false] at hp;subst hp;exact vF)) qj rfl Tryz.func116 (c:=qq Tryz.f116) rfl Tryz.ntmps116 Tryz.results116 (by unfold qk;rw [Tryz.func116];kernel_rfl) (Nat.le_of_ble_eq_true (by kernel_rfl)) (c0:=0) (Eq.mp (F116k5_eq g K X) h))
def H116k6:List (Nat×Hint):=[]
def J116k6:List (Nat×Hint):=[]
abbrev S116k6:List Sh:=[.leaf]
abbrev QA:List Lf:=[.el .chg]
def kv116k6 (g:prodL QA):prodL QA:=(⟨6,g.1.file,g.1.typ,g.1.parent,g.1.name,g.1.mode,g.1.data,g.1.after,g.1.before,g.1.lines,g.1.over⟩,g.2)
def F116k6 (g:prodL QA) (K:Kn):Prop:=
 qe.pre ([1],6,())/\
 bif decide (g.1.typ=0)then (
  qe.pre ([2,3,4,5,6],6,())/\
  qe.pre ([2],6,())/\
  bif zw g.1.parent iz then (
   bif decide (g.1.name=(⟨#[]⟩:ByteArray))then (
    qe.pre ([3],6,())/\
    bif decide (g.1.mode=0)then (
     qe.pre ([4],6,())/\
     bif decide (g.1.data=(⟨#[]⟩:ByteArray))then (
      qe.pre ([5,6],6,())/\
      qe.pre ([5],6,())/\
      bif decide ((g.1.lines.length:Int)=0)then (
       qe.pre ([2,3,4,6,7],6,())/\
       K (.bool true) [])
      else (
       K (.bool false) []))
     else (
      K (.bool false) []))
    else (
     K (.bool false) []))
   else (
    K (.bool false) []))
  else (
   K (.bool false) []))
 else (
  K (.bool false) [])
theorem F116k6_eq (g:prodL QA) (K X:Kn):F116k6 g K=qW D (qJ [] [(157,true,qe)]) (qv []) H116k6 J116k6 104 [.tmp 2] (qq Tryz.f116) (argsT S116k6 QA (kv116k6 g)) [] (settle0 K) X:=by kernel_rfl
theorem F116k6_ok (g:prodL QA) (K X:Kn) (h:F116k6 g K):FCalls Tryz.prog 116 (argsT S116k6 QA (kv116k6 g)) [] K X:=
 FCalls.settle0 (qz (Γ:=qJ [] [(157,true,qe)]) (mu:=qv []) (H:=H116k6) (J:=J116k6) qh (qV (rs:=[]) (l:=[(157,true,qe)]) (fun p hp=>by cases hp) (by intro p hp;simp only [List.mem_cons,List.not_mem_nil,or_false] at hp;subst hp;exact vF)) qj rfl Tryz.func116 (c:=qq Tryz.f116) rfl Tryz.ntmps116 Tryz.results116 (by unfold qk;rw [Tryz.func116];kernel_rfl) (Nat.le_of_ble_eq_true (by kernel_rfl)) (c0:=0) (Eq.mp (F116k6_eq g K X) h))
def H116k7:List (Nat×Hint):=[]
def J116k7:List (Nat×Hint):=[]
abbrev S116k7:List Sh:=[.leaf]
abbrev QS:List Lf:=[.el .chg]
def kv116k7 (g:prodL QS):prodL QS:=(⟨7,g.1.file,g.1.typ,g.1.parent,g.1.name,g.1.mode,g.1.data,g.1.after,g.1.before,g.1.lines,g.1.over⟩,g.2)
def qqx (g:prodL QS) (K:Kn):Prop:=
 qe.pre ([1],7,())/\
 bif decide (g.1.typ=0)then (
  qe.pre ([2,3,4,5,6],7,())/\
  bif zw g.1.file iz then (
   qe.pre ([2],7,())/\
   bif zw g.1.parent iz then (
    bif decide (g.1.name=(⟨#[]⟩:ByteArray))then (
     qe.pre ([3],7,())/\
     bif decide (g.1.mode=0)then (
      qe.pre ([4],7,())/\
      bif decide (g.1.data=(⟨#[]⟩:ByteArray))then (
       qe.pre ([5,6],7,())/\
       bif zw g.1.after iz then (
        bif zw g.1.before iz then (
         qe.pre ([5],7,())/\
         bif decide ((g.1.lines.length:Int)=0)then (
          qe.pre ([2,3,4,6,7],7,())/\
          K (.bool true) [])
         else (
          K (.bool false) []))
        else (
         K (.bool false) []))
       else (
        K (.bool false) []))
      else (
       K (.bool false) []))
     else (
      K (.bool false) []))
    else (
     K (.bool false) []))
   else (
    K (.bool false) []))
  else (
   K (.bool false) []))
 else (
  K (.bool false) [])
theorem F116k7_eq (g:prodL QS) (K X:Kn):qqx g K=qW D (qJ [] [(157,true,qe)]) (qv []) H116k7 J116k7 104 [.tmp 2] (qq Tryz.f116) (argsT S116k7 QS (kv116k7 g)) [] (settle0 K) X:=by kernel_rfl
theorem F116k7_ok (g:prodL QS) (K X:Kn) (h:qqx g K):FCalls Tryz.prog 116 (argsT S116k7 QS (kv116k7 g)) [] K X:=
 FCalls.settle0 (qz (Γ:=qJ [] [(157,true,qe)]) (mu:=qv []) (H:=H116k7) (J:=J116k7) qh (qV (rs:=[]) (l:=[(157,true,qe)]) (fun p hp=>by cases hp) (by intro p hp;simp only [List.mem_cons,List.not_mem_nil,or_false] at hp;subst hp;exact vF)) qj rfl Tryz.func116 (c:=qq Tryz.f116) rfl Tryz.ntmps116 Tryz.results116 (by unfold qk;rw [Tryz.func116];kernel_rfl) (Nat.le_of_ble_eq_true (by kernel_rfl)) (c0:=0) (Eq.mp (F116k7_eq g K X) h))
end Go.Proofs.YtbglndogddddoaaGreatDoor
namespace Go.Proofs.YtbglndogddddoaaGreatDoor
open Go.RowKit
abbrev KI (K:Kn):Int->Prop:=fun v=>K (.int .i64 v) []
abbrev KBo (K:Kn):Bool->Prop:=fun v=>K (.bool v) []
theorem QM {α β:Type} {J:β->Prop} {f:β->α} {K:α->Prop} (hJ: ∀t,K (f t)->J t) {c:Bool} {a b:β} (h:K (f (bif c then a else b))):bif c then J a else J b:=by
 cases c
 . exact hJ _ h
 . exact hJ _ h
def VX (c:Chg):Bool:=bif zw c.file iz then (bif decide (c.typ=0)then (bif zw c.parent iz then (bif decide (c.name=(⟨#[]⟩:ByteArray))then (bif decide (c.mode=0)then (bif decide (c.data=(⟨#[]⟩:ByteArray))then
 (bif zw c.after iz then (bif zw c.before iz then (bif decide ((c.lines.length:Int)=0)then decide ((c.over.length:Int)=0)else false)else false)else false)else false)else false)else false)else false)else false)else false
def rC9 (c:Chg):Chg:=bif decide (c.kind=1)then ⟨c.kind,c.file,0,c.parent,c.name,c.mode,c.data,c.after,c.before,c.lines,c.over⟩
 else bif decide (c.kind=2)then ⟨c.kind,c.file,c.typ,iz,⟨#[]⟩,c.mode,c.data,c.after,c.before,c.lines,c.over⟩
 else bif decide (c.kind=3)then ⟨c.kind,c.file,c.typ,c.parent,c.name,0,c.data,c.after,c.before,c.lines,c.over⟩
 else bif decide (c.kind=4)then ⟨c.kind,c.file,c.typ,c.parent,c.name,c.mode,⟨#[]⟩,c.after,c.before,c.lines,c.over⟩
 else bif decide (c.kind=5)then ⟨c.kind,c.file,c.typ,c.parent,c.name,c.mode,c.data,iz,iz,[],c.over⟩
 else bif decide (c.kind=6)then ⟨c.kind,c.file,c.typ,c.parent,c.name,c.mode,c.data,iz,iz,c.lines,c.over⟩else c
def rC5 (t:Bool) (c:Chg):Chg:=bif t then rC9 ⟨c.kind,c.file,c.typ,c.parent,c.name,c.mode,c.data,c.after,c.before,c.lines,[]⟩else rC9 c
def rC10 (c:Chg):Chg:=rC5 (bif !decide (c.kind=1)then !decide (c.kind=5)else false) c
def rC2 (t:Bool) (c:Chg):Chg:=bif t then rC10 ⟨c.kind,iz,c.typ,c.parent,c.name,c.mode,c.data,c.after,c.before,c.lines,c.over⟩else rC10 c
def Zm (c:Chg):Chg:=rC2 (bif decide (2<=c.kind)then decide (c.kind<=6)else false) c
def wY (c:Chg):Bool:=bif decide (c.typ=0)then (bif zw c.file iz then (bif zw c.parent iz then (bif decide (c.name=(⟨#[]⟩:ByteArray))then (bif decide (c.mode=0)then (bif decide (c.data=(⟨#[]⟩:ByteArray))then
 (bif zw c.after iz then (bif zw c.before iz then (bif decide ((c.lines.length:Int)=0)then decide ((c.over.length:Int)=0)else false)else false)else false)else false)else false)else false)else false)else false)else false
theorem emptyT_eq (c:Chg):wY c=VX c:=by
 unfold wY VX
 cases decide (c.typ=0)<;>cases zw c.file iz<;>rfl
def zO (c:Chg):Bool:=wY (Zm c)
def j8 (c:Chg):Prop:=1<=c.kind/\c.kind<=7
theorem Vk:zw iz iz=true:=by rw [vZ];exact decide_eq_true rfl
theorem F116k1_is {file:Idn} {typ:Int} {parent:Idn} {name:ByteArray} {mode:Int} {data:ByteArray} {after before:Idn} {lines:List ByteArray} {over:List Idn} {K:Kn} (h:K (.bool (zO ⟨1,file,typ,parent,name,mode,data,after,before,lines,over⟩)) []):F116k1 (⟨1,file,typ,parent,name,mode,data,after,before,lines,over⟩,()) K:=by
 revert h
 unfold F116k1 zO
 rw [show Zm ⟨1,file,typ,parent,name,mode,data,after,before,lines,over⟩=⟨1,file,0,parent,name,mode,data,after,before,lines,over⟩ from rfl]
 unfold wY
 simp only [Vk,decide_true,List.length_nil,Int.natCast_zero,Int.ofNat_zero,cond_true,cond_false]
 repeat' (first | exact id | (intro h;refine ⟨Nat.le_of_ble_eq_true rfl, ?_⟩;revert h) | refine xj (K:=KBo K) ?_ ?_)
theorem F116k2_is {file:Idn} {typ:Int} {parent:Idn} {name:ByteArray} {mode:Int} {data:ByteArray} {after before:Idn} {lines:List ByteArray} {over:List Idn} {K:Kn} (h:K (.bool (zO ⟨2,file,typ,parent,name,mode,data,after,before,lines,over⟩)) []):F116k2 (⟨2,file,typ,parent,name,mode,data,after,before,lines,over⟩,()) K:=by
 revert h
 unfold F116k2 zO
 rw [show Zm ⟨2,file,typ,parent,name,mode,data,after,before,lines,over⟩=⟨2,iz,typ,iz,⟨#[]⟩,mode,data,after,before,lines,[]⟩ from rfl]
 unfold wY
 simp only [Vk,decide_true,List.length_nil,Int.natCast_zero,Int.ofNat_zero,cond_true,cond_false]
 repeat' (first | exact id | (intro h;refine ⟨Nat.le_of_ble_eq_true rfl, ?_⟩;revert h) | refine xj (K:=KBo K) ?_ ?_)
theorem F116k3_is {file:Idn} {typ:Int} {parent:Idn} {name:ByteArray} {mode:Int} {data:ByteArray} {after before:Idn} {lines:List ByteArray} {over:List Idn} {K:Kn} (h:K (.bool (zO ⟨3,file,typ,parent,name,mode,data,after,before,lines,over⟩)) []):F116k3 (⟨3,file,typ,parent,name,mode,data,after,before,lines,over⟩,()) K:=by
 revert h
 unfold F116k3 zO
 rw [show Zm ⟨3,file,typ,parent,name,mode,data,after,before,lines,over⟩=⟨3,iz,typ,parent,name,0,data,after,before,lines,[]⟩ from rfl]
 unfold wY
 simp only [Vk,decide_true,List.length_nil,Int.natCast_zero,Int.ofNat_zero,cond_true,cond_false]
 repeat' (first | exact id | (intro h;refine ⟨Nat.le_of_ble_eq_true rfl, ?_⟩;revert h) | refine xj (K:=KBo K) ?_ ?_)
theorem F116k4_is {file:Idn} {typ:Int} {parent:Idn} {name:ByteArray} {mode:Int} {data:ByteArray} {after before:Idn} {lines:List ByteArray} {over:List Idn} {K:Kn} (h:K (.bool (zO ⟨4,file,typ,parent,name,mode,data,after,before,lines,over⟩)) []):F116k4 (⟨4,file,typ,parent,name,mode,data,after,before,lines,over⟩,()) K:=by
 revert h
 unfold F116k4 zO
 rw [show Zm ⟨4,file,typ,parent,name,mode,data,after,before,lines,over⟩=⟨4,iz,typ,parent,name,mode,⟨#[]⟩,after,before,lines,[]⟩ from rfl]
 unfold wY
 simp only [Vk,decide_true,List.length_nil,Int.natCast_zero,Int.ofNat_zero,cond_true,cond_false]
 repeat' (first | exact id | (intro h;refine ⟨Nat.le_of_ble_eq_true rfl, ?_⟩;revert h) | refine xj (K:=KBo K) ?_ ?_)
theorem F116k5_is {file:Idn} {typ:Int} {parent:Idn} {name:ByteArray} {mode:Int} {data:ByteArray} {after before:Idn} {lines:List ByteArray} {over:List Idn} {K:Kn} (h:K (.bool (zO ⟨5,file,typ,parent,name,mode,data,after,before,lines,over⟩)) []):F116k5 (⟨5,file,typ,parent,name,mode,data,after,before,lines,over⟩,()) K:=by
 revert h
 unfold F116k5 zO
 rw [show Zm ⟨5,file,typ,parent,name,mode,data,after,before,lines,over⟩=⟨5,iz,typ,parent,name,mode,data,iz,iz,[],over⟩ from rfl]
 unfold wY
 simp only [Vk,decide_true,List.length_nil,Int.natCast_zero,Int.ofNat_zero,cond_true,cond_false]
 repeat' (first | exact id | (intro h;refine ⟨Nat.le_of_ble_eq_true rfl, ?_⟩;revert h) | refine xj (K:=KBo K) ?_ ?_)
theorem F116k6_is {file:Idn} {typ:Int} {parent:Idn} {name:ByteArray} {mode:Int} {data:ByteArray} {after before:Idn} {lines:List ByteArray} {over:List Idn} {K:Kn} (h:K (.bool (zO ⟨6,file,typ,parent,name,mode,data,after,before,lines,over⟩)) []):F116k6 (⟨6,file,typ,parent,name,mode,data,after,before,lines,over⟩,()) K:=by
 revert h
 unfold F116k6 zO
 rw [show Zm ⟨6,file,typ,parent,name,mode,data,after,before,lines,over⟩=⟨6,iz,typ,parent,name,mode,data,iz,iz,lines,[]⟩ from rfl]
 unfold wY
 simp only [Vk,decide_true,List.length_nil,Int.natCast_zero,Int.ofNat_zero,cond_true,cond_false]
 repeat' (first | exact id | (intro h;refine ⟨Nat.le_of_ble_eq_true rfl, ?_⟩;revert h) | refine xj (K:=KBo K) ?_ ?_)
theorem F116k7_is {file:Idn} {typ:Int} {parent:Idn} {name:ByteArray} {mode:Int} {data:ByteArray} {after before:Idn} {lines:List ByteArray} {over:List Idn} {K:Kn} (h:K (.bool (zO ⟨7,file,typ,parent,name,mode,data,after,before,lines,over⟩)) []):qqx (⟨7,file,typ,parent,name,mode,data,after,before,lines,over⟩,()) K:=by
 revert h
 unfold qqx zO
 rw [show Zm ⟨7,file,typ,parent,name,mode,data,after,before,lines,over⟩=⟨7,file,typ,parent,name,mode,data,after,before,lines,[]⟩ from rfl]
 unfold wY
 simp only [Vk,decide_true,List.length_nil,Int.natCast_zero,Int.ofNat_zero,cond_true,cond_false]
 repeat' (first | exact id | (intro h;refine ⟨Nat.le_of_ble_eq_true rfl, ?_⟩;revert h) | refine xj (K:=KBo K) ?_ ?_)
def sp116:Sp:=⟨S116k1,yR,fun g=>j8 g.1,fun g=> .bool (zO g.1),fun _=>none⟩
set_option maxRecDepth 100000 in
theorem sp116_ok:sp116.Ok Tryz.prog 116 true:=
 ⟨fun g K X hp h=>by
  obtain ⟨⟨kind,file,typ,parent,name,mode,data,after,before,lines,over⟩,⟨⟩⟩:=g
  have hk1:(1:Int)<=kind/\kind<=7:=hp
  have:kind=1∨kind=2∨kind=3∨kind=4∨kind=5∨kind=6∨kind=7:=by omega
  rcases this with rfl | rfl | rfl | rfl | rfl | rfl | rfl
  . exact F116k1_ok (⟨1,file,typ,parent,name,mode,data,after,before,lines,over⟩,()) K X (F116k1_is h)
  . exact F116k2_ok (⟨2,file,typ,parent,name,mode,data,after,before,lines,over⟩,()) K X (F116k2_is h)
  . exact F116k3_ok (⟨3,file,typ,parent,name,mode,data,after,before,lines,over⟩,()) K X (F116k3_is h)
  . exact F116k4_ok (⟨4,file,typ,parent,name,mode,data,after,before,lines,over⟩,()) K X (F116k4_is h)
  . exact F116k5_ok (⟨5,file,typ,parent,name,mode,data,after,before,lines,over⟩,()) K X (F116k5_is h)
  . exact F116k6_ok (⟨6,file,typ,parent,name,mode,data,after,before,lines,over⟩,()) K X (F116k6_is h)
  . exact F116k7_ok (⟨7,file,typ,parent,name,mode,data,after,before,lines,over⟩,()) K X (F116k7_is h)
  ,fun _ _ _=>rfl,fun _=>rfl,fun _ _=>⟨rfl,rfl⟩⟩
def az:Atm:=⟨iz,0,iz,0,iz,⟨#[]⟩,0,⟨#[]⟩,⟨#[]⟩,iz,iz,[]⟩
def cz:Chg:=⟨0,iz,0,iz,⟨#[]⟩,0,⟨#[]⟩,iz,iz,[],[]⟩
def errs:List Int->Int
 | []=>0
 | e::l=>bif decide (e=0)then errs l else e
theorem qX.errs {γ:Type} {body:(γ->Prop)->γ->Prop} {g:γ} (l:List Int) (S:Nat->γ) (Q:Int->Prop) (hQ:Q (errs l)) (hg:g=S 0)
  (step: ∀(W:γ->Prop) (n:Nat) (h:n<l.length),(l[n]=0->W (S (n+1)))->(l[n]≠0->Q l[n])->body W (S n)) (last:Q 0-> ∀W:γ->Prop,body W (S l.length)):qX body g:=by
 refine qX.countTo l.length S (fun n=>Q (Go.Proofs.YtbglndogddddoaaGreatDoor.errs (l.drop n))) hg (fun n hn hp W hW=> ?_) (by simpa using hQ)
 by_cases hlt:n<l.length
 . rw [List.drop_eq_getElem_cons hlt,Go.Proofs.YtbglndogddddoaaGreatDoor.errs] at hp
   refine step W n hlt (fun h=> ?_) fun h=> ?_
   . rw [decide_eq_true h,cond_true] at hp
     exact hW hlt hp
   . rw [decide_eq_false h,cond_false] at hp
     exact hp
 . have:n=l.length:=by omega
   subst this
   rw [List.drop_length] at hp
   exact last hp W
def errsN (N:Nat) (f:Nat->Int):Int:=errs ((List.range N).map f)
theorem qX.errsN {γ:Type} {body:(γ->Prop)->γ->Prop} {g:γ} (N:Nat) (f:Nat->Int) (S:Nat->γ) (Q:Int->Prop) (hQ:Q (errsN N f)) (hg:g=S 0)
  (step: ∀(W:γ->Prop) (n:Nat),n<N->(f n=0->W (S (n+1)))->(f n≠0->Q (f n))->body W (S n)) (last:Q 0-> ∀W:γ->Prop,body W (S N)):qX body g:=by
 have hl:((List.range N).map f).length=N:=by simp
 refine qX.errs ((List.range N).map f) S Q hQ hg (fun W n h h1 h2=> ?_) (by rw [hl];exact last)
 simp only [List.getElem_map,List.getElem_range] at h1 h2
 exact step W n (by omega) h1 h2
theorem Y9: ∀{l:List Int},errs l=0↔ ∀e∈l,e=0
 | []=>by simp [errs]
 | e::l=>by
  rw [errs]
  by_cases h:e=0
  . rw [decide_eq_true h,cond_true,Y9]
    simp [h]
  . rw [decide_eq_false h,cond_false]
    simp [h]
def depE (cmp:Dig->Dig->Int) (ds:List Dig) (n:Nat):Int:=match ds[n]? with
 | none=>0
 | some d=>bif xb d dz then 1 else bif decide (0<n)then (match ds[n-1]? with
  | none=>0
  | some c=>bif decide (0<=cmp c d)then 9 else 0)else 0
def depsE (cmp:Dig->Dig->Int) (ds:List Dig):Int:=errsN ds.length (depE cmp ds)
def Vi (cmp:Dig->Dig->Int) (ds:List Dig):Int:=bif decide (100< (ds.length:Int))then 4 else depsE cmp ds
def xF (cmp:Dig->Dig->Int) (a m:ByteArray) (t:Int) (ds:List Dig) (cs:List Chg):Int:=
 bif !(kK a)then 5 else bif decide (1000< (m.size:Int))then 4 else bif (bif decide (t<0)then true else decide (1099511627776<t))then 2 else
 bif !decide (Vi cmp ds=0)then Vi cmp ds else bif decide ((cs.length:Int)=0)then 1 else bif decide (400< (cs.length:Int))then 4 else 0
def overE (cmp:Idn->Idn->Int) (l:List Idn) (n:Nat):Int:=match l[n]?,l[n+1]? with
 | some a,some b=>bif decide (0<=cmp a b)then 9 else 0
 | _,_=>0
def overEs (cmp:Idn->Idn->Int) (l:List Idn):Int:=errsN (l.length-1) (overE cmp l)
def lineE (l:List ByteArray) (n:Nat):Int:=match l[n]? with
 | some s=>bif !(XQ s)then 3 else 0
 | none=>0
def linesEs (l:List ByteArray):Int:=errsN l.length (lineE l)
def fP15 (t:Bool) (c:Chg):Int:=bif t then 1 else bif decide (400< (c.over.length:Int))then 4 else overEs idC c.over
def fP12 (c:Chg):Int:=bif !decide (linesEs c.lines=0)then linesEs c.lines else fP15 (bif decide (c.kind=7)then decide ((c.over.length:Int)=0)else false) c
def fP6 (t:Bool) (c:Chg):Int:=bif t then 1 else bif decide (2000< (c.lines.length:Int))then 4 else fP12 c
def fP7 (t:Bool) (c:Chg):Int:=bif t then 2 else bif decide (65536< (c.data.size:Int))then 4 else fP6 (bif decide (c.kind=5)then decide ((c.lines.length:Int)=0)else false) c
def fP8 (t:Bool) (c:Chg):Int:=bif t then 5 else fP7 (bif decide (c.mode<0)then true else decide (511<c.mode)) c
def fP9 (t:Bool) (c:Chg):Int:=bif t then 8 else fP8 (bif decide (c.kind=2)then !(kK c.name)else false) c
def fP10 (t:Bool) (c:Chg):Int:=bif t then 8 else bif !(zO c)then 1 else fP9 (bif decide (c.kind=1)then (bif decide (c.typ<1)then true else decide (4<c.typ))else false) c
def zM (c:Chg):Int:=fP10 (bif decide (c.kind<1)then true else decide (7<c.kind)) c
def XI (c:Chg):Prop:=qA c<=4194304
theorem ZN {α:Type} (f:α->Nat): ∀{l:List α} {x:α},x∈l->f x<=(l.map f).sum
 | y::l,x,h=>by
  rw [List.map_cons,List.sum_cons]
  rcases List.mem_cons.1 h with rfl | h
  . omega
  . have:=ZN f h;omega
theorem yk {α:Type} (f:α->Nat) (k:Nat): ∀(l:List α),(∀x∈l,k<=f x)->k*l.length<=(l.map f).sum
 | [],_=>by simp
 | y::l,h=>by
  rw [List.map_cons,List.sum_cons,List.length_cons,Nat.mul_succ]
  have:=yk f k l fun x hx=>h x (List.mem_cons_of_mem _ hx)
  have:=h y (List.mem_cons_self ..)
  omega
theorem jf {c:Chg} (h:XI c):c.name.size<=4194304/\c.data.size<=4194304/\c.lines.length<=4194304/\(∀s∈c.lines,s.size<=4194304)/\c.over.length<=4194304:=by
 unfold XI qA at h
 have h1:=yk jY 1 c.lines fun x _=>by unfold jY;omega
 have h2:=yk yt 33 c.over fun x _=>Nat.le_refl _
 refine ⟨by omega,by omega,by omega,fun s hs=> ?_,by omega⟩
 have:=ZN jY hs
 have e:jY s=s.size+1:=rfl
 omega
end Go.Proofs.YtbglndogddddoaaGreatDoor
namespace Go.Proofs.YtbglndogddddoaaGreatDoor
open Go.RowKit
attribute [local irreducible] qW qb
set_option maxRecDepth 100000
def H67:List (Nat×Hint):=[(10,⟨[((1,[]),none)],[(1, .pt 0 0),(31, .leaf),(32, .leaf),(33, .leaf)],[.cells [.leaf, .leaf, .leaf, .leaf, .leaf]],[.sl .dig, .int .i64, .int .i64, .str, .str, .int .i64, .sl .dig, .sl .chg]⟩)]
def J67:List (Nat×Hint):=[(6,⟨[((1,[]),none)],[(1, .pt 0 0),(16, .leaf)],[.cells [.leaf, .leaf, .leaf, .leaf, .leaf]],[.bool, .str, .str, .int .i64, .sl .dig, .sl .chg]⟩),(15,⟨[((1,[]),none)],[(1, .pt 0 0),(31, .leaf),(32, .leaf),(33, .leaf),(53, .leaf)],[.cells [.leaf, .leaf, .leaf, .leaf, .leaf]],[.sl .dig, .int .i64, .int .i64, .bool, .str, .str, .int .i64, .sl .dig, .sl .chg]⟩)]
abbrev S67:List Sh:=[.ag [.leaf, .leaf, .leaf, .leaf, .leaf]]
abbrev L67:List Lf:=[.str, .str, .int .i64, .sl .dig, .sl .chg]
def Vt (K:Kn) (W4:prodL [.sl .dig, .int .i64, .int .i64, .str, .str, .int .i64, .sl .dig, .sl .chg]->Prop) (t_7:List Dig) (t2_7 t3_7:Int) (t4_7:Bool) (p1_7 p2_7:ByteArray) (p3_7:Int) (p4_7:List Dig) (p5_7:List Chg):Prop:=
 bif t4_7 then (
  K (.int .i64 9) [])
 else (
  W4 (t_7,t2_7,IntKind.i64.wrap (t3_7+1),p1_7,p2_7,p3_7,p4_7,p5_7,()))
def V6 (K:Kn) (W4:prodL [.sl .dig, .int .i64, .int .i64, .str, .str, .int .i64, .sl .dig, .sl .chg]->Prop) (t_3:List Dig) (t2_3 t3_3:Int) (p1_3 p2_3:ByteArray) (p3_3:Int) (p4_3:List Dig) (p5_3:List Chg):Prop:=
 bif decide (t3_3<t2_3)then (
  At t_3 t3_3 fun u5=>
 bif xb u5 dz then (
  K (.int .i64 1) [])
 else (
  bif decide (0<t3_3)then (
  At p4_3 (IntKind.i64.wrap (t3_3-1)) fun u6=>
  True/\
  Vt K W4 t_3 t2_3 t3_3 (decide (0<=jq u6 u5)) p1_3 p2_3 p3_3 p4_3 p5_3)
 else (
  Vt K W4 t_3 t2_3 t3_3 false p1_3 p2_3 p3_3 p4_3 p5_3)))
 else (
  bif decide ((p5_3.length:Int)=0)then (
  K (.int .i64 1) [])
 else (
  bif decide (400< (p5_3.length:Int))then (
   K (.int .i64 4) [])
  else (
   K (.int .i64 0) [])))
def F67_L4 (K:Kn) (g:prodL [.sl .dig, .int .i64, .int .i64, .str, .str, .int .i64, .sl .dig, .sl .chg]):Prop:=
 qX (γ:=prodL [.sl .dig, .int .i64, .int .i64, .str, .str, .int .i64, .sl .dig, .sl .chg]) (fun V y=>V6 K V y.1 y.2.1 y.2.2.1 y.2.2.2.1 y.2.2.2.2.1 y.2.2.2.2.2.1 y.2.2.2.2.2.2.1 y.2.2.2.2.2.2.2.1) g
def Yy (K:Kn) (t_1:Bool) (p1_1 p2_1:ByteArray) (p3_1:Int) (p4_1:List Dig) (p5_1:List Chg):Prop:=
 bif t_1 then (
    K (.int .i64 2) [])
   else (
    bif decide (100< (p4_1.length:Int))then (
     K (.int .i64 4) [])
    else (
     F67_L4 K (p4_1,(p4_1.length:Int),0,p1_1,p2_1,p3_1,p4_1,p5_1,())))
def F67 (g:prodL L67) (K:Kn):Prop:=
 sp115.pre (g.1,())/\
 bif !(kK g.1)then (
  K (.int .i64 5) [])
 else (
  bif decide (1000< (g.2.1.size:Int))then (
   K (.int .i64 4) [])
  else (
   bif decide (g.2.2.1<0)then (
    Yy K true g.1 g.2.1 g.2.2.1 g.2.2.2.1 g.2.2.2.2.1)
   else (
    Yy K (decide (1099511627776<g.2.2.1)) g.1 g.2.1 g.2.2.1 g.2.2.2.1 g.2.2.2.2.1)))
theorem F67_eq (g:prodL L67) (K X:Kn):F67 g K=qW D (qJ [] [(18,true,sp18),(115,true,sp115)]) (qv []) H67 J67 64 [.tmp 2] (qq Tryz.f67) (argsT S67 L67 g) [] (settle0 K) X:=by kernel_rfl
theorem F67_ok (g:prodL L67) (K X:Kn) (h:F67 g K):FCalls Tryz.prog 67 (argsT S67 L67 g) [] K X:=
 FCalls.settle0 (qz qh (vN (vV sp18_ok (vV sp115_ok vC))) qj rfl Tryz.func67 (c:=qq Tryz.f67) rfl Tryz.ntmps67 Tryz.results67 (by unfold qk;rw [Tryz.func67];kernel_rfl) (Nat.le_of_ble_eq_true (by kernel_rfl)) (c0:=0) (Eq.mp (F67_eq g K X) h))
end Go.Proofs.YtbglndogddddoaaGreatDoor
namespace Go.Proofs.YtbglndogddddoaaGreatDoor
open Go.RowKit
set_option maxRecDepth 100000
theorem wrapP {n:Nat} (h:0<n/\n<=4294967296):IntKind.i64.wrap ((n:Int) - 1)=((n-1:Nat):Int):=by
 rw [w64 (by omega)];omega
theorem posI {n:Nat} (h:0<n):decide ((0:Int) < (n:Int))=true:=decide_eq_true (by omega)
theorem depE_at {cmp:Dig->Dig->Int} {l:List Dig} {n:Nat} (h:n<l.length):depE cmp l n=bif xb l[n] dz then 1 else bif decide (0<n)then (bif decide (0<=cmp l[n-1] l[n])then 9 else 0)else 0:=by
 unfold depE
 rw [jS h,jS (show n-1<l.length by omega)]
theorem F67_is {a m:ByteArray} {t:Int} {ds:List Dig} {cs:List Chg} {K:Kn} (ha:szP a) (h:KI K (xF jq a m t ds cs)):F67 (a,m,t,ds,cs,()) K:=by
 unfold F67
 unfold xF at h
 refine ⟨ha, ?_⟩
 show bif !(kK a)then _ else _
 cases c1:kK a
 . rw [c1] at h;exact h
 rw [c1] at h
 simp only [Bool.not_true,cond_false] at h ⊢
 cases c2:decide (1000< (m.size:Int))
 rotate_left
 . rw [c2] at h;exact h
 rw [c2] at h
 rw [cond_false] at h ⊢
 have hJ: ∀b,KI K (bif b then 2 else bif !decide (Vi jq ds=0)then Vi jq ds else bif decide ((cs.length:Int)=0)then 1 else bif decide (400< (cs.length:Int))then 4 else 0)->Yy K b a m t ds cs:=by
  intro b h
  unfold Yy
  cases b
  rotate_left
  . exact h
  rw [cond_false] at h ⊢
  unfold Vi at h
  cases c0:decide (100< (ds.length:Int))
  rotate_left
  . rw [c0] at h;exact h
  have hl:ds.length<=100:=by have:=of_decide_eq_false c0;omega
  rw [c0,cond_false] at h
  rw [cond_false]
  unfold F67_L4
  refine qX.errsN ds.length (depE jq ds) (fun n=>(ds,(ds.length:Int),(n:Int),a,m,t,ds,cs,())) (fun e=>KI K (bif !decide (e=0)then e else bif decide ((cs.length:Int)=0)then 1 else bif decide (400< (cs.length:Int))then 4 else 0)) h rfl (fun W n hn h0 h1=> ?_) fun h W=> ?_
  . show V6 K W ds (ds.length:Int) n a m t ds cs
    unfold V6
    rw [zq hn,cond_true]
    rw [depE_at hn] at h0 h1
    refine zX hn ?_
    cases c1:xb ds[n] dz
    . rw [c1] at h0 h1
      rw [cond_false] at h0 h1 ⊢
      by_cases hz:0<n
      . rw [posI hz,cond_true]
        rw [decide_eq_true hz,cond_true] at h0 h1
        rw [wrapP (by omega)]
        refine zX (by omega) ⟨trivial, ?_⟩
        unfold Vt
        cases c2:decide (0<=jq ds[n-1] ds[n])
        . rw [c2] at h0;rw [cond_false,jw hn (by omega)];exact h0 rfl
        . rw [c2] at h1;exact h1 (by decide)
      . have:n=0:=by omega
        subst this
        show Vt K W ds ds.length 0 false a m t ds cs
        unfold Vt
        rw [cond_false]
        have:=jw hn (show ds.length<=4294967296 by omega)
        have e:IntKind.i64.wrap ((0:Int)+1)=((0+1:Nat):Int):=this
        rw [e]
        exact h0 rfl
    . rw [c1] at h1;exact h1 (show (1:Int)≠0 by decide)
  . show V6 K W ds (ds.length:Int) (ds.length:Int) a m t ds cs
    unfold V6
    rw [qG,cond_false]
    change KI K (bif decide ((cs.length:Int)=0)then 1 else bif decide (400< (cs.length:Int))then 4 else 0)at h
    revert h
    exact xj (K:=KI K) id (xj (K:=KI K) id id)
 exact QM (J:=fun b=>Yy K b a m t ds cs) (f:=fun b=>bif b then 2 else bif !decide (Vi jq ds=0)then Vi jq ds else bif decide ((cs.length:Int)=0)then 1 else bif decide (400< (cs.length:Int))then 4 else 0) (K:=KI K) hJ h
def sp67:Sp:=⟨S67,L67,fun g=>szP g.1,fun g=> .int .i64 (xF jq g.1 g.2.1 g.2.2.1 g.2.2.2.1 g.2.2.2.2.1),fun _=>none⟩
theorem sp67_ok:sp67.Ok Tryz.prog 67 true:=
 ⟨fun g K X hp h=>F67_ok g K X (F67_is hp h),fun _ _ _=>rfl,fun _=>rfl,fun _ _=>⟨rfl,rfl⟩⟩
theorem lineE_at {l:List ByteArray} {n:Nat} (h:n<l.length):lineE l n=bif !(XQ l[n])then 3 else 0:=by
 unfold lineE
 rw [jS h]
theorem overE_at {cmp:Idn->Idn->Int} {l:List Idn} {n:Nat} (h:n+1<l.length):overE cmp l n=bif decide (0<=cmp l[n] l[n+1])then 9 else 0:=by
 unfold overE
 rw [jS (show n<l.length by omega),jS h]
end Go.Proofs.YtbglndogddddoaaGreatDoor
namespace Go.Proofs.YtbglndogddddoaaGreatDoor
open Go.RowKit
attribute [local irreducible] qW qb
set_option maxRecDepth 100000
def H68:List (Nat×Hint):=[(18,⟨[((1,[]),none)],[(1, .pt 0 0),(73, .leaf),(74, .leaf),(75, .leaf)],[.el],[.sl .str, .int .i64, .int .i64, .el .chg]⟩),(28,⟨[((1,[]),none)],[(1, .pt 0 0),(5, .leaf)],[.el],[.int .i64, .el .chg]⟩)]
def J68:List (Nat×Hint):=[(2,⟨[((1,[]),none)],[(1, .pt 0 0),(6, .leaf)],[.el],[.bool, .el .chg]⟩),(6,⟨[((1,[]),none)],[(1, .pt 0 0),(19, .leaf)],[.el],[.bool, .el .chg]⟩),(8,⟨[((1,[]),none)],[(1, .pt 0 0),(33, .leaf)],[.el],[.bool, .el .chg]⟩),(10,⟨[((1,[]),none)],[(1, .pt 0 0),(43, .leaf)],[.el],[.bool, .el .chg]⟩),(14,⟨[((1,[]),none)],[(1, .pt 0 0),(57, .leaf)],[.el],[.bool, .el .chg]⟩),(24,⟨[((1,[]),none)],[(1, .pt 0 0),(83, .leaf)],[.el],[.bool, .el .chg]⟩)]
abbrev S68:List Sh:=[.leaf]
abbrev L68:List Lf:=[.el .chg]
def Jq (K:Kn) (W17:prodL [.int .i64, .el .chg]->Prop) (i_16:Int) (c_16:Chg):Prop:=
 bif decide (i_16< (c_16.over.length:Int))then (
  At c_16.over (IntKind.i64.wrap (i_16-1)) fun u18=>
 At c_16.over i_16 fun u19=>
 True/\
 bif decide (0<=idC u18 u19)then (
  K (.int .i64 9) [])
 else (
  W17 (IntKind.i64.wrap (i_16+1),c_16,())))
 else (
  K (.int .i64 0) [])
def F68_L17 (K:Kn) (g:prodL [.int .i64, .el .chg]):Prop:=
 qX (γ:=prodL [.int .i64, .el .chg]) (fun V y=>Jq K V y.1 y.2.1) g
def ZA (K:Kn) (t_14:Bool) (c_14:Chg):Prop:=
 bif t_14 then (
  K (.int .i64 1) [])
 else (
  bif decide (400< (c_14.over.length:Int))then (
   K (.int .i64 4) [])
  else (
   F68_L17 K (1,c_14,())))
def ZL (K:Kn) (W12:prodL [.sl .str, .int .i64, .int .i64, .el .chg]->Prop) (t_11:List ByteArray) (t2_11 t3_11:Int) (c_11:Chg):Prop:=
 bif decide (t3_11<t2_11)then (
  At t_11 t3_11 fun u13=>
 sp117.pre (u13,())/\
 bif !(XQ u13)then (
  K (.int .i64 3) [])
 else (
  W12 (t_11,t2_11,IntKind.i64.wrap (t3_11+1),c_11,())))
 else (
  bif decide (c_11.kind=7)then (
  ZA K (decide ((c_11.over.length:Int)=0)) c_11)
 else (
  ZA K false c_11))
def F68_L12 (K:Kn) (g:prodL [.sl .str, .int .i64, .int .i64, .el .chg]):Prop:=
 qX (γ:=prodL [.sl .str, .int .i64, .int .i64, .el .chg]) (fun V y=>ZL K V y.1 y.2.1 y.2.2.1 y.2.2.2.1) g
def WC (K:Kn) (t_5:Bool) (c_5:Chg):Prop:=
 bif t_5 then (
        K (.int .i64 1) [])
       else (
        bif decide (2000< (c_5.lines.length:Int))then (
         K (.int .i64 4) [])
        else (
         F68_L12 K (c_5.lines,(c_5.lines.length:Int),0,c_5,())))
def Wh (K:Kn) (t_4:Bool) (c_4:Chg):Prop:=
 bif t_4 then (
      K (.int .i64 2) [])
     else (
      bif decide (65536< (c_4.data.size:Int))then (
       K (.int .i64 4) [])
      else (
       bif decide (c_4.kind=5)then (
        WC K (decide ((c_4.lines.length:Int)=0)) c_4)
       else (
        WC K false c_4)))
def F68_J8 (K:Kn) (t_3:Bool) (c_3:Chg):Prop:=
 bif t_3 then (
     K (.int .i64 5) [])
    else (
     bif decide (c_3.mode<0)then (
      Wh K true c_3)
     else (
      Wh K (decide (511<c_3.mode)) c_3))
def JJ (K:Kn) (t_2:Bool) (c_2:Chg):Prop:=
 bif t_2 then (
    K (.int .i64 8) [])
   else (
    bif decide (c_2.kind=2)then (
     sp115.pre (c_2.name,())/\
     F68_J8 K (!(kK c_2.name)) c_2)
    else (
     F68_J8 K false c_2))
def XO (K:Kn) (t_1:Bool) (c_1:Chg):Prop:=
 bif t_1 then (
  K (.int .i64 8) [])
 else (
  sp116.pre (c_1,())/\
  bif !(zO c_1)then (
   K (.int .i64 1) [])
  else (
   bif decide (c_1.kind=1)then (
    bif decide (c_1.typ<1)then (
     JJ K true c_1)
    else (
     JJ K (decide (4<c_1.typ)) c_1))
   else (
    JJ K false c_1)))
def F68 (g:prodL L68) (K:Kn):Prop:=
 bif decide (g.1.kind<1)then (
  XO K true g.1)
 else (
  XO K (decide (7<g.1.kind)) g.1)
theorem F68_eq (g:prodL L68) (K X:Kn):F68 g K=qW D (qJ [] [(17,true,sp17),(115,true,sp115),(116,true,sp116),(117,true,sp117)]) (qv []) H68 J68 118 [.tmp 2] (qq Tryz.f68) (argsT S68 L68 g) [] (settle0 K) X:=by kernel_rfl
theorem F68_ok (g:prodL L68) (K X:Kn) (h:F68 g K):FCalls Tryz.prog 68 (argsT S68 L68 g) [] K X:=
 FCalls.settle0 (qz qh (vN (vV sp17_ok (vV sp115_ok (vV sp116_ok (vV sp117_ok vC))))) qj rfl Tryz.func68 (c:=qq Tryz.f68) rfl Tryz.ntmps68 Tryz.results68 (by unfold qk;rw [Tryz.func68];kernel_rfl) (Nat.le_of_ble_eq_true (by kernel_rfl)) (c0:=0) (Eq.mp (F68_eq g K X) h))
end Go.Proofs.YtbglndogddddoaaGreatDoor
namespace Go.Proofs.YtbglndogddddoaaGreatDoor
open Go.RowKit
set_option maxRecDepth 100000
theorem F68_L17_is {c:Chg} {K:Kn} (hl:c.over.length<=4194304) (h:KI K (overEs idC c.over)):F68_L17 K (1,c,()):=by
 unfold F68_L17
 unfold overEs at h
 refine qX.errsN (c.over.length-1) (overE idC c.over) (fun n=>(((n+1:Nat):Int),c,())) (KI K) h rfl (fun W n hn h0 h1=> ?_) fun h W=> ?_
 . show Jq K W ((n+1:Nat):Int) c
   unfold Jq
   rw [zq (show n+1<c.over.length by omega),cond_true]
   rw [overE_at (by omega)] at h0 h1
   rw [wrapP (by omega)]
   refine zX (show n+1-1<c.over.length by omega) (zX (show n+1<c.over.length by omega) ⟨trivial, ?_⟩)
   simp only [Nat.add_sub_cancel]
   cases e:decide (0<=idC c.over[n] c.over[n+1])
   . rw [e] at h0;rw [cond_false,jw (show n+1<c.over.length by omega) (by omega)];exact h0 rfl
   . rw [e] at h1;exact h1 (by decide)
 . show Jq K W ((c.over.length-1+1:Nat):Int) c
   unfold Jq
   rw [decide_eq_false (by omega),cond_false];exact h
theorem F68_J15_is {t:Bool} {c:Chg} {K:Kn} (hp:XI c) (h:KI K (fP15 t c)):ZA K t c:=by
 unfold ZA
 revert h
 unfold fP15
 exact xj (K:=KI K) id (xj (K:=KI K) id (F68_L17_is (jf hp).2.2.2.2))
theorem F68_L12_is {c:Chg} {K:Kn} (hp:XI c) (h:KI K (fP12 c)):F68_L12 K (c.lines,(c.lines.length:Int),0,c,()):=by
 obtain ⟨p1,p2,p3,p4,p5⟩:=jf hp
 unfold F68_L12
 unfold fP12 at h
 refine qX.errsN c.lines.length (lineE c.lines) (fun n=>(c.lines,(c.lines.length:Int),(n:Int),c,())) (fun e=>KI K (bif !decide (e=0)then e else fP15 (bif decide (c.kind=7)then decide ((c.over.length:Int)=0)else false) c)) h rfl (fun W n hn h0 h1=> ?_) fun h W=> ?_
 . show ZL K W c.lines c.lines.length n c
   unfold ZL
   rw [zq hn,cond_true]
   rw [lineE_at hn] at h0 h1
   refine zX hn ⟨trivial, ?_⟩
   cases e:XQ c.lines[n]
   . rw [e] at h1;exact h1 (by decide)
   . rw [e] at h0;simp only [Bool.not_true,cond_false];rw [jw hn (by omega)];exact h0 rfl
 . show ZL K W c.lines c.lines.length c.lines.length c
   unfold ZL
   rw [qG,cond_false]
   exact QM (J:=fun b=>ZA K b c) (f:=fun b=>fP15 b c) (K:=KI K) (fun _ h=>F68_J15_is hp h) h
theorem F68_J6_is {t:Bool} {c:Chg} {K:Kn} (hp:XI c) (h:KI K (fP6 t c)):WC K t c:=by
 unfold WC
 revert h
 unfold fP6
 exact xj (K:=KI K) id (xj (K:=KI K) id (F68_L12_is hp))
theorem F68_J7_is {t:Bool} {c:Chg} {K:Kn} (hp:XI c) (h:KI K (fP7 t c)):Wh K t c:=by
 unfold Wh
 revert h
 unfold fP7
 exact xj (K:=KI K) id (xj (K:=KI K) id (QM (J:=fun b=>WC K b c) (f:=fun b=>fP6 b c) (K:=KI K) (fun _ h=>F68_J6_is hp h)))
theorem Ka {t:Bool} {c:Chg} {K:Kn} (hp:XI c) (h:KI K (fP8 t c)):F68_J8 K t c:=by
 unfold F68_J8
 revert h
 unfold fP8
 exact xj (K:=KI K) id (QM (J:=fun b=>Wh K b c) (f:=fun b=>fP7 b c) (K:=KI K) (fun _ h=>F68_J7_is hp h))
theorem Ko {t:Bool} {c:Chg} {K:Kn} (hp:XI c) (h:KI K (fP9 t c)):JJ K t c:=by
 unfold JJ
 revert h
 unfold fP9
 refine xj (K:=KI K) id fun h=> ?_
 show bif decide (c.kind=2)then _ else _
 cases e:decide (c.kind=2)
 . rw [e] at h;exact Ka hp h
 . rw [e] at h;exact ⟨Nat.le_trans (jf hp).1 (by omega),Ka hp h⟩
theorem Wm {t:Bool} {c:Chg} {K:Kn} (hp:XI c) (hk:t=false->j8 c) (h:KI K (fP10 t c)):XO K t c:=by
 unfold XO
 unfold fP10 at h
 cases t
 rotate_left
 . exact h
 rw [cond_false] at h ⊢
 refine ⟨hk rfl, ?_⟩
 revert h
 refine xj (K:=KI K) id fun h=> ?_
 show bif decide (c.kind=1)then _ else _
 cases e:decide (c.kind=1)
 . rw [e] at h;exact Ko hp h
 . rw [e] at h
   exact QM (J:=fun b=>JJ K b c) (f:=fun b=>fP9 b c) (K:=KI K) (fun _ h=>Ko hp h) h
theorem F68_is {c:Chg} {K:Kn} (hp:XI c) (h:KI K (zM c)):F68 (c,()) K:=by
 unfold F68
 unfold zM at h
 show bif decide (c.kind<1)then _ else _
 cases e:decide (c.kind<1)
 . rw [e] at h
   exact Wm hp (fun e2=>⟨by have: ¬c.kind<1:=of_decide_eq_false e;show 1<=c.kind;omega,by have: ¬7<c.kind:=of_decide_eq_false e2;show c.kind<=7;omega⟩) h
 . rw [e] at h
   exact Wm hp (fun e2=>by cases e2) h
def sp68:Sp:=⟨S68,L68,fun g=>XI g.1,fun g=> .int .i64 (zM g.1),fun _=>none⟩
theorem sp68_ok:sp68.Ok Tryz.prog 68 true:=
 ⟨fun g K X hp h=>F68_ok g K X (F68_is hp h),fun _ _ _=>rfl,fun _=>rfl,fun _ _=>⟨rfl,rfl⟩⟩
end Go.Proofs.YtbglndogddddoaaGreatDoor
