import Derived.Shelf.Strconv.Itoa3
import Derived.Shelf.Strconv.AtoiAll
import Derived.Ground.NamesProg
import Derived.RecoverIn
import Derived.WalkKit
import Derived.Lib.AtoiAllCases
import Derived.Shelf.Strings.Builder1
import Derived.Lib.Bytealg
import Derived.Shelf.RegionOpenPlain
import Derived.Lib.Walk
import Derived.Lib.BytesEntry
import Derived.BigCall
import Derived.BigGuard
import Derived.Deep.Draws
import Derived.Test.YtbglndogddddoaaGreatDoorGD4
set_option linter.unusedVariables false
set_option linter.unusedSimpArgs false
set_option linter.unusedSectionVars false
namespace Go.Proofs.YtbglndogddddoaaGreatDoor
section
open Go.RowKit Go.Shelf
def qxW:Go.Shelf.Ren:=⟨fun | 171=>209 | 243=>228 | 246=>236 | 283=>240 | 284=>241 | 285=>242 | 286=>243 | 129=>148 | 317=>244 | 318=>245 | 319=>246 | 320=>247 | 337=>248 | 338=>249 | n=>n,fun | 3=>3 | 9=>9 | 2=>2 | 4=>4 | 171=>250 | 0=>0 | 53=>137 | 37=>69 | 5=>5 | 173=>252 | 212=>255 | 51=>100 | 20=>20 | 213=>256 | 46=>118 | 232=>31 | 233=>257 | n=>n,fun | 17=>3 | 18=>4 | 19=>5 | n=>n⟩
theorem qKg:Go.Proofs.LaysM.n171 Tryz.prog qxW:={
 mixed:=by kernel_rfl
 f129:=Tryz.func148.trans (congrArg some (by kernel_rfl))
 f171:=Tryz.func209.trans (congrArg some (by kernel_rfl))
 f243:=Tryz.func228.trans (congrArg some (by kernel_rfl))
 f246:=Tryz.func236.trans (congrArg some (by kernel_rfl))
 f283:=Tryz.func240.trans (congrArg some (by kernel_rfl))
 f284:=Tryz.func241.trans (congrArg some (by kernel_rfl))
 f285:=Tryz.func242.trans (congrArg some (by kernel_rfl))
 f286:=Tryz.func243.trans (congrArg some (by kernel_rfl))
 f317:=Tryz.func244.trans (congrArg some (by kernel_rfl))
 f318:=Tryz.func245.trans (congrArg some (by kernel_rfl))
 f319:=Tryz.func246.trans (congrArg some (by kernel_rfl))
 f320:=Tryz.func247.trans (congrArg some (by kernel_rfl))
 f337:=Tryz.func248.trans (congrArg some (by kernel_rfl))
 f338:=Tryz.func249.trans (congrArg some (by kernel_rfl))
 t0:=Tryz.underlying0
 a0:=Tryz.isAgg0
 z0:=Tryz.sizeOf0
 v0:=Tryz.zeroValue0
 t2:=Tryz.underlying2
 a2:=Tryz.isAgg2
 z2:=Tryz.sizeOf2
 v2:=Tryz.zeroValue2
 t3:=Tryz.underlying3
 a3:=Tryz.isAgg3
 z3:=Tryz.sizeOf3
 v3:=Tryz.zeroValue3
 t4:=Tryz.underlying4
 a4:=Tryz.isAgg4
 z4:=Tryz.sizeOf4
 v4:=Tryz.zeroValue4
 t5:=Tryz.underlying5
 a5:=Tryz.isAgg5
 z5:=Tryz.sizeOf5
 v5:=Tryz.zeroValue5
 t9:=Tryz.underlying9
 a9:=Tryz.isAgg9
 z9:=Tryz.sizeOf9
 v9:=Tryz.zeroValue9
 t20:=Tryz.underlying20
 a20:=Tryz.isAgg20
 z20:=Tryz.sizeOf20
 v20:=Tryz.zeroValue20
 t37:=Tryz.underlying69
 a37:=Tryz.isAgg69
 z37:=Tryz.sizeOf69
 v37:=Tryz.zeroValue69
 t46:=Tryz.underlying118
 a46:=Tryz.isAgg118
 z46:=Tryz.sizeOf118
 v46:=Tryz.zeroValue118
 t51:=Tryz.underlying100
 a51:=Tryz.isAgg100
 z51:=Tryz.sizeOf100
 v51:=Tryz.zeroValue100
 t53:=Tryz.underlying137
 a53:=Tryz.isAgg137
 z53:=Tryz.sizeOf137
 v53:=Tryz.zeroValue137
 t171:=Tryz.underlying250
 a171:=Tryz.isAgg250
 z171:=Tryz.sizeOf250
 v171:=Tryz.zeroValue250
 t173:=Tryz.underlying252
 a173:=Tryz.isAgg252
 z173:=Tryz.sizeOf252
 v173:=Tryz.zeroValue252
 t212:=Tryz.underlying255
 a212:=Tryz.isAgg255
 z212:=Tryz.sizeOf255
 v212:=Tryz.zeroValue255
 t213:=Tryz.underlying256
 a213:=Tryz.isAgg256
 z213:=Tryz.sizeOf256
 t232:=Tryz.underlying31
 a232:=Tryz.isAgg31
 z232:=Tryz.sizeOf31
 v232:=Tryz.zeroValue31
 t233:=Tryz.underlying257
 a233:=Tryz.isAgg257
 z233:=Tryz.sizeOf257
 v233:=Tryz.zeroValue257
 g17:=by kernel_rfl
 g18:=by kernel_rfl
 g19:=by kernel_rfl
 i0:=by kernel_rfl
 i2:=by kernel_rfl
 i3:=by kernel_rfl
 i4:=by kernel_rfl
 i5:=by kernel_rfl
 i9:=by kernel_rfl
 i20:=by kernel_rfl
 i37:=by kernel_rfl
 i46:=by kernel_rfl
 i51:=by kernel_rfl
 i53:=by kernel_rfl
 i171:=by kernel_rfl
 i173:=by kernel_rfl
 i212:=by kernel_rfl
 i232:=by kernel_rfl
 i233:=by kernel_rfl
 m17:=by kernel_rfl
 m18:=by kernel_rfl
 m19:=by kernel_rfl}
def qjs:Go.Shelf.Ren:=⟨fun | 172=>153 | 244=>204 | 245=>205 | 247=>222 | 279=>223 | 280=>224 | 281=>225 | 282=>226 | 287=>233 | 316=>234 | 171=>209 | 205=>235 | 321=>238 | 322=>239 | 243=>228 | 246=>236 | 283=>240 | 284=>241 | 285=>242 | 286=>243 | 129=>148 | 317=>244 | 318=>245 | 319=>246 | 320=>247 | 337=>248 | 338=>249 | n=>n,fun | 9=>9 | 3=>3 | 75=>176 | 76=>177 | 4=>4 | 5=>5 | 167=>229 | 37=>69 | 0=>0 | 85=>230 | 2=>2 | 168=>232 | 53=>137 | 175=>238 | 46=>118 | 210=>241 | 127=>222 | 145=>249 | 143=>247 | 21=>21 | 171=>250 | 173=>252 | 212=>255 | 51=>100 | 20=>20 | 213=>256 | 232=>31 | 233=>257 | 80=>90 | n=>n,fun | 15=>1 | 16=>2 | 17=>3 | 18=>4 | 19=>5 | n=>n⟩
theorem qvS:Go.Proofs.LaysC.n172 Tryz.prog qjs:={
 mixed:=by kernel_rfl
 f129:=Tryz.func148.trans (congrArg some (by kernel_rfl))
 f171:=Tryz.func209.trans (congrArg some (by kernel_rfl))
 f172:=Tryz.func153.trans (congrArg some (by kernel_rfl))
 f205:=Tryz.func235.trans (congrArg some (by kernel_rfl))
 f243:=Tryz.func228.trans (congrArg some (by kernel_rfl))
 f244:=Tryz.func204.trans (congrArg some (by kernel_rfl))
 f245:=Tryz.func205.trans (congrArg some (by kernel_rfl))
 f246:=Tryz.func236.trans (congrArg some (by kernel_rfl))
 f247:=Tryz.func222.trans (congrArg some (by kernel_rfl))
 f279:=Tryz.func223.trans (congrArg some (by kernel_rfl))
 f280:=Tryz.func224.trans (congrArg some (by kernel_rfl))
 f281:=Tryz.func225.trans (congrArg some (by kernel_rfl))
 f282:=Tryz.func226.trans (congrArg some (by kernel_rfl))
 f283:=Tryz.func240.trans (congrArg some (by kernel_rfl))
 f284:=Tryz.func241.trans (congrArg some (by kernel_rfl))
 f285:=Tryz.func242.trans (congrArg some (by kernel_rfl))
 f286:=Tryz.func243.trans (congrArg some (by kernel_rfl))
 f287:=Tryz.func233.trans (congrArg some (by kernel_rfl))
 f316:=Tryz.func234.trans (congrArg some (by kernel_rfl))
 f317:=Tryz.func244.trans (congrArg some (by kernel_rfl))
 f318:=Tryz.func245.trans (congrArg some (by kernel_rfl))
 f319:=Tryz.func246.trans (congrArg some (by kernel_rfl))
 f320:=Tryz.func247.trans (congrArg some (by kernel_rfl))
 f321:=Tryz.func238.trans (congrArg some (by kernel_rfl))
 f322:=Tryz.func239.trans (congrArg some (by kernel_rfl))
 f337:=Tryz.func248.trans (congrArg some (by kernel_rfl))
 f338:=Tryz.func249.trans (congrArg some (by kernel_rfl))
 t0:=Tryz.underlying0
 a0:=Tryz.isAgg0
 z0:=Tryz.sizeOf0
 v0:=Tryz.zeroValue0
 t2:=Tryz.underlying2
 a2:=Tryz.isAgg2
 z2:=Tryz.sizeOf2
 v2:=Tryz.zeroValue2
 t3:=Tryz.underlying3
 a3:=Tryz.isAgg3
 z3:=Tryz.sizeOf3
 v3:=Tryz.zeroValue3
 t4:=Tryz.underlying4
 a4:=Tryz.isAgg4
 z4:=Tryz.sizeOf4
 v4:=Tryz.zeroValue4
 t5:=Tryz.underlying5
 a5:=Tryz.isAgg5
 z5:=Tryz.sizeOf5
 v5:=Tryz.zeroValue5
 t9:=Tryz.underlying9
 a9:=Tryz.isAgg9
 z9:=Tryz.sizeOf9
 v9:=Tryz.zeroValue9
 t20:=Tryz.underlying20
 a20:=Tryz.isAgg20
 z20:=Tryz.sizeOf20
 v20:=Tryz.zeroValue20
 t21:=Tryz.underlying21
 a21:=Tryz.isAgg21
 z21:=Tryz.sizeOf21
 v21:=Tryz.zeroValue21
 t37:=Tryz.underlying69
 a37:=Tryz.isAgg69
 z37:=Tryz.sizeOf69
 v37:=Tryz.zeroValue69
 t46:=Tryz.underlying118
 a46:=Tryz.isAgg118
 z46:=Tryz.sizeOf118
 v46:=Tryz.zeroValue118
 t51:=Tryz.underlying100
 a51:=Tryz.isAgg100
 z51:=Tryz.sizeOf100
 v51:=Tryz.zeroValue100
 t53:=Tryz.underlying137
 a53:=Tryz.isAgg137
 z53:=Tryz.sizeOf137
 v53:=Tryz.zeroValue137
 t75:=Tryz.underlying176
 a75:=Tryz.isAgg176
 z75:=Tryz.sizeOf176
 v75:=Tryz.zeroValue176
 t76:=Tryz.underlying177
 a76:=Tryz.isAgg177
 z76:=Tryz.sizeOf177
 v76:=Tryz.zeroValue177
 t85:=Tryz.underlying230
 a85:=Tryz.isAgg230
 z85:=Tryz.sizeOf230
 v85:=Tryz.zeroValue230
 t127:=Tryz.underlying222
 a127:=Tryz.isAgg222
 z127:=Tryz.sizeOf222
 v127:=Tryz.zeroValue222
 t143:=Tryz.underlying247
 a143:=Tryz.isAgg247
 z143:=Tryz.sizeOf247
 v143:=Tryz.zeroValue247
 t145:=Tryz.underlying249
 a145:=Tryz.isAgg249
 z145:=Tryz.sizeOf249
 v145:=Tryz.zeroValue249
 t167:=Tryz.underlying229
 a167:=Tryz.isAgg229
 z167:=Tryz.sizeOf229
 v167:=Tryz.zeroValue229
 t168:=Tryz.underlying232
 a168:=Tryz.isAgg232
 z168:=Tryz.sizeOf232
 v168:=Tryz.zeroValue232
 t171:=Tryz.underlying250
 a171:=Tryz.isAgg250
 z171:=Tryz.sizeOf250
 v171:=Tryz.zeroValue250
 t173:=Tryz.underlying252
 a173:=Tryz.isAgg252
 z173:=Tryz.sizeOf252
 v173:=Tryz.zeroValue252
 t175:=Tryz.underlying238
 a175:=Tryz.isAgg238
 z175:=Tryz.sizeOf238
 v175:=Tryz.zeroValue238
 t210:=Tryz.underlying241
 a210:=Tryz.isAgg241
 z210:=Tryz.sizeOf241
 v210:=Tryz.zeroValue241
 t212:=Tryz.underlying255
 a212:=Tryz.isAgg255
 z212:=Tryz.sizeOf255
 v212:=Tryz.zeroValue255
 t213:=Tryz.underlying256
 a213:=Tryz.isAgg256
 z213:=Tryz.sizeOf256
 t232:=Tryz.underlying31
 a232:=Tryz.isAgg31
 z232:=Tryz.sizeOf31
 v232:=Tryz.zeroValue31
 t233:=Tryz.underlying257
 a233:=Tryz.isAgg257
 z233:=Tryz.sizeOf257
 v233:=Tryz.zeroValue257
 g15:=by kernel_rfl
 g16:=by kernel_rfl
 g17:=by kernel_rfl
 g18:=by kernel_rfl
 g19:=by kernel_rfl
 t80:=Tryz.underlying90
 a80:=Tryz.isAgg90
 z80:=Tryz.sizeOf90
 v80:=Tryz.zeroValue90
 i0:=by kernel_rfl
 i2:=by kernel_rfl
 i3:=by kernel_rfl
 i4:=by kernel_rfl
 i5:=by kernel_rfl
 i9:=by kernel_rfl
 i20:=by kernel_rfl
 i21:=by kernel_rfl
 i37:=by kernel_rfl
 i46:=by kernel_rfl
 i51:=by kernel_rfl
 i53:=by kernel_rfl
 i75:=by kernel_rfl
 i76:=by kernel_rfl
 i80:=by kernel_rfl
 i85:=by kernel_rfl
 i127:=by kernel_rfl
 i143:=by kernel_rfl
 i145:=by kernel_rfl
 i167:=by kernel_rfl
 i168:=by kernel_rfl
 i171:=by kernel_rfl
 i173:=by kernel_rfl
 i175:=by kernel_rfl
 i210:=by kernel_rfl
 i212:=by kernel_rfl
 i232:=by kernel_rfl
 i233:=by kernel_rfl
 m15:=by kernel_rfl
 m16:=by kernel_rfl
 m17:=by kernel_rfl
 m18:=by kernel_rfl
 m19:=by kernel_rfl
 c0:=by kernel_rfl
 c2:=by kernel_rfl
 c3:=by kernel_rfl
 c4:=by kernel_rfl
 c5:=by kernel_rfl
 c9:=by kernel_rfl
 c20:=by kernel_rfl
 c21:=by kernel_rfl
 c37:=by kernel_rfl
 c46:=by kernel_rfl
 c51:=by kernel_rfl
 c53:=by kernel_rfl
 c75:=by kernel_rfl
 c76:=by kernel_rfl
 c80:=by kernel_rfl
 c85:=by kernel_rfl
 c127:=by kernel_rfl
 c143:=by kernel_rfl
 c145:=by kernel_rfl
 c167:=by kernel_rfl
 c168:=by kernel_rfl
 c171:=by kernel_rfl
 c173:=by kernel_rfl
 c175:=by kernel_rfl
 c210:=by kernel_rfl
 c212:=by kernel_rfl
 c213:=by kernel_rfl
 c232:=by kernel_rfl
 c233:=by kernel_rfl}
theorem WU {P:Program} {g:G P} {st:St} {w w':World} (hg:Good g st w) (h1:w'.os=w.os) (h2:w'.tape=w.tape) (h3:w'.output=w.output) (hsz:w.heap.size<=w'.heap.size) (hb: ∀b,b<w.heap.size->w'.heap[b]? =w.heap[b]?):
  Good g st w'/\ ∀b0,Step b0 g st w g st w':=by
 refine ⟨⟨fun b cs h=> ?_,fun k o h=> ?_,hg.inj,hg.old,fun b o h=>hg.fx_keep (fun b hb' _=>hb b hb') h,fun b h=>hg.dm_keep (fun b hb' _=>hb b hb') h,hg.laid⟩,fun b0=>⟨h1,h2,h3,hsz,fun b hb' _=>hb b hb',fun _ _ h=>h,fun _ h=> .inl h,fun _ _ h=> .inl h,fun _ _=>Kept.refl,fun _ _=>Fixd.refl,fun _ _ h=>h,fun _ h=>h,fun _ h=> .inl h⟩⟩
 . obtain ⟨blk,E,fr,p1,p2⟩:=hg.ro b cs h;exact ⟨blk,E,fr,by rw [hb b (hg.lt_ro h)];exact p1,p2⟩
 . obtain ⟨oi,p1,p2,p3⟩:=hg.obj k o h;refine ⟨oi,p1,p2, ?_⟩;rcases p3 with p3 | ⟨p3,blk,E,fr,p4,p5,p6,p7⟩
   . exact .inl p3
   . exact .inr ⟨p3,blk,E,fr,by rw [hb _ (yw p4)];exact p4,p5,p6,p7⟩
theorem YL {P:Program} {g:G P} {st:St} {w w':World} (hg:Good g st w) (h:Below w.heap.size w w'):Good g st w'/\ ∀b0,Step b0 g st w g st w':=
 WU hg h.os h.tape h.output h.size h.block
theorem qof {g:G Tryz.prog} {st:St} {w:World} (hg:Good g st w):Lib.TabIs Tryz.prog w "internal/strconv.uint64pow10" .u64 Lib.pow10Tab:=by
 obtain ⟨⟨h1,h2⟩,_⟩:=hg.laid;obtain ⟨blk,E,fr,p1,p2⟩:=hg.ro _ _ h1;obtain ⟨blk',E',fr',q1,q2⟩:=hg.ro _ _ h2;rw [p1] at q1;simp only [Jah,Obj.cells.injEq] at q1;obtain ⟨rfl,rfl,rfl⟩:=q1;have hsz:blk.size=20:=q2.ex 20 rfl;unfold Lib.TabIs World.var?;rw [show Tryz.prog.globalNamed "internal/strconv.uint64pow10" =some 3 by kernel_rfl]
 simp only [Jaz,p1,Jah];apply Array.ext_getElem?;intro j;by_cases hj:j<20
 . obtain ⟨x,x1,_,x3⟩:=p2.at_ j (T.int .u64 ((10^j:Nat):Int)) (by simp [Z9,hj]) rfl
   cases x3;rw [x1];simp [Lib.pow10Tab,hj]
 . rw [Array.getElem?_eq_none (by omega),Array.getElem?_eq_none (by simp [Lib.pow10Tab];omega)]
theorem YY {P:Program} {g:G P} {u:T} {args:Array Value} (h:RL g [u] args): ∃x,args= #[x]/\R g u x:=by
 have hl:=h.len;obtain ⟨x,rfl⟩: ∃x,args= #[x]:=by
  have:args.size=1:=by simpa using hl.symm
  exact ⟨args[0],Array.ext (by simpa using this) fun i h1 h2=>by
   have:i=0:=by simp at h2;omega
   subst this;rfl⟩
 exact ⟨x,rfl,h.val 0 u x rfl rfl⟩
def jg (n:Int):Prop:= -9223372036854775808<=n/\n<=9223372036854775807
def qZF:Sp:=⟨[.leaf],[.int .i64],fun g=>jg g.1,fun g=> .str (jd g.1),fun _=>none⟩
theorem Kz:qZF.Ok Tryz.prog 209 true:=
 .mk (by
  rintro ⟨n,⟨⟩⟩ K X hp hK g w hg;obtain ⟨h1,h2⟩: -9223372036854775808<=n/\n<=9223372036854775807:=hp;refine Qw.of (by kernel_rfl) fun args hr=> ?_
  obtain ⟨x,rfl,hx⟩:=YY hr;cases hx;refine (Any.strconv_Itoa qKg n h1 h2 w (qof hg)).mono ?_;rintro e w' ⟨rfl,k,os,rfl⟩;obtain ⟨q1,q2⟩:=WU (w':=Sort.grow (w.drewN k) os) hg rfl rfl rfl (by simp [Sort.grow,World.drewN]) (fun b hb=>by simp [Sort.grow,World.drewN,Jbi hb])
  exact ⟨g,[],q1,q2 _,_,hK,.str _⟩)
def qzW (s:ByteArray):Res Int Int:=match Lib.atoiAll (bl s)with
 | .ok v=> .ok v
 | .range=> .err (Lib.atoiSat (bl s))
 | _=> .err 0
def qZr (g:prodL [.str]):Prop:=g.1.size<=2147483648/\((∃v,Lib.atoiAll (bl g.1)= .ok v)∨Lib.atoiAll (bl g.1)= .range)
def qut (g:prodL [.str]) (K _:Kn):Prop:=
 Res.go (qzW g.1) (fun v=>K (.tu [.int .i64 v,.cst .nilIface]) []) (fun v=>K (.tu [.int .i64 v,.ic 232 .undef]) [])
def qsX:Raw:=⟨[.leaf],[],[.str],0,fun g K X=>qZr g/\qut g K X⟩
theorem qKv:qsX.Ok Tryz.prog 153:=by
 rintro ⟨s,⟨⟩⟩ K X ⟨⟨h1,h2⟩,h⟩ g w hg;have h1:s.size<=2147483648:=h1;refine Qw.of (by kernel_rfl) fun args hr=> ?_
 obtain ⟨x,rfl,hx⟩:=YY hr;cases hx;have h:Res.go (qzW s) (fun v=>K (.tu [.int .i64 v,.cst .nilIface]) []) (fun v=>K (.tu [.int .i64 v,.ic 232 .undef]) []):=h
 have h2:(∃v,Lib.atoiAll (bl s)= .ok v)∨Lib.atoiAll (bl s)= .range:=h2;unfold qzW at h;rcases h2 with ⟨v,ha⟩ | ha
 . rw [ha] at h;refine (Any.strconv_Atoi_ok qvS s (by omega) v ha w).mono ?_
   rintro e w' ⟨rfl,hw⟩;have hb:Below w.heap.size w w':=by
    rcases hw with rfl | ⟨t,rfl⟩
    . exact Below.refl _ _
    . exact Lib.bytesWorld_below _ _ _
   obtain ⟨q1,q2⟩:=YL hg hb;refine ⟨g,_,q1,q2 _,_,h,.tu _ _ rfl fun i c x hc hx=> ?_⟩
   rcases i with _ | _ | i
   . simp at hc hx;subst hc;subst hx;exact .int _ _
   . simp at hc hx;subst hc;subst hx;exact .cst _
   . simp at hc
 . rw [ha] at h;obtain ⟨_,te,pe,h4⟩:=hg.laid;obtain ⟨blk,E,fr,p1,p2⟩:=hg.ro _ _ h4;obtain ⟨ev,x1,_,x3⟩:=p2.at_ 0 _ rfl rfl;cases x3;refine (Any.strconv_Atoi_range qvS s (by omega) ha (.iface te pe) w (by
    show w.cell? ⟨2,0,none⟩=_
    simp [World.cell?,p1,x1]) (.inr ⟨te,pe,rfl⟩)).mono ?_
   rintro e w' ⟨N,rfl,_,_,hb⟩;obtain ⟨q1,q2⟩:=YL hg hb;refine ⟨g,_,q1,q2 _,_,h,.tu _ _ rfl fun i c x hc hx=> ?_⟩
   rcases i with _ | _ | i
   . simp at hc hx;subst hc;subst hx;exact .int _ _
   . simp at hc hx;subst hc;subst hx;exact .ic _ _ _ (.undef _)
   . simp at hc
end
section
open Go.RowKit
theorem qk6 (w:World):(Instr.typeAssert .nilIface 20 170 true).run Tryz.prog w= .ok (.tuple #[.agg #[.int .i64 0],.bool false]) w:=by kernel_rfl
theorem qxM (v:Value) (w:World):(Instr.typeAssert (.iface 170 v) 20 170 true).run Tryz.prog w= .ok (.tuple #[v,.bool true]) w:=by kernel_rfl
theorem qka (p q r:Addr) (w:World):
  CallsDIn (WF none) 0 Tryz.prog 149 #[.pointer (some p),.pointer (some q),.pointer (some r)] .returning w fun e u' w'=>e= .returned (.tuple #[])/\u'= .returning/\ ∃x,w'=w.alloc (.cells #[x] 170):=by
 refine callsDIn_of_wpSIn Tryz.func149 (c:=qO Tryz.f149) rfl trivial fun c₀ cs hu=> ?_
 apply wpSIn_seq;apply wpSIn_region;simp [wpOpsSIn,go_sem,recoverD,hu,Tryz.ntmps149,Exit.thenS];apply wpSIn_seq;apply wpSIn_region;simp [wpOpsSIn,go_sem,Exit.thenS,qk6];apply wpSIn_seq;apply wpSIn_region;simp [wpOpsSIn,go_sem,Exit.thenS];refine wpSIn_cond (t:=false) (by simp [Act.eval]) ?_
 simp only [Ja5,if_false];apply wpSIn_seq;apply wpSIn_region;simp [wpOpsSIn,go_sem,Exit.thenS];refine wpSIn_cond (t:=false) (by simp [Act.eval]) ?_
 simp only [Ja5,if_false];refine wpSIn_of_wpIn rfl (wpIn_skip ?_);cases c₀;simp_all [bodyPostS,results,Tryz.results149]
 exact ⟨_,rfl⟩
theorem qxt {P:Program} {g:G P} {tmps:Array Value}: ∀(t:Tm),(∀p∈t,R g p.2 (tmps.getD p.1 Go.undef))-> ∀i,R g (get t i) (tmps.getD i Go.undef)
 | [],_,i=> .undef _
 | (j,v)::r,h,i=>by
  simp only [get];by_cases e:i=j
  . subst e;rw [if_pos rfl];exact h (i,v) (Jbc ..)
  . rw [if_neg e];exact qxt r (fun p hp=>h p (Jbe _ hp)) i
theorem qyI {P:Program} {g:G P} {st:St} {w:World} (hg:Good g st w) {z:List T} {xs:Array Value} (E:TypeId) (hx:R g (.ag z) (.agg xs)) (hW:cellW z E z.length=true:=by rfl) (hM:meHead z=false:=by rfl): ∃g',Good g' (st++[some (.cells z)]) (w.alloc (.cells xs E))/\g.le g'/\(∀b0,Step b0 g st w g' (st++[some (.cells z)]) (w.alloc (.cells xs E)))/\R g' (.pt st.length 0) (.pointer (some ⟨w.heap.size,0,none⟩)):=by
 cases hx with
 | ag _ _ h1 h2 h3=>
  obtain ⟨k1,k2,k3⟩:=zv (st':=st++[some (.cells z)]) (k:=st.length) (v:=0) (o':= .cells z) (oi:=⟨w.heap.size,0,0⟩) (w':=w.alloc (.cells xs E)) hg j8 (Jam _) (by simp) rfl (.inl (zu hg)) (fun u oi hu=>by rw [zu hg] at hu;cases hu) trivial
   (fun _=> .inl (Jam _)) rfl rfl rfl (by simp) (fun b hb _=>Below.heap_alloc w _ b hb) (fun _=>⟨xs,E,(0,0),by simp only [vo,hM];exact heap_alloc_new w _,fun q _ h=>absurd h.2 (Ja7 _),⟨by simp only [qZ];omega,fun j u hu=>by
    simp only [qZ] at hu;have hj:j<xs.size:=by rw [<- h1];exact (Jai.1 hu).1
    exact ⟨xs[j],by simp [hj],h3 j _ (by simp [hj]),h2 j u _ hu (by simp [hj])⟩⟩,by simp only [jt];rw [<- show z.length=xs.size from h1];exact hW⟩) (fun o ho=>by rw [Ja0 (Jam _)] at ho;cases ho)
  exact ⟨_,k1,k3,k2,.pt _ 0 ⟨w.heap.size,0,0⟩ (by simp [G.set])⟩
@[reducible] def bdS (P:Program) (l:List Deferred) (h: ∀d∈l, ∀D,d≠{target:= .collected D,args:= #[]}):Bd P:=⟨l,h,true⟩
def stF (n e:Int) (X:List T) (s:ByteArray) (p m:Int) (l:List T):St:=[some (.cells X),some (.cells [.int .i64 n]),some (.cells [.int .i64 e]),some (.cells [.str s,.int .i64 p,.int .i64 m])]++l.map fun v=>some (.cells [v])
def t26 (e:Int):Tm:=[(0,.pt 0 0),(1,.pt 1 0),(2,.pt 2 0),(3,.ic 170 (.ag [.int .i64 e])),(4,.pt 4 0)]
def x0:List T:=[.bool false,.str ⟨#[]⟩,.nil]
def qK6 (c:Code):Code:=match c with | .seq _ (.seq _ (.seq _ (.cond _ r _)))=>r | c=>c
theorem qu1 (n e0 e p m:Int) (s:ByteArray) (S:St):(Ws D (vG [] []) (vv []) [] [] 19 ⟨4,0⟩ 0 (qK6 (qO Tryz.f149)) (fun x _ s'=>x= .normal/\s'=S) (t26 e) (stF n e0 x0 s p m [.int .i64 e]))=(Ex.normal=Ex.normal/\stF 0 e x0 s p m [.int .i64 e]=S):=by kernel_rfl
theorem qyF {g:G Tryz.prog} {n e0 e p m:Int} {s:ByteArray} {w:World} (hg:Good g (stF n e0 x0 s p m []) w) {v0 v1 v2:Value} (h0:R g (.pt 0 0) v0) (h1:R g (.pt 1 0) v1) (h2:R g (.pt 2 0) v2):
  CallsDIn (WF none) 0 Tryz.prog 149 #[v0,v1,v2] (.panicking [{v:= .iface 170 (.agg #[.int .i64 e]),recovered:=false}]) w fun e' u' w'=>e'= .returned (.tuple #[])/\u'= .panicking [{v:= .iface 170 (.agg #[.int .i64 e]),recovered:=true}]/\
   ∃g',Good g' (stF 0 e x0 s p m [.int .i64 e]) w'/\Step ⟨4,0⟩ g (stF n e0 x0 s p m []) w g' (stF 0 e x0 s p m [.int .i64 e]) w':=by
 refine callsDIn_of_wpSIn Tryz.func149 (c:=qO Tryz.f149) rfl trivial fun c₀ cs hu=> ?_
 apply wpSIn_seq;apply wpSIn_region;simp [wpOpsSIn,go_sem,recoverD,hu,Tryz.ntmps149,Exit.thenS];apply wpSIn_seq;apply wpSIn_region;simp [wpOpsSIn,go_sem,Exit.thenS,qxM];apply wpSIn_seq;apply wpSIn_region;simp [wpOpsSIn,go_sem,Exit.thenS];refine wpSIn_cond (t:=true) (by simp [Act.eval]) ?_
 simp only [if_true];refine wpSIn_of_wpIn rfl ?_;obtain ⟨g1,k1,k2,k3,k4⟩:=qyI (z:=[.int .i64 e]) (xs:= #[.int .i64 e]) hg 170 (.ag _ _ rfl (fun i c x hc hx=>by
  match i,hc,hx with
  | 0,hc,hx=>simp at hc hx;subst hc;subst hx;exact .int _ _
  | i+1,hc,hx=>simp at hc) (fun i x hx=>by
  match i,hx with
  | 0,hx=>simp at hx;subst hx;rfl
  | i+1,hx=>simp at hx))
 letI B:Bd Tryz.prog:=bdS Tryz.prog [] (by simp)
 refine wpIn_mono (@zW Tryz.prog B D (vG [] []) (vv []) 19 ⟨4,0⟩ V7 (gmX gm0) we rfl [] [] 0 (qK6 (qO Tryz.f149)) (vU (by kernel_rfl)) _ _ _ (Eq.mpr (qu1 n e0 e p m s _) ⟨rfl,rfl⟩) none (.inr (by kernel_rfl)) g1 _ _ k1 ?ht) ?_
 case ht=>
  refine ⟨by simp,⟨[],rfl,fun _=>rfl,by simp⟩,by simp,qxt _ ?_⟩
  simp only [t26,List.forall_mem_cons,Jb4,false_imp_iff,implies_true,and_true];refine ⟨by simpa using h0.mono k2,by simpa using h1.mono k2,by simpa using h2.mono k2, ?_,by simpa [stF] using k4⟩
  simp;refine .ic 170 _ _ (.ag _ _ rfl (fun i c x hc hx=>by
   match i,hc,hx with
   | 0,hc,hx=>simp at hc hx;subst hc;subst hx;exact .int _ _
   | i+1,hc,hx=>simp at hc) (fun i x hx=>by
   match i,hx with
   | 0,hx=>simp at hx;subst hx;rfl
   | i+1,hx=>simp at hx))
 rintro x a' w' ⟨x0,g',t',st',⟨rfl,rfl⟩,q1,q2,q3,q4⟩;cases x<;>first | (exact q1.elim) | skip
 obtain ⟨ms,m1,m2,_⟩:=q3.defers;have m1:a'.defers=ms++[]:=m1;rw [m2 rfl] at m1;exact ⟨m1,_,rfl,.tuple #[],by simp [results,Tryz.results149],rfl,rfl,g',q2,(k3 ⟨4,0⟩).trans q4⟩
theorem YK {a:Act} {d:Option Tmp} {x:Value}:(a.put d x).defers=a.defers:=by cases d<;>rfl
theorem Jn {P:Program} {D:TD} {Γ:Qy} {n:Nat} (hD:zY P D) (hΓ:jV P Γ) {ops:Array Oper} {Q':Exit->Act->World->Prop} {A:Tm->St->Prop} {rest:List Oper}: ∀(l:List Oper) (g:G P) (st:St) (w:World) (t:Tm) (a:Act),Good g st w->RelT g n t a->Qk D Γ n ops l t st A (fun _ _ _=>False)->
  (∀g' st' w' t' a',A t' st'->Good g' st' w'->RelT g' n t' a'->g.le g'->(∀b0,Step b0 g st w g' st' w')->a'.defers=a.defers->wpListIn (WF none) 0 P ops Q' rest a' w')->wpListIn (WF none) 0 P ops Q' (l++rest) a w
 | [],g,st,w,t,a,hg,ht,h,hq=>hq g st w t a h hg ht (G.le_refl g) (fun _=>Step.refl) rfl
 | o::r,g,st,w,t,a,hg,ht,h,hq=>by
  unfold Qk at h;rw [List.cons_append];unfold wpListIn;rcases xL ht h with ⟨t1,ht1,h,hw⟩ | ⟨t1,ht1,h,hw⟩
  . rw [if_pos hw];refine kF hD hΓ hg ht1 h none _ _ (fun v s' x g' w' hk g1 l1 s1 r1=> ?_) (fun u s' v g' w' hx g1 l1 s1 r1=>hx.elim)
    obtain ⟨t2,k1,k2⟩:=(ht1.mono l1.le).fin r1 hk;exact Jn hD hΓ r g' s' w' t2 _ g1 k2 k1 fun g2 st2 w2 t2 a2 q1 q2 q3 q4 q5 q6=>hq g2 st2 w2 t2 a2 q1 q2 q3 (l1.le.trans q4) (fun b0=>(s1 b0).trans (q5 b0)) (q6.trans YK)
  . rw [if_neg (by rw [hw];simp)]
    obtain ⟨t2,k1,k2⟩:=ht1.fin (o:=o) (R.cst Go.undef) h;exact ⟨fun _ _=>trivial,Jn hD hΓ r g st w t2 _ hg k2 k1 fun g2 st2 w2 t2 a2 q1 q2 q3 q4 q5 q6=>hq g2 st2 w2 t2 a2 q1 q2 q3 q4 q5 (q6.trans YK)⟩
def qXN (c:Code):List Oper:=match c with | .seq (.region _ o _) _=>o.toList | _=>[]
def qjb (c:Code):List Oper:=match c with | .seq _ (.seq (.region _ o _) _)=>o.toList | _=>[]
def qar (c:Code):Code:=match c with | .seq _ (.seq _ r)=>r | c=>c
theorem qmA:qO Tryz.f98= .seq (.region 0 (qXN (qO Tryz.f98)).toArray false) (.seq (.region 1 (qjb (qO Tryz.f98)).toArray false) (qar (qO Tryz.f98))):=by kernel_rfl
abbrev qti:List ResultVar:=[.cell 2 85,.cell 3 3,.cell 4 28]
def q12 (A:Kn) (B:Kn):Kc:=fun x t s=>match x with
 | .ret=>qqH D t s qti fun l=>A (qki l) s
 | .pan v=>get t 2= .pt 0 0/\get t 3= .pt 1 0/\get t 4= .pt 2 0/\B v s
 | _=>False
def qyA:St:=[some (.cells x0),some (.cells [.int .i64 0]),some (.cells [.int .i64 0])]
def t12 (s:ByteArray):Tm:=[(0,.str s),(2,.pt 0 0),(3,.pt 1 0),(4,.pt 2 0)]
def qm7 (K:Kn) (s:ByteArray) (a:Sx×Nat×List UInt8):Prop:=K (.tu [.ag [.bool a.1.isList,.str a.1.atom,.sl false .sexp a.1.list],.int .i64 ((s.size:Int) - (a.2.2.length:Int)),.int .i64 0]) []
def qlC (K:Kn) (e:Int):Prop:=K (.tu [.ag x0,.int .i64 0,.int .i64 e]) []
theorem quB (s:ByteArray) (K B:Kn):(Ws D (vG [(150,qqW)] []) (vv [(150,qqW)]) [] [] 17 ⟨3,0⟩ 0 (qar (qO Tryz.f98)) (q12 (settle0 K) B) (t12 s) qyA)=
  (w8 (1,s,0,0,())/\Res.go (yQ ((13:Int) - 1).toNat (0:Int).toNat ((bl s).drop (0:Int).toNat)) (qm7 K s)
   (fun e=> ∀(p m:Int),(T.pt 0 0= .pt 0 0/\T.pt 1 0= .pt 1 0/\T.pt 2 0= .pt 2 0/\B (.ic 170 (.ag [.int .i64 e])) (stF 0 0 x0 s p m [])))):=by kernel_rfl
theorem quI (s:ByteArray) (K:Kn) (e p m:Int):(qqH D [(2,.pt 0 0),(3,.pt 1 0),(4,.pt 2 0)] (stF 0 e x0 s p m [.int .i64 e]) qti fun l=>settle0 K (qki l) (stF 0 e x0 s p m [.int .i64 e]))=qlC K e:=by kernel_rfl
theorem qrw (s:ByteArray) (A:Tm->St->Prop):Qk D (vG [] []) 17 (qXN (qO Tryz.f98)).toArray (qXN (qO Tryz.f98)) [(0,.str s)] [] A (fun _ _ _=>False)=A [(0,.str s),(2,.pt 0 0),(3,.pt 1 0),(4,.pt 2 0)] qyA:=by kernel_rfl
theorem qoG (s:ByteArray) (A:Tm->St->Prop):Qk D (vG [] []) 17 (qjb (qO Tryz.f98)).toArray ((qjb (qO Tryz.f98)).take 1) (t12 s) qyA A (fun _ _ _=>False)=A (put (t12 s) 6 (.fn 149 [] [.pt 0 0,.pt 1 0,.pt 2 0])) qyA:=by kernel_rfl
theorem Q6 {P:Program} {b0:B0} {g g':G P} {st st':St} {w w':World} (h:Step b0 g st w g' st' w') {k:Nat} {cs:List T} (hk:k<b0.b) (ho:st[k]? =some (some (.cells cs))) {y:Value} (hr:R g (.pt k 0) y):R g' (.pt k 0) y:=by
 obtain ⟨_,_,_,h3⟩:=h.kept k hk _ ho;cases hr with
 | pt _ _ oi h1=>exact .pt _ _ oi (by rw [h3];exact h1)
theorem qz1 {P:Program} {b0:B0} {g g':G P} {st st':St} {w w':World} (h:Step b0 g st w g' st' w'):Step ⟨0,0⟩ g st w g' st' w':=
 {h with kept:=fun _ h=>absurd h (Ja7 _),fixd:=fun _ h=>absurd h (Ja7 _)}
def qJg (c:Code):Oper:=(qjb c).getD 1 default
theorem qfc:(qjb (qO Tryz.f98)).drop 1=[(qJg (qO Tryz.f98))]:=by kernel_rfl
theorem qet:(qJg (qO Tryz.f98)).op= .defer {callee:= .value (.tmp 6),args:= #[],argTypes:= #[]}:=by kernel_rfl
theorem qy1:(qJg (qO Tryz.f98)).guard=none:=by kernel_rfl
theorem Xx:(qJg (qO Tryz.f98)).dst=none:=by kernel_rfl
def erB (K:Kn) (s:ByteArray):Kn:=fun v s'=> ∃e p m,v= .ic 170 (.ag [.int .i64 e])/\s'=stF 0 0 x0 s p m []/\qlC K e
theorem qoH (s:ByteArray) (K X:Kn) (hs:w8 (1,s,0,0,())) (h:Res.go (yQ 12 0 (bl s)) (qm7 K s) (qlC K)):FCalls Tryz.prog 98 [.str s] [] K X:=by
 refine FCalls.settle0 fun g w hg=>Qw.of (by unfold vT;rw [Tryz.func98];kernel_rfl) fun args hrl=> ?_
 refine callsIn_wide.1 (callsIn_of_wp_marks (F:=WF none) (n:=0) Tryz.func98 (c:=qO Tryz.f98) rfl trivial ?_);rw [qmA,Tryz.ntmps98];have hΓ:jV Tryz.prog (vG [] []):=yz (rs:=[]) (l:=[]) (fun p hp=>by cases hp) (fun p hp=>by cases hp)
 refine wpIn_seq (wpIn_region_lit (Eq.mp (congrArg (fun L=>wpListIn (WF none) 0 Tryz.prog (qXN (qO Tryz.f98)).toArray _ L _ w) (List.append_nil (qXN (qO Tryz.f98)))) (Jn (rest:=[]) V7 hΓ (qXN (qO Tryz.f98)) g [] w (YO 0 [.str s]) _ hg (qzo (n:=17) hrl (by simp)) (Eq.mpr (qrw s fun t' s'=>t'=t12 s/\s'=qyA) ⟨rfl,rfl⟩) ?_)))
 rintro g1 _ w1 _ a1 ⟨rfl,rfl⟩ p1 p2 p3 p4 p5;refine wpIn_seq (wpIn_region_lit (Eq.mp (congrArg (fun L=>wpListIn (WF none) 0 Tryz.prog (qjb (qO Tryz.f98)).toArray _ L _ w1) (Jcn 1 (qjb (qO Tryz.f98)))) (Jn (rest:=(qjb (qO Tryz.f98)).drop 1) V7 hΓ ((qjb (qO Tryz.f98)).take 1) g1 qyA w1 (t12 s) a1 p1 p2 (Eq.mpr (qoG s fun t' s'=>t'=put (t12 s) 6 (.fn 149 [] [.pt 0 0,.pt 1 0,.pt 2 0])/\s'=qyA) ⟨rfl,rfl⟩) ?_)))
 rintro g2 _ w2 _ a2 ⟨rfl,rfl⟩ r1 r2 r3 r4 r5;rw [qfc];unfold wpListIn;rw [if_pos (by simp [Region.wanted,qy1])]
 refine ⟨fun _ _=>trivial, ?_⟩
 have hv:R g2 (.fn 149 [] [.pt 0 0,.pt 1 0,.pt 2 0]) (a2.tmps.getD 6 Go.undef):=r2.val 6;obtain ⟨y0,y1,y2,e6,z0,z1,z2⟩: ∃y0 y1 y2,a2.tmps.getD 6 Go.undef= .func (.func 149) #[] #[y0,y1,y2]/\R g2 (.pt 0 0) y0/\R g2 (.pt 1 0) y1/\R g2 (.pt 2 0) y2:=by
  generalize a2.tmps.getD 6 Go.undef=z at hv;cases hv with
  | fn _ _ _ xs ys k0 k1 k2 k3 k4=>
   obtain rfl:xs= #[]:=Jbn (by simpa using k1.symm)
   obtain ⟨l⟩:=ys;match l,k2,k4 with
   | [y0,y1,y2],_,k4=>exact ⟨y0,y1,y2,rfl,k4 0 _ _ rfl rfl,k4 1 _ _ rfl rfl,k4 2 _ _ rfl rfl⟩
  | yl _ _ yi _ _ k0=>cases k0
 have hrun:((qJg (qO Tryz.f98)).semAt (WF none).round a2.eval).run Tryz.prog w2= .ok (.defer {target:= .fn (.func 149) #[y0,y1,y2],args:= #[]}) w2:=by
  show (execOp a2.eval (qJg (qO Tryz.f98))).run Tryz.prog w2=_
  simp [execOp,qet,resolve,Act.eval,e6,Deferred.ofValue,go_sem]
 rw [hrun,Oper.uponIn_defer];obtain ⟨o0,rfl,u0⟩: ∃oi:OI,y0= .pointer (some ⟨oi.b,0,none⟩)/\g2.ob 0 0=some oi:=by cases z0 with | pt _ _ oi k=>exact ⟨oi,rfl,k⟩
 obtain ⟨o1,rfl,u1⟩: ∃oi:OI,y1= .pointer (some ⟨oi.b,0,none⟩)/\g2.ob 1 0=some oi:=by cases z1 with | pt _ _ oi k=>exact ⟨oi,rfl,k⟩
 obtain ⟨o2,rfl,u2⟩: ∃oi:OI,y2= .pointer (some ⟨oi.b,0,none⟩)/\g2.ob 2 0=some oi:=by cases z2 with | pt _ _ oi k=>exact ⟨oi,rfl,k⟩
 have rsz:=r2.size;have rv:=r2.val;letI B:Bd Tryz.prog:=bdS Tryz.prog [{target:= .fn (.func 149) #[.pointer (some ⟨o0.b,0,none⟩),.pointer (some ⟨o1.b,0,none⟩),.pointer (some ⟨o2.b,0,none⟩)],args:= #[]}] (by
  intro d hd D e;simp only [Jbf,Jb4,or_false] at hd;rw [hd] at e;cases e)
 have hd0:a2.defers=[]:=by rw [r5,p5]
 have h':w8 (1,s,0,0,())/\Res.go (yQ ((13:Int) - 1).toNat (0:Int).toNat ((bl s).drop (0:Int).toNat)) (qm7 K s)
   (fun e=> ∀(p m:Int),(T.pt 0 0= .pt 0 0/\T.pt 1 0= .pt 1 0/\T.pt 2 0= .pt 2 0/\(erB K s) (.ic 170 (.ag [.int .i64 e])) (stF 0 0 x0 s p m []))):=by
  refine ⟨hs, ?_⟩;show Res.go (yQ 12 0 (bl s)) _ _
  cases hr:yQ 12 0 (bl s)with
  | ok a=>rw [hr] at h;exact h
  | err e=>rw [hr] at h;exact fun p m=>⟨rfl,rfl,rfl,e,p,m,rfl,rfl,h⟩
 have hrs:jV Tryz.prog (vG [(150,qqW)] []):=yz (rs:=[(150,qqW)]) (l:=[]) (by intro p hp;simp only [Jbf,Jb4,or_false] at hp;subst hp;exact qWa) (fun p hp=>by cases hp)
 refine wpIn_mono (@zW Tryz.prog B D (vG [(150,qqW)] []) (vv [(150,qqW)]) 17 ⟨3,0⟩ V7 hrs we rfl [] [] 0 (qar (qO Tryz.f98)) (vU (by kernel_rfl)) _ _ _ (Eq.mpr (quB s K (erB K s)) h') none (.inr (by kernel_rfl)) g2 w2 _ r1 ?ht) ?_
 case ht=>
  refine ⟨?_,⟨[], ?_,fun _=>rfl,by simp⟩, ?_,qxt _ ?_⟩
  . rw [Xx];exact rsz
  . rw [Xx];show _::a2.defers=_;rw [hd0];rfl
  . rw [Xx];simp [Act.put,hd0]
  . rw [Xx];simp only [t12,List.forall_mem_cons,Jb4,false_imp_iff,implies_true,and_true];exact ⟨rv 0,rv 2,rv 3,rv 4⟩
 rintro x a' w' ⟨x0',g',t',st',hq,q1,q2,q3,q4⟩;obtain ⟨ms,m1,m2,_⟩:=q3.defers;have m1:a'.defers=ms++B.bd:=m1;rw [m2 rfl,List.nil_append] at m1;have hst:Step ⟨0,0⟩ g [] w g' st' w':=((p4 _).trans (r4 _)).trans (qz1 q4);have b0:=Q6 q4 (k:=0) (by decide) rfl z0
 have b1:=Q6 q4 (k:=1) (by decide) rfl z1
 have b2:=Q6 q4 (k:=2) (by decide) rfl z2
 have hinv: ∀w:World,(invoke (.fn (.func 149) #[.pointer (some ⟨o0.b,0,none⟩),.pointer (some ⟨o1.b,0,none⟩),.pointer (some ⟨o2.b,0,none⟩)]) #[]).run Tryz.prog w= .ok (.enter 149 #[.pointer (some ⟨o0.b,0,none⟩),.pointer (some ⟨o1.b,0,none⟩),.pointer (some ⟨o2.b,0,none⟩)]) w:=fun w=>by
  simp [invoke,go_sem]
 cases x0' with
 | ret=>
  cases x<;>first | (exact q1.elim) | skip
  show LeavesInM (WF none) 0 Tryz.prog Tryz.f98 a'.tmps _ a'.defers .returning w'
  rw [m1];refine ⟨by simp,.inr ⟨fun h=>(by cases h),.func 149,_,149,_,rfl,hinv w',fun _ _=>trivial,(qka _ _ _ w').mono ?_⟩⟩
  rintro e u' w3 ⟨rfl,rfl,y,rfl⟩;obtain ⟨v1,v2⟩:=WU (w':=w'.alloc (.cells #[y] 170)) q2 rfl rfl rfl (by show w'.heap.size<=(w'.heap.push _).size;simp) (fun b hb=>Below.heap_alloc w' _ b hb)
  have ht: @RelT Tryz.prog bdNone g' 17 t' {tmps:=a'.tmps,defers:=[]}:= @RelT.mk Tryz.prog bdNone _ _ _ _ q3.size ⟨[],rfl,fun _=>rfl,by simp⟩ (by simp) q3.val
  obtain ⟨x,v,c1,c2,c3⟩:=yX (fn:=Tryz.f98) (K:=fun v=>settle0 K v st') V7 v1 ht hq
  exact ⟨x,c2,g',st',v1,hst.trans (v2 _),v,c1,c3⟩
 | pan v=>
  cases x<;>first | (exact q1.elim) | skip
  obtain ⟨t0,t1,t2,e,p,m,rfl,rfl,hk⟩:=hq;obtain ⟨v,rfl,hv⟩:=q1;obtain rfl:v= .iface 170 (.agg #[.int .i64 e]):=by
   cases hv with
   | ic _ _ x hx=>
    cases hx with
    | ag _ xs k1 k2 k3=>
     obtain ⟨l⟩:=xs;match l,k1,k2 with
     | [z],_,k2=>
      have:=k2 0 _ _ rfl rfl;cases this;rfl
  show LeavesInM (WF none) 0 Tryz.prog Tryz.f98 a'.tmps _ a'.defers (.panicking _) w'
  rw [m1];refine ⟨by simp,.inr ⟨fun h=>(by cases h),.func 149,_,149,_,rfl,hinv w',fun _ _=>trivial,(qyF q2 b0 b1 b2).mono ?_⟩⟩
  rintro e' u' w3 ⟨rfl,rfl,g3,v1,v2⟩;have c0:=Q6 v2 (k:=0) (by decide) rfl (t0▸q3.val 2)
  have c1:=Q6 v2 (k:=1) (by decide) rfl (t1▸q3.val 3)
  have c2:=Q6 v2 (k:=2) (by decide) rfl (t2▸q3.val 4)
  have ht: @RelT Tryz.prog bdNone g3 17 [(2,.pt 0 0),(3,.pt 1 0),(4,.pt 2 0)] {tmps:=a'.tmps,defers:=[]}:= @RelT.mk Tryz.prog bdNone _ _ _ _ q3.size ⟨[],rfl,fun _=>rfl,by simp⟩ (by simp) (qxt _ (by
   simp only [List.forall_mem_cons,Jb4,false_imp_iff,implies_true,and_true];exact ⟨c0,c1,c2⟩))
  obtain ⟨x,v,c1,c2,c3⟩:=yX (fn:=Tryz.f98) (K:=fun v=>settle0 K v (stF 0 e x0 s p m [.int .i64 e])) V7 v1 ht (Eq.mpr (quI s K e p m) hk)
  exact ⟨x,c2,g3,_,v1,hst.trans (qz1 v2),v,c1,c3⟩
 | _=>exact hq.elim
end
section
open Go.RowKit
def kj (s:ByteArray):Sx×Int×Int:=match yQ 12 0 (bl s)with
 | .ok a=>(a.1,(s.size:Int) - (a.2.2.length:Int),0)
 | .err e=>(⟨false,⟨#[]⟩,[]⟩,0,e)
def qhj (s:ByteArray):Prop:=s.size<=2147483648
def qn8:Sp:=⟨[.leaf],[.str],fun g=>qhj g.1,fun g=> .tu [.ag [.bool (kj g.1).1.isList,.str (kj g.1).1.atom,.sl false .sexp (kj g.1).1.list],.int .i64 (kj g.1).2.1,.int .i64 (kj g.1).2.2],fun _=>none⟩
theorem qvt {K:Kn} {b:Bool} {a:ByteArray} {v u:T} {s:St} (h:K (.tu [.ag [.bool b,.str a,.sl false .sexp []],v,u]) s):zI K (.tu [.ag [.bool b,.str a,.nil],v,u]) s:=
 ⟨_,zl.tu (qA.cons Kq (qA.cons (zl.refl _) (qA.cons (zl.refl _) qA.nil))),h⟩
theorem qfR:qn8.Ok Tryz.prog 98 false:=
 .mk (by
  rintro ⟨s,⟨⟩⟩ K X q1 h;have q1:s.size<=2147483648:=q1;have h:K (.tu [.ag [.bool (kj s).1.isList,.str (kj s).1.atom,.sl false .sexp (kj s).1.list],.int .i64 (kj s).2.1,.int .i64 (kj s).2.2]) []:=h;refine FCalls.weak (qoH s _ X ⟨⟨Int.le_refl 1,(by omega:(1:Int)<=13)⟩,⟨Int.le_refl 0,Int.natCast_nonneg _,(by unfold zV;omega:s.size<=2*zV)⟩,Int.le_refl 0,(by omega:(0:Int)<=20000)⟩ ?_)
  unfold kj at h;cases hr:yQ 12 0 (bl s)with
  | ok a=>rw [hr] at h;exact ZT h
  | err e=>rw [hr] at h;exact qvt h)
def J8 (x:Sx):Int:=if (wL x 0 false 1).2=true then 4 else shS x
def ckN (x:Sx):Int:=if 20000<cnt x 20000 12 then 4 else ckR x
def sx0:Sx:=⟨false,⟨#[]⟩,[]⟩
def zj (s:ByteArray):Sx×Int:=if (kj s).2.2=0 then (if (kj s).2.1=(s.size:Int)then ((kj s).1,0)else (sx0,12))else (sx0,(kj s).2.2)
def vE (n:Int):Sx×Int:=if n< -1099511627776∨1099511627776<n then (sx0,2)else (⟨false,jd n,[]⟩,0)
end
section
open Go.RowKit
attribute [local irreducible] zb qa
def qA4:List (Nat×Hint):=[(2,⟨[((2,[]),none),((5,[]),none),((6,[]),none)],[(2,.pt 0 0),(5,.pt 1 0),(6,.pt 2 0)],[.cells [.leaf,.leaf,.nil],.cells [.leaf,.leaf,.leaf],.cells [.leaf,.leaf,.leaf,.leaf]],[.bool,.str,.bool,.str,.sl .sexp,.str,.int .i64,.int .i64,.int .i64]⟩)]
abbrev qtJ:List Sh:=[.leaf]
abbrev qgb:List Lf:=[.str]
def Ww (K:Kn) (f:Bool) (g:ByteArray) (b:Bool) (c:ByteArray) (d:List Sx) (h:ByteArray) (e i a:Int):Prop:=
 bif !decide (a=0)then (
  K (.tu [.ag [.bool false,.str (⟨#[]⟩:ByteArray),.nil],.int .i64 0,.int .i64 a]) [])
 else (
  K (.tu [.ag [.bool b,.str c,.sl false .sexp d],.int .i64 e,.int .i64 0]) [])
def qBy (g:prodL qgb) (K:Kn):Prop:=
 kE (g.1,0,20000,0,12,())/\
 Res.go (yQ (12:Int).toNat (20000- (20000:Int)).toNat ((bl g.1).drop (0:Int).toNat)) (fun a=>
 Ww K false (⟨#[]⟩:ByteArray) a.1.isList a.1.atom a.1.list g.1 ((g.1.size:Int) - (a.2.2.length:Int)) (20000- (a.2.1:Int)) 0) (fun b=> ∀(y5:Sx) (p3 m4:Int),
 Ww K false (⟨#[]⟩:ByteArray) y5.isList y5.atom y5.list g.1 p3 m4 b)
theorem qcz (g:prodL qgb) (K X:Kn) (h:qBy g K):FCalls Tryz.prog 103 (argsT qtJ qgb g) [] K X:=
 FCalls.settle0 (qw Tryz.func103 Tryz.ntmps103 Tryz.results103 (qd qab qj) qz [] qA4 (by kernel_rfl) (by kernel_rfl) h)
abbrev S50:List Sh:=[.leaf]
abbrev L50:List Lf:=[.str]
def F50 (g:prodL L50) (K:Kn):Prop:=
 qn8.pre (g.1,())/\
 bif !decide ((kj g.1).2.2=0)then (
  K (.tu [.ag [.bool false,.str (⟨#[]⟩:ByteArray),.nil],.int .i64 ((kj g.1).2.2)]) [])
 else (
  bif !decide ((kj g.1).2.1=(g.1.size:Int))then (
  K (.tu [.ag [.bool false,.str (⟨#[]⟩:ByteArray),.nil],.int .i64 12]) [])
 else (
  K (.tu [.ag [.bool ((kj g.1).1.isList),.str ((kj g.1).1.atom),.sl false .sexp ((kj g.1).1.list)],.int .i64 0]) []))
theorem qox (g:prodL L50) (K X:Kn) (h:F50 g K):FCalls Tryz.prog 50 (argsT S50 L50 g) [] K X:=
 FCalls.settle0 (qw Tryz.func50 Tryz.ntmps50 Tryz.results50 qj (qx qfR qz) [] [] (by kernel_rfl) (by kernel_rfl) h)
abbrev quM:List Sh:=[.ag [.leaf,.leaf,.leaf]]
abbrev qhQ:List Lf:=[.bool,.str,.sl .sexp]
def qCv (g:prodL qhQ) (K:Kn):Prop:=
 qkb (g.1,g.2.1,g.2.2.1,1,0,false,())/\
 bif (wL ⟨g.1,g.2.1,g.2.2.1⟩ 0 false 1).2 then (
  K (.int .i64 4) [])
 else (
  qlx.pre (g.1,g.2.1,g.2.2.1,())/\
 K (.int .i64 (shS ⟨g.1,g.2.1,g.2.2.1⟩)) [])
theorem qeh (g:prodL qhQ) (K X:Kn) (h:qCv g K):FCalls Tryz.prog 151 (argsT quM qhQ g) [] K X:=
 FCalls.settle0 (qw Tryz.func151 Tryz.ntmps151 Tryz.results151 (qd qKt qj) (qx qaK qz) [] [] (by kernel_rfl) (by kernel_rfl) h)
abbrev quX:List Sh:=[.ag [.leaf,.leaf,.leaf]]
abbrev qhV:List Lf:=[.bool,.str,.sl .sexp]
def qBh (g:prodL qhV) (K:Kn):Prop:=
 qhD.pre (g.1,g.2.1,g.2.2.1,20000,12,())/\
 bif decide (20000<cnt ⟨g.1,g.2.1,g.2.2.1⟩ 20000 12)then (
  K (.int .i64 4) [])
 else (
  qio.pre (g.1,g.2.1,g.2.2.1,())/\
 K (.int .i64 (ckR ⟨g.1,g.2.1,g.2.2.1⟩)) [])
theorem qeG (g:prodL qhV) (K X:Kn) (h:qBh g K):FCalls Tryz.prog 131 (argsT quX qhV g) [] K X:=
 FCalls.settle0 (qw Tryz.func131 Tryz.ntmps131 Tryz.results131 qj (qx qW2 (qx qVK qz)) [] [] (by kernel_rfl) (by kernel_rfl) h)
def qCf:List (Nat×Hint):=[(2,⟨[((2,[]),none)],[(0,.leaf),(2,.pt 0 0),(9,.leaf)],[.cells [.leaf,.leaf,.nil]],[.int .i64,.bool,.bool,.str]⟩)]
abbrev qpJ:List Sh:=[.leaf]
abbrev qdq:List Lf:=[.int .i64]
def qjc (K:Kn) (a:Int) (b c:Bool) (d:ByteArray):Prop:=
 bif b then (
  K (.tu [.ag [.bool false,.str (⟨#[]⟩:ByteArray),.nil],.int .i64 2]) [])
 else (
  qZF.pre (a,())/\
 K (.tu [.ag [.bool false,.str (jd a),.nil],.int .i64 0]) [])
def qsJ (g:prodL qdq) (K:Kn):Prop:=
 bif decide (g.1< (-1099511627776))then (
  qjc K g.1 true false (⟨#[]⟩:ByteArray))
 else (
  qjc K g.1 (decide (1099511627776<g.1)) false (⟨#[]⟩:ByteArray))
theorem qgj (g:prodL qdq) (K X:Kn) (h:qsJ g K):FCalls Tryz.prog 170 (argsT qpJ qdq g) [] K X:=
 FCalls.settle0 (qw Tryz.func170 Tryz.ntmps170 Tryz.results170 qj (qx Kz qz) [] qCf (by kernel_rfl) (by kernel_rfl) h)
end
section
open Go.RowKit
def dg1 (a:Nat) (c:UInt8):Nat:=10*a+(c.toNat-48)
def dv (a:Nat) (l:List UInt8):Nat:=l.foldl dg1 a
theorem kQ (a:Nat):dv a []=a:=rfl
theorem xO (a:Nat) (c:UInt8) (l:List UInt8):dv a (c::l)=dv (10*a+(c.toNat-48)) l:=List.foldl_cons ..
theorem qQy: ∀(l m:List UInt8) (a:Nat),dv a (l++m)=dv (dv a l) m
 | [],_,_=>by rw [kQ,List.nil_append]
 | c::l,m,a=>by rw [List.cons_append,xO,xO,qQy l m]
theorem qzP: ∀(l:List UInt8) (a:Nat),a<=dv a l
 | [],a=>Jam a
 | c::l,a=>by
  have h:=qzP l (10*a+(c.toNat-48));rw [xO];generalize dv (10*a+(c.toNat-48)) l=z at h;omega
attribute [irreducible] dv
theorem qiN (l m:List UInt8):xg (l++m)=(xg l&&xg m):=by simp [xg]
theorem Qj (c:UInt8) (l:List UInt8):xg (c::l)=true↔(48<=c.toNat/\c.toNat<=57)/\xg l=true:=by simp [xg]
theorem Q2 (k:Nat) (h:k<10):(UInt8.ofNat (48+k)).toNat=48+k:=by
 rw [UInt8.toNat_ofNat'];omega
theorem qyO (u:Nat):dv 0 (Lib.decDigits u)=u:=by
 induction u using Nat.strongRecOn with
 | ind u ih=>
  by_cases h:u<10
  . rw [Lib.decDigits_one h];rw [xO,kQ,Q2 u h];omega
  . rw [Lib.decDigits,dif_neg h,qQy,ih (u / 10) (by omega)]
    rw [xO,kQ,Q2 (u%10) (by omega)];omega
theorem yU (u:Nat):xg (Lib.decDigits u)=true:=by
 induction u using Nat.strongRecOn with
 | ind u ih=>
  by_cases h:u<10
  . rw [Lib.decDigits,dif_pos h];rw [Qj,Q2 u h];exact ⟨by omega,rfl⟩
  . rw [Lib.decDigits,dif_neg h,qiN,ih (u / 10) (by omega),Jci,Qj,Q2 (u%10) (by omega)]
    exact ⟨by omega,rfl⟩
theorem VX (u:Nat):Lib.decDigits u≠[]:=by
 by_cases h:u<10
 . rw [Lib.decDigits,dif_pos h];simp
 . rw [Lib.decDigits,dif_neg h];simp
theorem qqi (u:Nat):jH (Lib.decDigits u)=true->u=0:=by
 induction u using Nat.strongRecOn with
 | ind u ih=>
  by_cases h:u<10
  . rw [Lib.decDigits,dif_pos h];simp only [jH,Q2 u h,Jbk];omega
  . rw [Lib.decDigits,dif_neg h];intro h1;have:=ih (u / 10) (by omega)
    cases hd:Lib.decDigits (u / 10)with
    | nil=>exact absurd hd (VX _)
    | cons c r=>
     rw [hd] at h1 this;have:=this h1;omega
theorem qlf {d:List UInt8} (h1:xg d=true) (h2:d≠[]) (h3:jH d=false):1<=dv 0 d:=by
 cases d with
 | nil=>exact absurd rfl h2
 | cons c r=>
  simp only [jH,Jb6] at h3;have:=((Qj c r).1 h1).1;have h5:=qzP r (10*0+(c.toNat-48));rw [xO];omega
theorem qwW: ∀(n:Nat) (d:List UInt8),d.length=n->xg d=true->d≠[]->(jH d=false∨d=[48])->Lib.decDigits (dv 0 d)=d
 | 0,d,hn,_,h,_=>absurd (Jan hn) h
 | n+1,d,hn,h1,h2,h3=>by
  obtain ⟨d',c,rfl⟩: ∃d' c,d=d'++[c]:=⟨d.dropLast,d.getLast h2,(List.dropLast_concat_getLast h2).symm⟩;rw [qiN,Jaq] at h1;obtain ⟨h1,hc⟩:=h1;have hc:=((Qj c []).1 hc).1;have e:UInt8.ofNat (48+(c.toNat-48))=c:=by
   apply UInt8.toNat_inj.1;rw [Q2 _ (by omega)];omega
  rw [qQy,xO,kQ];by_cases hd:d'=[]
  . subst hd;rw [Lib.decDigits,dif_pos (by rw [kQ];omega)]
    simp only [kQ,Nat.mul_zero,Jbj,e,List.nil_append]
  . have hh:jH d'=false:=by
     cases d' with
     | nil=>exact absurd rfl hd
     | cons x r=>
      rcases h3 with h3 | h3
      . exact h3
      . simp at h3
    have hp:=qlf h1 hd hh;have ih:=qwW n d' (by simp at hn;exact hn) h1 hd (.inl hh)
    rw [Lib.decDigits,dif_neg (by omega),show (10*dv 0 d'+(c.toNat-48)) / 10=dv 0 d' by omega,ih,show (10*dv 0 d'+(c.toNat-48))%10=c.toNat-48 by omega,e]
def Xe (l:List UInt8):Int×Int:=
 let m:=dv 0 (if l.head?=some 45 then l.tail else l)
 if 1099511627776<m then (0,2)else (if l.head?=some 45 then -(m:Int)else m,0)
theorem VW {d:List UInt8} (h:xg d=true):d.head?≠some 45:=by
 cases d with
 | nil=>simp
 | cons c r=>
  have:=((Qj c r).1 h).1;simp only [List.head?_cons,ne_eq,Jah];rintro rfl;exact absurd this.1 (by decide)
theorem qa1 (n:Int):QV (Lib.itoa n)=true:=by
 unfold Lib.itoa;split
 . rename_i h;have h1:=yU n.natAbs;have h2:=VX n.natAbs;have h3:jH (Lib.decDigits n.natAbs)=false:=by
    cases hh:jH (Lib.decDigits n.natAbs)with
    | false=>rfl
    | true=>have:=qqi _ hh;omega
   simp [QV,h1,h2,h3]
 . rename_i h;have h1:=yU n.toNat;have h2:=VX n.toNat;have h4:=VW h1;simp only [QV,if_neg h4,h1,h2,decide_false,Ja4,Bool.and_true,Jci,Bool.or_eq_true,Bool.not_eq_true',Jbk];cases hh:jH (Lib.decDigits n.toNat)with
   | false=>exact .inl rfl
   | true=>
    have:=qqi _ hh;rw [this];exact .inr (by rw [Lib.decDigits];rfl)
theorem qKh {n:Int} (h: ¬(n< -1099511627776∨1099511627776<n)):Xe (Lib.itoa n)=(n,0):=by
 unfold Lib.itoa;split
 . rename_i h';simp only [Xe,List.head?_cons,if_true,List.tail_cons,qyO];rw [if_neg (by omega)]
   simp only [Jbg,and_true];omega
 . rename_i h';have h4:=VW (yU n.toNat);simp only [Xe,if_neg h4,qyO];rw [if_neg (by omega)]
   simp only [Jbg,and_true];omega
theorem qJv: ∀(l:List UInt8),Kb l=QV l
 | []=>rfl
 | c::r=>by
  have key: ∀d:List UInt8,d.head?≠some 45->d≠[]->(Kb d=(xg d&&(!jH d||decide (d=[48])))):=fun d h1 h2=>by
   cases d with
   | nil=>exact absurd rfl h2
   | cons c r=>
    have hc: ¬(c.toNat=45/\r≠[]):=fun h=>h1 (by rw [List.head?_cons,Jah];exact UInt8.toNat_inj.1 h.1)
    rw [Kb,if_neg hc];congr 1
    simp only [jH];by_cases h48:c.toNat=48
    . have:c=48:=UInt8.toNat_inj.1 h48;subst this;simp
    . simp [h48]
  by_cases h45:c=45
  . subst h45;by_cases hr:r=[]
    . subst hr;rfl
    . rw [Kb,if_pos ⟨rfl,hr⟩];simp only [QV,List.head?_cons,if_true,List.tail_cons];by_cases hh:r.head?=some 45
      . have:xg r=false:=by
         cases hd:xg r with
         | false=>rfl
         | true=>exact absurd hh (VW hd)
        simp [hh,this]
      . rw [key r hh hr];have e:((45:UInt8)::r=[48])=False:=by simp
        simp only [hh,decide_false,Ja4,Bool.and_true,hr,e,Jcm];by_cases h48:r=[48]
        . subst h48;simp [jH]
        . simp [h48]
  . rw [key (c::r) (by simpa using h45) (by simp)]
    simp only [QV,List.head?_cons,Jah,if_neg h45];simp
theorem Yo: ∀(l:List UInt8) (a:Nat),xg l=true->a<18446744073709551616->(dv a l<18446744073709551616->Lib.parseUint10 a l= .ok (dv a l))/\(18446744073709551616<=dv a l->Lib.parseUint10 a l= .range)
 | [],a,_,ha=>by
  rw [kQ];exact ⟨fun _=>rfl,fun h=>by omega⟩
 | c::l,a,h,ha=>by
  obtain ⟨h1,h2⟩:=(Qj c l).1 h;rw [xO,Lib.parseUint10,if_pos h1];have h3:=qzP l (10*a+(c.toNat-48));have e:a*10+(c.toNat-48)=10*a+(c.toNat-48):=by omega
  rw [e];by_cases k1:1844674407370955162<=a
  . rw [if_pos k1];exact ⟨fun h=>by omega,fun _=>rfl⟩
  . rw [if_neg k1];by_cases k2:18446744073709551616<=10*a+(c.toNat-48)
    . rw [if_pos k2];exact ⟨fun h=>by omega,fun _=>rfl⟩
    . rw [if_neg k2];exact Yo l _ h2 (by omega)
theorem qqs (r:List UInt8):Xe (45::r)=if 1099511627776<dv 0 r then (0,2)else (-(dv 0 r:Int),0):=rfl
theorem K5 {l:List UInt8} (h:l.head?≠some 45):Xe l=if 1099511627776<dv 0 l then (0,2)else ((dv 0 l:Int),0):=by simp only [Xe,if_neg h]
theorem qad {l:List UInt8} (h:QV l=true):(Lib.atoiAll l= .range/\Xe l=(0,2))∨ ∃v,Lib.atoiAll l= .ok v/\Xe l=(if v< -1099511627776∨1099511627776<v then (0,2)else (v,0)):=by
 simp only [QV,Jaq,Bool.not_eq_true',Jb6,Bool.or_eq_true,Jbk] at h;obtain ⟨⟨h1,h2⟩, -⟩:=h;by_cases h45:l.head?=some 45
 . simp only [if_pos h45] at h1 h2;obtain ⟨r,rfl⟩: ∃r,l=45::r:=by
    cases l with
    | nil=>simp at h45
    | cons c r=>simp at h45;exact ⟨r,by rw [h45]⟩
   simp only [List.tail_cons] at h1 h2;rw [qqs,Lib.atoiAll_minus,Lib.parseMag,if_neg h2];obtain ⟨p1,p2⟩:=Yo r 0 h1 (by omega)
   by_cases hz:dv 0 r<18446744073709551616
   . rw [p1 hz];simp only [Lib.signed];by_cases hw:9223372036854775808<dv 0 r
     . rw [if_pos hw,if_pos (by omega)]
       exact .inl ⟨rfl,rfl⟩
     . rw [if_neg hw];refine .inr ⟨_,rfl, ?_⟩;by_cases hv:1099511627776<dv 0 r
       . rw [if_pos hv,if_pos (by omega)]
       . rw [if_neg hv,if_neg (by omega)]
   . rw [p2 (by omega),if_pos (show 1099511627776<_ by omega)]
     exact .inl ⟨rfl,rfl⟩
 . simp only [if_neg h45] at h1 h2;cases l with
   | nil=>exact absurd rfl h2
   | cons c r=>
    have hc:=((Qj c r).1 h1).1;rw [K5 h45,Lib.atoiAll_plain c r (by omega) (by omega),Lib.parseMag,if_neg h2]
    obtain ⟨p1,p2⟩:=Yo (c::r) 0 h1 (by omega)
    by_cases hz:dv 0 (c::r) <18446744073709551616
    . rw [p1 hz];simp only [Lib.signless];by_cases hw:9223372036854775808<=dv 0 (c::r)
      . rw [if_pos hw,if_pos (by omega)]
        exact .inl ⟨rfl,rfl⟩
      . rw [if_neg hw];refine .inr ⟨_,rfl, ?_⟩;by_cases hv:1099511627776<dv 0 (c::r)
        . rw [if_pos hv,if_pos (by omega)]
        . rw [if_neg hv,if_neg (by omega)]
    . rw [p2 (by omega),if_pos (show 1099511627776<_ by omega)]
      exact .inl ⟨rfl,rfl⟩
def nmB (e:Int) (x:Sx):Int×Int:=if e=0 then (if x.isList=true then (0,8)else if QV (bl x.atom)=true then Xe (bl x.atom)else (0,3))else (0,e)
end
section
open Go.RowKit
theorem vn {p:Prop} [Decidable p] {A B:Prop}:(bif !decide p then A else B)=if p then B else A:=by
 by_cases h:p<;>simp [h]
theorem qfG {s:ByteArray} (q1:s.size<=2147483648):kE (s,0,20000,0,12,()):=
 ⟨⟨Int.le_refl 0,Int.natCast_nonneg _,(by unfold zV;omega:s.size<=2*zV)⟩,⟨(by omega:(0:Int)<=20000),Int.le_refl 20000⟩,rfl,(by omega:(0:Int)<=12),Int.le_refl 12⟩
def qly:Sp:=⟨qtJ,qgb,fun g=>qhj g.1,qn8.res,fun _=>none⟩
theorem qWT:qly.Ok Tryz.prog 103 false:=
 .mk (by
  rintro ⟨s,⟨⟩⟩ K X q1 h;have h:K (.tu [.ag [.bool (kj s).1.isList,.str (kj s).1.atom,.sl false .sexp (kj s).1.list],.int .i64 (kj s).2.1,.int .i64 (kj s).2.2]) []:=h;refine FCalls.weak (qcz (s,()) (zI K) X ⟨qfG q1, ?_⟩);show Res.go (yQ 12 0 (bl s)) _ _
  have hs:=yM 12 0 (bl s) (by omega)
  unfold kj at h;cases hr:yQ 12 0 (bl s)with
  | ok a=>rw [hr] at h;exact ZT h
  | err e=>
   rw [hr] at h;intro y p m;show Ww _ _ _ _ _ _ _ _ _ _
   unfold Ww;rw [vn,if_neg (by rcases hs.2 e hr with rfl | rfl<;>omega)]
   exact qvt h)
def qnX:Sp:=⟨S50,L50,fun g=>qhj g.1,fun g=> .tu [.ag [.bool (zj g.1).1.isList,.str (zj g.1).1.atom,.sl false .sexp (zj g.1).1.list],.int .i64 (zj g.1).2],fun _=>none⟩
theorem qfl:qnX.Ok Tryz.prog 50 false:=
 .mk (by
  rintro ⟨s,⟨⟩⟩ K X q1 h;have h:K (.tu [.ag [.bool (zj s).1.isList,.str (zj s).1.atom,.sl false .sexp (zj s).1.list],.int .i64 (zj s).2]) []:=h;refine FCalls.weak (qox (s,()) (zI K) X ⟨q1, ?_⟩);unfold zj at h;rw [vn,vn];dsimp only at *;split at h
  . rename_i h1;rw [if_pos h1];split at h
    . rename_i h2;rw [if_pos h2];exact ZT h
    . rename_i h2;rw [if_neg h2];exact jf h
  . rename_i h1;rw [if_neg h1];exact jf h)
def qY4:Sp:=⟨qpJ,qdq,fun g=>jg g.1,fun g=> .tu [.ag [.bool (vE g.1).1.isList,.str (vE g.1).1.atom,.sl false .sexp (vE g.1).1.list],.int .i64 (vE g.1).2],fun _=>none⟩
theorem qVh:qY4.Ok Tryz.prog 170 false:=
 .mk (by
  rintro ⟨n,⟨⟩⟩ K X q1 h;have h:K (.tu [.ag [.bool (vE n).1.isList,.str (vE n).1.atom,.sl false .sexp (vE n).1.list],.int .i64 (vE n).2]) []:=h;refine FCalls.weak (qgj (n,()) (zI K) X ?_);unfold qsJ;dsimp only;rw [qQ];unfold vE at h;by_cases h1:n< -1099511627776
  . rw [if_pos (.inl h1)] at h;rw [if_pos h1];exact jf h
  . rw [if_neg h1];unfold qjc;rw [qQ];by_cases h2:1099511627776<n
    . rw [if_pos (.inr h2)] at h;rw [if_pos h2];exact jf h
    . rw [if_neg (fun e=>e.elim h1 h2)] at h
      rw [if_neg h2];exact ⟨q1,jf h⟩)
def bkP (g:prodL [.bool,.str,.sl .sexp]):Prop:=jv ⟨g.1,g.2.1,g.2.2.1⟩<=zV
def qaC:Sp:=⟨quM,qhQ,bkP,fun g=> .int .i64 (J8 ⟨g.1,g.2.1,g.2.2.1⟩),fun _=>none⟩
theorem qw4:qaC.Ok Tryz.prog 151 true:=
 .mk (by
  rintro ⟨b,a,l,⟨⟩⟩ K X q1 h;have h:K (.int .i64 (J8 ⟨b,a,l⟩)) []:=h;have q1:jv ⟨b,a,l⟩<=zV:=q1;refine qeh (b,a,l,()) K X ⟨?_, ?_⟩
  . have hn:=qxP ⟨b,a,l⟩;have q2:=q1;rw [jr] at q2;exact ⟨q1,⟨Int.le_refl 0,(by omega:(0:Int)+(zK ⟨b,a,l⟩:Int)<=1099511627776)⟩,(by omega:(0:Int)<=1),(by omega:(1:Int)+(zK ⟨b,a,l⟩:Int)<=1099511627776)⟩
  . unfold J8 at h;dsimp only;cases hm:(wL ⟨b,a,l⟩ 0 false 1).2 with
    | true=>rw [hm] at h;exact h
    | false=>rw [hm] at h;exact ⟨q1,h⟩)
def qav:Sp:=⟨quX,qhV,bkP,fun g=> .int .i64 (ckN ⟨g.1,g.2.1,g.2.2.1⟩),fun _=>none⟩
theorem qvL:qav.Ok Tryz.prog 131 true:=
 .mk (by
  rintro ⟨b,a,l,⟨⟩⟩ K X q1 h;have h:K (.int .i64 (ckN ⟨b,a,l⟩)) []:=h;have q1:jv ⟨b,a,l⟩<=zV:=q1;refine qeG (b,a,l,()) K X ⟨?_, ?_⟩
  . exact ⟨q1,⟨(by omega:(0:Int)<=20000),(by omega:(20000:Int)<=1099511627776)⟩,(by omega:(0:Int)<=12),(by omega:(12:Int)<=1099511627776)⟩
  . unfold ckN at h;dsimp only;rw [qQ];split at h
    . rename_i h1;rw [if_pos h1];exact h
    . rename_i h1;rw [if_neg h1];exact ⟨q1,h⟩)
end
section
open Go.RowKit
attribute [local irreducible] zb qa
abbrev S56:List Sh:=[.leaf]
abbrev L56:List Lf:=[.str]
def F56 (g:prodL L56) (K:Kn):Prop:=
 qly.pre (g.1,())/\
 bif !decide ((kj g.1).2.2=0)then (
  K (.tu [.ag [.bool false,.str (⟨#[]⟩:ByteArray),.nil],.int .i64 ((kj g.1).2.2)]) [])
 else (
  bif decide ((kj g.1).2.1< (g.1.size:Int))then (
  K (.tu [.ag [.bool false,.str (⟨#[]⟩:ByteArray),.nil],.int .i64 12]) [])
 else (
  K (.tu [.ag [.bool ((kj g.1).1.isList),.str ((kj g.1).1.atom),.sl false .sexp ((kj g.1).1.list)],.int .i64 0]) []))
theorem qnY (g:prodL L56) (K X:Kn) (h:F56 g K):FCalls Tryz.prog 56 (argsT S56 L56 g) [] K X:=
 FCalls.settle0 (qw Tryz.func56 Tryz.ntmps56 Tryz.results56 qj (qx qWT qz) [] [] (by kernel_rfl) (by kernel_rfl) h)
abbrev qrt:List Sh:=[.ag [.leaf,.leaf,.leaf]]
abbrev qfy:List Lf:=[.bool,.str,.sl .sexp]
def qAE (g:prodL qfy) (K:Kn):Prop:=
 qaC.pre (g.1,g.2.1,g.2.2.1,())/\
 bif !decide (J8 ⟨g.1,g.2.1,g.2.2.1⟩=0)then (
  K (.tu [.int .i64 0,.int .i64 (J8 ⟨g.1,g.2.1,g.2.2.1⟩)]) [])
 else (
  bif g.1 then (
  K (.tu [.int .i64 0,.int .i64 8]) [])
 else (
  qiV.pre (g.2.1,())/\
  bif !(QV (bl g.2.1))then (
   K (.tu [.int .i64 0,.int .i64 3]) [])
  else (
   qZr (g.2.1,())/\
 Res.go (qzW g.2.1) (fun a=>
 bif decide (a< (-1099511627776))then (
  K (.tu [.int .i64 0,.int .i64 2]) [])
 else (
  bif decide (1099511627776<a)then (
  K (.tu [.int .i64 0,.int .i64 2]) [])
 else (
  K (.tu [.int .i64 a,.int .i64 0]) []))) (fun b=>
 K (.tu [.int .i64 0,.int .i64 2]) []))))
theorem qfr (g:prodL qfy) (K X:Kn) (h:qAE g K):FCalls Tryz.prog 100 (argsT qrt qfy g) [] K X:=
 FCalls.settle0 (qw Tryz.func100 Tryz.ntmps100 Tryz.results100 (qd qKv qj) (qx qw4 (qx qaD qz)) [] [] (by kernel_rfl) (by kernel_rfl) h)
def qB1:List (Nat×Hint):=[(11,⟨[],[(5,.leaf),(6,.leaf),(7,.leaf),(8,.leaf)],[],[.str,.int .i64,.int .i64,.int .i64]⟩)]
def qBI:List (Nat×Hint):=[(12,⟨[],[(5,.leaf),(6,.leaf),(7,.leaf),(8,.leaf)],[],[.str,.int .i64,.int .i64,.int .i64]⟩)]
abbrev qtw:List Sh:=[.ag [.leaf,.leaf,.leaf]]
abbrev qfU:List Lf:=[.bool,.str,.sl .sexp]
def Wb (K:Kn) (a:prodL [.str,.int .i64,.int .i64,.int .i64]->Prop) (b:ByteArray) (c d e:Int):Prop:=
 a (b,c,d,IntKind.i64.wrap (e+1),())
def qjy (K:Kn) (d:prodL [.str,.int .i64,.int .i64,.int .i64]->Prop) (a:ByteArray) (c e b:Int):Prop:=
 bif decide (b< (a.size:Int))then (
  qs a b fun g=>
 bif decide (g=45)then (
  Wb K d a c (-1) b)
 else (
  qs a b fun f=>
 bif decide (1099511627776<IntKind.i64.wrap ((IntKind.i64.wrap (c*10))+(IntKind.i64.wrap (IntKind.u8.wrap (f-48)))))then (
  K (.tu [.int .i64 0,.int .i64 2]) [])
 else (
  Wb K d a (IntKind.i64.wrap ((IntKind.i64.wrap (c*10))+(IntKind.i64.wrap (IntKind.u8.wrap (f-48))))) e b)))
 else (
  K (.tu [.int .i64 (IntKind.i64.wrap (e*c)),.int .i64 0]) [])
def qxz (K:Kn) (g:prodL [.str,.int .i64,.int .i64,.int .i64]):Prop:=
 qy (γ:=prodL [.str,.int .i64,.int .i64,.int .i64]) (fun V y=>qjy K V y.1 y.2.1 y.2.2.1 y.2.2.2.1) g
def qAG (g:prodL qfU) (K:Kn):Prop:=
 qav.pre (g.1,g.2.1,g.2.2.1,())/\
 bif !decide (ckN ⟨g.1,g.2.1,g.2.2.1⟩=0)then (
  K (.tu [.int .i64 0,.int .i64 (ckN ⟨g.1,g.2.1,g.2.2.1⟩)]) [])
 else (
  bif g.1 then (
  K (.tu [.int .i64 0,.int .i64 8]) [])
 else (
  qie.pre (g.2.1,())/\
 bif !(Kb (bl g.2.1))then (
  K (.tu [.int .i64 0,.int .i64 3]) [])
 else (
  qxz K (g.2.1,0,1,0,()))))
theorem qdH (g:prodL qfU) (K X:Kn) (h:qAG g K):FCalls Tryz.prog 105 (argsT qtw qfU g) [] K X:=
 FCalls.settle0 (qw Tryz.func105 Tryz.ntmps105 Tryz.results105 qj (qx qvL (qx qWo qz)) qB1 qBI (by kernel_rfl) (by kernel_rfl) h)
abbrev qpM:List Sh:=[.leaf]
abbrev qw5:List Lf:=[.int .i64]
def qkQ (Z:prodL qw5->Prop):Sp:=⟨qpM,qw5,Z,fun g=> .str (jd g.1),fun _=>none⟩
def qmG (Z:prodL qw5->Prop) (g:prodL qw5) (K:Kn):Prop:=
 bif decide (g.1<0)then (
  bif decide (g.1< (-9223372036854775807))then (
   K (.str (⟨#[45,57,50,50,51,51,55,50,48,51,54,56,53,52,55,55,53,56,48,56]⟩:ByteArray)) [])
  else (
   Z (IntKind.i64.wrap (0-g.1),())/\
  ql ((⟨#[45]⟩:ByteArray).size+(jd (IntKind.i64.wrap (0-g.1))).size) 1 (
  K (.str ((⟨#[45]⟩:ByteArray)++(jd (IntKind.i64.wrap (0-g.1))))) [])))
 else (
  bif decide (g.1<10)then (
  K (.str (xk [(IntKind.u8.wrap (IntKind.i64.wrap (48+g.1)))])) [])
 else (
  ¬10=(0:Int)/\
 Z (IntKind.i64.wrap (Int.tdiv g.1 10),())/\
 ¬10=(0:Int)/\
 ql ((jd (IntKind.i64.wrap (Int.tdiv g.1 10))).size+(xk [(IntKind.u8.wrap (IntKind.i64.wrap (48+(Int.tmod g.1 10))))]).size) 1 (
 K (.str ((jd (IntKind.i64.wrap (Int.tdiv g.1 10)))++(xk [(IntKind.u8.wrap (IntKind.i64.wrap (48+(Int.tmod g.1 10))))]))) [])))
theorem qdf (Z:prodL qw5->Prop) (hZ:(qkQ Z).Ok Tryz.prog 185 true) (g:prodL qw5) (K X:Kn) (h:qmG Z g K):FCalls Tryz.prog 185 (argsT qpM qw5 g) [] K X:=
 FCalls.settle0 (qw Tryz.func185 Tryz.ntmps185 Tryz.results185 qj (qx hZ qz) [] [] (by kernel_rfl) (by kernel_rfl) h)
end
section
open Go.RowKit
def qt2:Sp:=⟨S56,L56,fun g=>qhj g.1,qnX.res,fun _=>none⟩
theorem qoJ (s:ByteArray):(kj s).2.1<=(s.size:Int):=by
 unfold kj;split
 . dsimp only;omega
 . dsimp only;omega
theorem qhe:qt2.Ok Tryz.prog 56 false:=
 .mk (by
  rintro ⟨s,⟨⟩⟩ K X q1 h;have h:K (.tu [.ag [.bool (zj s).1.isList,.str (zj s).1.atom,.sl false .sexp (zj s).1.list],.int .i64 (zj s).2]) []:=h;refine FCalls.weak (qnY (s,()) (zI K) X ⟨q1, ?_⟩);have hle:=qoJ s;unfold zj at h;rw [vn,qQ];dsimp only at *;split at h
  . rename_i h1;rw [if_pos h1];split at h
    . rename_i h2;rw [if_neg (by omega)];exact ZT h
    . rename_i h2;rw [if_pos (by omega)];exact jf h
  . rename_i h1;rw [if_neg h1];exact jf h)
def nmG (x:Sx):Int×Int:=nmB (J8 x) x
def nmN (x:Sx):Int×Int:=nmB (ckN x) x
def qi8:Sp:=⟨qrt,qfy,bkP,fun g=> .tu [.int .i64 (nmG ⟨g.1,g.2.1,g.2.2.1⟩).1,.int .i64 (nmG ⟨g.1,g.2.1,g.2.2.1⟩).2],fun _=>none⟩
theorem qVZ:qi8.Ok Tryz.prog 100 true:=
 .mk (by
  rintro ⟨b,a,l,⟨⟩⟩ K X q1 h;have h:K (.tu [.int .i64 (nmB (J8 ⟨b,a,l⟩) ⟨b,a,l⟩).1,.int .i64 (nmB (J8 ⟨b,a,l⟩) ⟨b,a,l⟩).2]) []:=h;have q2:jv ⟨b,a,l⟩<=zV:=q1;have hsz:a.size<=1073741824:=by have:=(vg q2).2.1;rw [jr] at this;exact this
  refine qfr (b,a,l,()) K X ⟨q1, ?_⟩;unfold nmB at h;dsimp only;rw [vn];by_cases h0:J8 ⟨b,a,l⟩=0
  . rw [if_pos h0] at h;rw [if_pos h0];cases b with
    | true=>exact h
    | false=>
     refine ⟨(by omega:a.size<=4294967296), ?_⟩
     rw [if_neg (by simp)] at h
     cases hc:QV (bl a)with
     | false=>rw [hc] at h;exact h
     | true=>
      rw [hc,if_pos rfl] at h;rcases qad hc with ⟨e1,e2⟩ | ⟨v,e1,e2⟩
      . refine ⟨⟨(by omega:a.size<=2147483648),.inr e1⟩, ?_⟩
        unfold qzW;rw [e1];rw [e2] at h;exact h
      . refine ⟨⟨(by omega:a.size<=2147483648),.inl ⟨v,e1⟩⟩, ?_⟩
        unfold qzW;rw [e1];rw [e2] at h;show bif decide (v< -1099511627776)then _ else _
        rw [qQ,qQ];by_cases k1:v< -1099511627776
        . rw [if_pos (.inl k1)] at h;rw [if_pos k1];exact h
        . rw [if_neg k1];by_cases k2:1099511627776<v
          . rw [if_pos (.inr k2)] at h;rw [if_pos k2];exact h
          . rw [if_neg (fun e=>e.elim k1 k2)] at h;rw [if_neg k2];exact h
  . rw [if_neg h0] at h;rw [if_neg h0];exact h)
def qqu (K:Kn) (m:Nat) (sg:Int) (r:List UInt8):Prop:=if 1099511627776<dv m r then K (.tu [.int .i64 0,.int .i64 2]) [] else K (.tu [.int .i64 (sg*(dv m r:Int)),.int .i64 0]) []
theorem qJS {s:ByteArray} {K:Kn} (hs:s.size<=4294967296) (h:(xg (bl s)=true/\qqu K 0 1 (bl s))∨ ∃r,bl s=45::r/\xg r=true/\qqu K 0 (-1) r):qxz K (s,0,1,0,()):=by
 have hl:=jz s;unfold qxz;refine qy.fold (bl s) (fun n (a:Nat×Int)=>(s,(a.1:Int),a.2,(n:Int),()))
  (fun r n a=>(xg r=true/\a.1<=1099511627776/\(a.2=1∨a.2= -1)/\qqu K a.1 a.2 r)∨ ∃r',r=45::r'/\xg r'=true/\a=(0,1)/\qqu K 0 (-1) r') (a0:=(0,1)) rfl ?_ (fun a hp W=> ?_) (fun n hn r a hr hp W hW=> ?_)
 . rcases h with ⟨h1,h2⟩ | ⟨r,h1,h2,h3⟩
   . exact .inl ⟨h1,by decide,.inl rfl,h2⟩
   . exact .inr ⟨r,h1,h2,rfl,h3⟩
 . unfold qjy;rw [qQ,if_neg (by dsimp only;omega)]
   rcases hp with ⟨_,k1,k2,k3⟩ | ⟨r',k,_⟩
   . unfold qqu at k3;rw [kQ,if_neg (by omega)] at k3
     dsimp only;rw [qE (by rcases k2 with k2 | k2<;>rw [k2]<;>omega) (by rcases k2 with k2 | k2<;>rw [k2]<;>omega)]
     exact k3
   . cases k
 . unfold qjy;have hd:(bl s).drop n=(bl s)[n]::r:=by rw [hr];exact Jb1 hn
   generalize (bl s)[n]=c at *;rw [qQ,if_pos (by dsimp only;omega)]
   refine ze hd ?_;rw [qQ];have hw:IntKind.i64.wrap ((n:Int)+1)=((n+1:Nat):Int):=zd (N:=4294967296) (by omega) (by omega)
   rcases hp with ⟨d1,k1,k2,k3⟩ | ⟨r',k,d1,rfl,k3⟩
   . obtain ⟨⟨c1,c2⟩,c3⟩:=(Qj c r).1 d1;rw [if_neg (by omega)]
     refine ze hd ?_;dsimp only;have e1:IntKind.u8.wrap ((c.toNat:Int) - 48)=(c.toNat:Int) - 48:=by simp [IntKind.wrap,IntKind.bits,IntKind.signed];omega
     rw [e1,qE (n:=(a.1:Int)*10) (by omega) (by omega),qE (n:=(c.toNat:Int) - 48) (by omega) (by omega),qE (by omega) (by omega)]
     have e2:(a.1:Int)*10+((c.toNat:Int) - 48)=((10*a.1+(c.toNat-48):Nat):Int):=by omega
     rw [e2,qQ];unfold qqu at k3;rw [xO] at k3;have hle:=qzP r (10*a.1+(c.toNat-48));by_cases hb:1099511627776<10*a.1+(c.toNat-48)
     . rw [if_pos (by omega)] at k3
       rw [if_pos (by omega)]
       exact k3
     . rw [if_neg (by omega)]
       unfold Wb;rw [hw];exact hW (10*a.1+(c.toNat-48),a.2) (.inl ⟨c3,(by omega:10*a.1+(c.toNat-48)<=1099511627776),k2,k3⟩)
   . simp only [Jbx] at k;obtain ⟨rfl,rfl⟩:=k;rw [if_pos (show (((45:UInt8).toNat:Nat):Int)=45 from rfl)]
     unfold Wb;rw [hw];exact hW (0, -1) (.inl ⟨d1,by decide,.inr rfl,k3⟩)
def qiy:Sp:=⟨qtw,qfU,bkP,fun g=> .tu [.int .i64 (nmN ⟨g.1,g.2.1,g.2.2.1⟩).1,.int .i64 (nmN ⟨g.1,g.2.1,g.2.2.1⟩).2],fun _=>none⟩
theorem qew {K:Kn} {l:List UInt8} (hc:QV l=true) (h:K (.tu [.int .i64 (Xe l).1,.int .i64 (Xe l).2]) []):(xg l=true/\qqu K 0 1 l)∨ ∃r,l=45::r/\xg r=true/\qqu K 0 (-1) r:=by
 simp only [QV,Jaq,Bool.not_eq_true',Jb6,Bool.or_eq_true,Jbk] at hc;obtain ⟨⟨h1,h2⟩, -⟩:=hc;by_cases h45:l.head?=some 45
 . simp only [if_pos h45] at h1 h2;obtain ⟨r,rfl⟩: ∃r,l=45::r:=by
    cases l with
    | nil=>simp at h45
    | cons c r=>simp at h45;exact ⟨r,by rw [h45]⟩
   rw [qqs] at h;refine .inr ⟨r,rfl,h1, ?_⟩;unfold qqu;split at h
   . rename_i k;rw [if_pos k];exact h
   . rename_i k;rw [if_neg k,Int.neg_mul,Int.one_mul];exact h
 . simp only [if_neg h45] at h1 h2;rw [K5 h45] at h;refine .inl ⟨h1, ?_⟩;unfold qqu;split at h
   . rename_i k;rw [if_pos k];exact h
   . rename_i k;rw [if_neg k,Int.one_mul];exact h
theorem qVs:qiy.Ok Tryz.prog 105 true:=
 .mk (by
  rintro ⟨b,a,l,⟨⟩⟩ K X q1 h;have h:K (.tu [.int .i64 (nmB (ckN ⟨b,a,l⟩) ⟨b,a,l⟩).1,.int .i64 (nmB (ckN ⟨b,a,l⟩) ⟨b,a,l⟩).2]) []:=h;have q2:jv ⟨b,a,l⟩<=zV:=q1;have hsz:a.size<=1073741824:=by have:=(vg q2).2.1;rw [jr] at this;exact this
  refine qdH (b,a,l,()) K X ⟨q1, ?_⟩;unfold nmB at h;dsimp only;rw [vn];by_cases h0:ckN ⟨b,a,l⟩=0
  . rw [if_pos h0] at h;rw [if_pos h0];cases b with
    | true=>exact h
    | false=>
     refine ⟨(by omega:a.size<=4294967296), ?_⟩
     rw [if_neg (by simp)] at h
     rw [qJv];cases hc:QV (bl a)with
     | false=>rw [hc] at h;exact h
     | true=>
      rw [hc,if_pos rfl] at h;exact qJS (by omega) (qew hc h)
  . rw [if_neg h0] at h;rw [if_neg h0];exact h)
end
section
open Go.RowKit
attribute [local irreducible] zb qa
end
section
open Go.RowKit
end
section
open Go.RowKit
attribute [local irreducible] zb qa
end
section
open Go.RowKit
theorem qyD:jv sx0=3:=rfl
theorem qlV (s:ByteArray):jv (kj s).1<=4*s.size+3:=by
 have hs:=yM 12 0 (bl s) (by omega)
 unfold kj;cases hr:yQ 12 0 (bl s)with
 | err e=>show jv sx0<=_;rw [qyD];omega
 | ok a=>
  obtain ⟨x,k,r⟩:=a;obtain ⟨⟨p,_,p2,p3⟩,_⟩:=hs.1 x k r hr;have:=jz s;rw [p2,Jak] at this;show jv x<=_
  omega
theorem qYX (s:ByteArray):jv (zj s).1<=4*s.size+3:=by
 have:=qlV s;unfold zj;split
 . split
   . exact this
   . show jv sx0<=_;rw [qyD];omega
 . show jv sx0<=_;rw [qyD];omega
theorem Zj: ∀(k u:Nat),u<10^(k+1)->(Lib.decDigits u).length<=k+1
 | 0,u,h=>by rw [Lib.decDigits_one (by omega)];simp
 | k+1,u,h=>by
  by_cases hu:u<10
  . rw [Lib.decDigits_one hu];simp
  . rw [Lib.decDigits,dif_neg hu,Jak];have:=Zj k (u / 10) (by rw [Nat.pow_succ] at h;omega)
    simp only [Jaj,Ja1];omega
theorem wC (n:Int):bl (jd n)=Lib.itoa n:=qZz _
theorem yI {n:Int} (h:jg n):(jd n).size<=21:=by
 rw [<- jz,wC];obtain ⟨h1,h2⟩: -9223372036854775808<=n/\n<=9223372036854775807:=h;unfold Lib.itoa;split
 . have:=Zj 19 n.natAbs (by omega)
   simp only [Jaj];omega
 . have:=Zj 19 n.toNat (by omega)
   omega
theorem qdm {a:ByteArray} (h:a.size<=65536):J8 ⟨false,a,[]⟩=0:=by
 simp [J8,wL,shS,qwZ];omega
end
section
open Go.RowKit
theorem Qr (a b:ByteArray):bl (a++b)=bl a++bl b:=by simp [bl,ByteArray.data_append]
theorem qeZ:jd (-9223372036854775808)=(⟨#[45,57,50,50,51,51,55,50,48,51,54,56,53,52,55,55,53,56,48,56]⟩:ByteArray):=by
 apply wm;rw [wC,Lib.itoa,if_pos (by decide)]
 have h:=qwW 19 [57,50,50,51,51,55,50,48,51,54,56,53,52,55,55,53,56,48,56] rfl (by decide) (by simp) (.inl (by decide))
 have e:dv 0 [57,50,50,51,51,55,50,48,51,54,56,53,52,55,55,53,56,48,56]=(-9223372036854775808:Int).natAbs:=by kernel_rfl
 rw [e] at h;rw [h];rfl
def dmu (n:Int):Nat:=if n<0 then n.natAbs+1 else n.toNat
theorem qgF {n:Int} (h:n<0):(⟨#[45]⟩:ByteArray)++jd (-n)=jd n:=by
 apply wm;rw [Qr,wC,wC,Lib.itoa,Lib.itoa,if_pos h,if_neg (by omega),show (-n).toNat=n.natAbs by omega]
 rfl
theorem qdX {n:Int} (h0: ¬n<0) (h:n<10):xk [48+n]=jd n:=by
 apply wm;rw [wC,Lib.itoa,if_neg h0,Lib.decDigits_one (by omega)]
 show [UInt8.ofNat (48+n).toNat]=_
 rw [show (48+n).toNat=48+n.toNat by omega]
theorem qYC {n:Int} (h0: ¬n<0) (h: ¬n<10):jd (n / 10)++xk [48+n%10]=jd n:=by
 apply wm;rw [Qr,wC,wC,Lib.itoa,Lib.itoa,if_neg h0,if_neg (by omega)]
 show _++[UInt8.ofNat (48+n%10).toNat]=_
 rw [show (48+n%10).toNat=48+n.toNat%10 by omega,show (n / 10).toNat=n.toNat / 10 by omega]
 conv=>rhs;rw [Lib.decDigits,dif_neg (show¬n.toNat<10 by omega)]
theorem qcx {Z:prodL qw5->Prop} {n:Int} {K:Kn} (hn:jg n) (hZ: ∀m,jg m->dmu m<dmu n->Z (m,())) (h:K (.str (jd n)) []):qmG Z (n,()) K:=by
 have hn': -9223372036854775808<=n/\n<=9223372036854775807:=hn;unfold qmG;dsimp only [prodL,Lf.ty];rw [qQ];by_cases h0:n<0
 . rw [if_pos h0,qQ];by_cases h1:n< -9223372036854775807
   . rw [if_pos h1];obtain rfl:n= -9223372036854775808:=by omega
     rw [qeZ] at h;exact h
   . rw [if_neg h1,qE (n:=0-n) (by omega) (by omega),show 0-n= -n by omega]
     have hm:jg (-n):=(⟨by omega,by omega⟩: -9223372036854775808<= -n/\ -n<=9223372036854775807)
     have hs:=yI hm;refine ⟨hZ _ hm (by unfold dmu;rw [if_pos h0,if_neg (by omega)];omega), ?_, ?_⟩
     . show (1+(jd (-n)).size)*1<=140737488355328
       omega
     . rw [qgF h0];exact h
 . rw [if_neg h0,qQ];by_cases h1:n<10
   . rw [if_pos h1,qE (n:=48+n) (by omega) (by omega),show IntKind.u8.wrap (48+n)=48+n by (simp [IntKind.wrap,IntKind.bits,IntKind.signed];omega),qdX h0 h1]
     exact h
   . rw [if_neg h1];have e1:Int.tdiv n 10=n / 10:=Int.tdiv_eq_ediv_of_nonneg (by omega)
     have e2:Int.tmod n 10=n%10:=Int.tmod_eq_emod_of_nonneg (by omega)
     rw [e1,e2,qE (n:=n / 10) (by omega) (by omega),qE (n:=48+n%10) (by omega) (by omega),show IntKind.u8.wrap (48+n%10)=48+n%10 by (simp [IntKind.wrap,IntKind.bits,IntKind.signed];omega)]
     have hm:jg (n / 10):=(⟨by omega,by omega⟩: -9223372036854775808<=n / 10/\n / 10<=9223372036854775807)
     have hs:=yI hm;refine ⟨by decide,hZ _ hm (by unfold dmu;rw [if_neg h0,if_neg (by omega)];omega),by decide, ?_, ?_⟩
     . show ((jd (n / 10)).size+1)*1<=140737488355328
       omega
     . rw [qYC h0 h1];exact h
def qai:Sp:=qkQ fun g=>jg g.1
theorem qze: ∀n,(qkQ fun g=>jg g.1/\dmu g.1<n).Ok Tryz.prog 185 true
 | 0=>⟨fun _ _ _ h _=>absurd h.2 (Ja7 _),fun _ _ _=>rfl,fun _=>rfl,fun _ _=>⟨rfl,rfl⟩⟩
 | n+1=>⟨by
   rintro ⟨k,⟨⟩⟩ K X ⟨q1,q2⟩ h;have q2:dmu k<n+1:=q2;exact qdf _ (qze n) _ _ X (qcx q1 (fun m h1 h2=>⟨h1,(by omega:dmu m<n)⟩) h),fun _ _ _=>rfl,fun _=>rfl,fun _ _=>⟨rfl,rfl⟩⟩
theorem qyx:qai.Ok Tryz.prog 185 true:=
 .mk (fun g K X hp h=>(qze (dmu g.1+1)).calls g K X ⟨hp,Jbw _⟩ h)
end
section
open Go.RowKit
attribute [local irreducible] zb qa
def qB2:List (Nat×Hint):=[(2,⟨[((2,[]),none)],[(0,.leaf),(2,.pt 0 0),(9,.leaf)],[.cells [.leaf,.leaf,.nil]],[.int .i64,.bool,.bool,.str]⟩)]
abbrev qsT:List Sh:=[.leaf]
abbrev qbF:List Lf:=[.int .i64]
def qxB (K:Kn) (a:Int) (b c:Bool) (d:ByteArray):Prop:=
 bif b then (
  K (.tu [.ag [.bool false,.str (⟨#[]⟩:ByteArray),.nil],.int .i64 2]) [])
 else (
  qai.pre (a,())/\
 K (.tu [.ag [.bool false,.str (jd a),.nil],.int .i64 0]) [])
def qte (g:prodL qbF) (K:Kn):Prop:=
 bif decide (g.1< (-1099511627776))then (
  qxB K g.1 true false (⟨#[]⟩:ByteArray))
 else (
  qxB K g.1 (decide (1099511627776<g.1)) false (⟨#[]⟩:ByteArray))
theorem qf0 (g:prodL qbF) (K X:Kn) (h:qte g K):FCalls Tryz.prog 133 (argsT qsT qbF g) [] K X:=
 FCalls.settle0 (qw Tryz.func133 Tryz.ntmps133 Tryz.results133 qj (qx qyx qz) [] qB2 (by kernel_rfl) (by kernel_rfl) h)
end
section
open Go.RowKit
def qlq:Sp:=⟨qsT,qbF,fun g=>jg g.1,qY4.res,fun _=>none⟩
theorem qYS:qlq.Ok Tryz.prog 133 false:=
 .mk (by
  rintro ⟨n,⟨⟩⟩ K X q1 h;have h:K (.tu [.ag [.bool (vE n).1.isList,.str (vE n).1.atom,.sl false .sexp (vE n).1.list],.int .i64 (vE n).2]) []:=h;refine FCalls.weak (qf0 (n,()) (zI K) X ?_);unfold qte;dsimp only;rw [qQ];unfold vE at h;by_cases h1:n< -1099511627776
  . rw [if_pos (.inl h1)] at h;rw [if_pos h1];exact jf h
  . rw [if_neg h1];unfold qxB;rw [qQ];by_cases h2:1099511627776<n
    . rw [if_pos (.inr h2)] at h;rw [if_pos h2];exact jf h
    . rw [if_neg (fun e=>e.elim h1 h2)] at h
      rw [if_neg h2];exact ⟨q1,jf h⟩)
mutual
def nn:Sx->Nat
 | ⟨b,_,l⟩=>if b=false then 1 else 1+nns l
def nns:List Sx->Nat
 | []=>0
 | x::l=>nn x+nns l
end
mutual
def dd:Sx->Nat
 | ⟨b,_,l⟩=>if b=false then 1 else 1+dds l
def dds:List Sx->Nat
 | []=>0
 | x::l=>max (dd x) (dds l)
end
theorem qok (x:Sx):1<=nn x:=by
 obtain ⟨b,a,l⟩:=x;simp only [nn];split<;>omega
theorem qmk (x:Sx):1<=dd x:=by
 obtain ⟨b,a,l⟩:=x;simp only [dd];split<;>omega
mutual
theorem X0: ∀(x:Sx) (m d:Int),(nn x:Int)<=m->(dd x:Int)<=d->cnt x m d=nn x
 | ⟨b,a,l⟩,m,d,h1,h2=>by
  simp only [nn,dd,cnt] at *;by_cases hb:b=false
  . rw [if_pos hb] at h1 h2 ⊢;rw [if_neg (by omega),if_pos hb];rfl
  . rw [if_neg hb] at h1 h2 ⊢;rw [if_neg (by omega),if_neg hb,qqV l m (d-1) 1 (by omega) (by omega)];omega
theorem qqV: ∀(l:List Sx) (m d n:Int),n+(nns l:Int)<=m->(dds l:Int)<=d->Zi l m d n=n+nns l
 | [],m,d,n,_,_=>by simp [Zi,nns]
 | x::l,m,d,n,h1,h2=>by
  simp only [nns,dds,Zi] at *;rw [if_pos (by omega),X0 x (m-n) d (by omega) (by omega),qqV l m d _ (by omega) (by omega)];omega
end
theorem qJq: ∀(l:List Sx) (m d n:Int),m<n->Zi l m d n=n
 | [],_,_,_,_=>rfl
 | x::l,m,d,n,h=>by simp only [Zi];rw [if_neg (by omega)]
mutual
theorem qan: ∀(x:Sx) (m d:Int),0<=m->cnt x m d<=m->(nn x:Int)<=m/\(dd x:Int)<=d
 | ⟨b,a,l⟩,m,d,h0,h=>by
  simp only [nn,dd,cnt] at *;by_cases hc:d<1∨m<1
  . rw [if_pos hc] at h;omega
  . rw [if_neg hc] at h;by_cases hb:b=false
    . rw [if_pos hb,if_pos hb];omega
    . rw [if_neg hb] at h;rw [if_neg hb,if_neg hb];have:=qQa l m (d-1) 1 (by omega) (by omega) h
      omega
theorem qQa: ∀(l:List Sx) (m d n:Int),n<=m->0<=d->Zi l m d n<=m->n+(nns l:Int)<=m/\(dds l:Int)<=d
 | [],m,d,n,h0,hd,_=>by simp only [nns,dds];omega
 | x::l,m,d,n,h0,hd,h=>by
  simp only [nns,dds,Zi] at *;rw [if_pos h0] at h;by_cases hc:n+cnt x (m-n) d<=m
  . obtain ⟨k1,k2⟩:=qan x (m-n) d (by omega) (by omega)
    rw [X0 x (m-n) d k1 k2] at h hc;have:=qQa l m d _ hc hd h;omega
  . rw [qJq l m d _ (by omega)] at h
    omega
end
theorem KK: ∀(l:List Sx) (n d:Int),wc l n true d=(n,true)
 | [],_,_=>rfl
 | x::l,n,d=>by simp only [wc,if_true]
mutual
theorem qjE: ∀(x:Sx) (n d:Int),(n+(nn x:Int)<=20000/\(dd x:Int)+d-1<=12->wL x n false d=(n+nn x,false))/\((wL x n false d).2=false->n+(nn x:Int)<=20000/\(dd x:Int)+d-1<=12)
 | ⟨b,a,l⟩,n,d=>by
  simp only [nn,dd,wL];by_cases hb:b=false
  . simp only [if_pos hb,Bool.false_or];refine ⟨fun h=> ?_,fun h=> ?_⟩
    . rw [Jab (by omega)];rfl
    . have:=Jad h;omega
  . simp only [if_neg hb,Bool.false_or];by_cases hc:20000<n+1∨12<d
    . rw [Jaa hc,KK];exact ⟨fun h=>by omega,fun h=>by cases h⟩
    . rw [Jab hc];obtain ⟨k1,k2⟩:=qwm l (n+1) (d+1) (by omega) (by omega)
      refine ⟨fun h=> ?_,fun h=> ?_⟩
      . rw [k1 (by omega)]
        simp only [Jbg,and_true];omega
      . have:=k2 h;omega
theorem qwm: ∀(l:List Sx) (n d:Int),n<=20000->d<=13->(n+(nns l:Int)<=20000/\(dds l:Int)+d-1<=12->wc l n false d=(n+nns l,false))/\((wc l n false d).2=false->n+(nns l:Int)<=20000/\(dds l:Int)+d-1<=12)
 | [],n,d,hn,hd=>by
  simp only [nns,dds,wc];exact ⟨fun _=>by simp,fun _=>by omega⟩
 | x::l,n,d,hn,hd=>by
  simp only [nns,dds,wc];rw [if_neg (by simp)]
  obtain ⟨k1,k2⟩:=qjE x n d;have hp:=qok x;by_cases hx:n+(nn x:Int)<=20000/\(dd x:Int)+d-1<=12
  . rw [k1 hx];obtain ⟨m1,m2⟩:=qwm l (n+nn x) d (by omega) hd
    refine ⟨fun h=> ?_,fun h=> ?_⟩
    . rw [m1 (by omega)]
      simp only [Jbg,and_true];omega
    . have:=m2 h;omega
  . refine ⟨fun h=>by omega,fun h=> ?_⟩
    cases hm:(wL x n false d).2 with
    | false=>exact absurd (k2 hm) hx
    | true=>rw [hm,KK] at h;cases h
end
mutual
theorem KZ: ∀x:Sx,shS x=ckR x
 | ⟨b,a,l⟩=>by
  simp only [shS,ckR];cases b with
  | false=>
   simp only [if_true,Ja5,false_and,false_or,true_and];by_cases hl:0<l.length
   . rw [if_pos hl,if_pos hl]
   . rw [if_neg hl,if_neg hl];have:l=[]:=Jan (by omega)
     subst this;rfl
  | true=>
   simp only [Bool.true_eq_false,if_false,true_and,false_and,or_false];by_cases ha:a≠⟨#[]⟩
   . rw [if_pos ha,if_pos ha]
   . rw [if_neg ha,if_neg ha];have:a=⟨#[]⟩:=Classical.not_not.1 ha;subst this;rw [if_neg (by decide),qzu l]
theorem qzu: ∀l:List Sx,qwZ l=qvT l
 | []=>rfl
 | x::l=>by simp only [qwZ,qvT,KZ x,qzu l]
end
theorem qvZ (x:Sx):J8 x=ckN x:=by
 unfold J8 ckN;rw [KZ];obtain ⟨k1,k2⟩:=qjE x 0 1;by_cases h:(0:Int)+(nn x:Int)<=20000/\(dd x:Int)+1-1<=12
 . rw [k1 h,if_neg (by simp),if_neg (by rw [X0 x 20000 12 (by omega) (by omega)];omega)]
 . have h1:(wL x 0 false 1).2=true:=by
    cases hm:(wL x 0 false 1).2 with
    | false=>exact absurd (k2 hm) h
    | true=>rfl
   rw [if_pos h1,if_pos];refine Int.not_le.1 fun hle=>h ?_
   have:=qan x 20000 12 (by omega) hle
   omega
end
section
open Go.RowKit
attribute [local irreducible] zb qa
end
section
open Go.RowKit
theorem quR (x:Sx):nmG x=nmN x:=by unfold nmG nmN;rw [qvZ]
end
section
open Go.RowKit
mutual
def Jq:Sx->List UInt8
 | ⟨b,a,l⟩=>if b=false then Lib.decDigits a.size++58::bl a else 40::(xF l++[41])
def xF:List Sx->List UInt8
 | []=>[]
 | x::l=>Jq x++xF l
end
mutual
theorem WL: ∀x:Sx,bl (vZ x)=Jq x
 | ⟨b,a,l⟩=>by
  simp only [vZ,Jq];split
  . rw [Qr,Qr,wC,Lib.itoa,if_neg (by omega),Jat];rfl
  . rw [Qr,qvQ l];rfl
theorem qvQ: ∀(l:List Sx) (s:ByteArray),bl (Vt l s)=bl s++xF l
 | [],s=>by simp [Vt,xF]
 | x::l,s=>by
  simp only [Vt,xF];rw [qvQ l,Qr,WL x,Jat]
end
theorem qVN: ∀(d:List UInt8) (n:Nat) (r:List UInt8),xg d=true->dv n d<=65536->1<=n->yV false n (d++58::r)= .ok (dv n d,r)
 | [],n,r,_,_,_=>by
  rw [kQ,List.nil_append,yV,if_pos ⟨rfl,rfl⟩]
 | c::d,n,r,h1,h2,h3=>by
  obtain ⟨c1,c2⟩:=(Qj c d).1 h1;rw [xO] at h2 ⊢;have:=qzP d (10*n+(c.toNat-48));rw [List.cons_append,yV,if_neg (by omega),if_neg (by simp;omega),if_neg (by omega)]
  exact qVN d _ r c2 h2 (by omega)
theorem qdM {u:Nat} (h:u<=65536) (r:List UInt8):yV true 0 (Lib.decDigits u++58::r)= .ok (u,r):=by
 have h1:=yU u;have h2:=qyO u;have h3:=qqi u;cases hd:Lib.decDigits u with
 | nil=>exact absurd hd (VX u)
 | cons c d=>
  rw [hd] at h1 h2 h3;obtain ⟨c1,c2⟩:=(Qj c d).1 h1;rw [xO] at h2;have hle:=qzP d (10*0+(c.toNat-48));rw [List.cons_append,yV,if_neg (by simp),if_neg (by simp;omega),if_neg (by omega)]
  by_cases h48:c.toNat=48
  . have hu:u=0:=h3 (by simp [jH,h48])
    subst hu;rw [Lib.decDigits_one (by omega)] at hd
    simp only [Jbx] at hd;obtain ⟨-,rfl⟩:=hd;rw [h48,List.nil_append,yV,if_pos ⟨rfl,rfl⟩]
  . rw [qVN d _ r c2 (by omega) (by omega),h2]
theorem qVC {a:List UInt8} (h:a.length<=65536) (r:List UInt8):yO (Lib.decDigits a.length++58::(a++r))= .ok (a,r):=by
 unfold yO Za;rw [qdM h];simp only;rw [if_neg (by simp),List.take_left,List.drop_left]
theorem qVz (x:Sx): ∃c l,Jq x=c::l/\c.toNat≠41:=by
 obtain ⟨b,a,l⟩:=x;simp only [Jq];split
 . have h1:=yU a.size;cases hd:Lib.decDigits a.size with
   | nil=>exact absurd hd (VX _)
   | cons c d=>
    rw [hd] at h1;have:=((Qj c d).1 h1).1;exact ⟨c,_,rfl,by omega⟩
 . exact ⟨40,_,rfl,by decide⟩
theorem qZb {f:Nat->List UInt8->Res (Sx×Nat×List UInt8) Int} {r:List UInt8}: ∀(xs:List Sx) (m k:Nat) (acc:List Sx),(xF xs).length<m->
  (∀x∈xs, ∀k' s,k<=k'->k'+nn x<=k+nns xs->f k' (Jq x++s)= .ok (x,k'+nn x,s))->rdL f m k (xF xs++41::r) acc= .ok (acc++xs,k+nns xs,r)
 | [],m,k,acc,hm,_=>by
  obtain ⟨m,rfl⟩: ∃m',m=m'+1:=⟨m-1,by omega⟩
  simp [xF,rdL,nns]
 | x::xs,m,k,acc,hm,h=>by
  simp only [xF,Jak] at hm;obtain ⟨m,rfl⟩: ∃m',m=m'+1:=⟨m-1,by omega⟩
  obtain ⟨c,t,e,h41⟩:=qVz x;have hx:=h x (by simp) k (xF xs++41::r) (Jam _) (by simp only [nns];omega)
  simp only [xF,nns,Jat];rw [e] at hx ⊢;rw [List.cons_append] at hx ⊢;simp only [rdL,if_neg h41,hx];have hlen:1<=(Jq x).length:=by rw [e];simp
  rw [qZb xs m (k+nn x) (acc++[x]) (by omega) fun y hy k' s h1 h2=>h y (Jbe _ hy) k' s (by omega) (by simp only [nns];omega)]
  simp [Nat.add_assoc]
theorem qKz: ∀{l:List Sx},qvT l=0-> ∀x∈l,ckR x=0
 | [],_,x,hx=>by simp at hx
 | y::l,h,x,hx=>by
  simp only [qvT] at h;split at h
  . rename_i h0;rcases Jbf.1 hx with rfl | hx
    . exact h0
    . exact qKz h x hx
  . rename_i h0;exact absurd h h0
theorem qYI: ∀{l:List Sx}, ∀x∈l,dd x<=dds l
 | [],x,hx=>by simp at hx
 | y::l,x,hx=>by
  simp only [dds];rcases Jbf.1 hx with rfl | hx
  . omega
  . have:=qYI x hx;omega
theorem qZC: ∀(d:Nat) (x:Sx) (k:Nat) (r:List UInt8),ckR x=0->dd x<=d->k+nn x<=20000->yQ d k (Jq x++r)= .ok (x,k+nn x,r)
 | 0,x,_,_,_,h,_=>by have:=qmk x;omega
 | d+1,⟨b,a,l⟩,k,r,h1,h2,h3=>by
  simp only [ckR,dd,nn] at h1 h2 h3;simp only [Jq,nn];cases b with
  | false=>
   simp only [if_true] at h1 h2 h3 ⊢;have hl:l=[]:=by
    by_cases hl:0<l.length
    . rw [if_pos hl] at h1;cases h1
    . exact Jan (by omega)
   subst hl;have ha:(bl a).length<=65536:=by
    rw [jz];by_cases ha:65536<a.size
    . rw [if_neg (by simp),if_pos ha] at h1;cases h1
    . omega
   have hat:=qVC ha r;have hd:=yU a.size;rw [jz] at hat;rw [Jat,List.cons_append];cases hc:Lib.decDigits a.size with
   | nil=>exact absurd hc (VX _)
   | cons c t=>
    rw [hc] at hat hd;have:=((Qj c t).1 hd).1;rw [List.cons_append] at hat ⊢;rw [yQ,if_neg (by omega),if_pos (by omega),hat]
    simp [qs0]
  | true=>
   simp only [Bool.true_eq_false,if_false] at h1 h2 h3 ⊢;have ha:a=⟨#[]⟩:=Classical.not_not.1 fun ha=>by rw [if_pos ha] at h1;cases h1
   subst ha;rw [if_neg (by simp)] at h1
   have he:(40:UInt8)::(xF l++[41])++r=40::(xF l++41::r):=by simp
   rw [he,yQ,if_neg (by omega),if_neg (by decide),qZb l _ (k+1) [] (by simp;omega) fun x hx k' s q1 q2=>qZC d x k' s (qKz h1 x hx) (by have:=qYI x hx;omega) (by omega)]
   simp [Nat.add_assoc]
theorem qaH {x:Sx} (h:J8 x=0):ckR x=0/\nn x<=20000/\dd x<=12:=by
 unfold J8 at h;obtain ⟨_,k2⟩:=qjE x 0 1;split at h
 . cases h
 . rename_i hm;have:=k2 (by simpa using hm)
   rw [KZ] at h;exact ⟨h,by omega,by omega⟩
theorem qKd {x:Sx} (h:J8 x=0) (r:List UInt8):yQ 12 0 (Jq x++r)= .ok (x,nn x,r):=by
 obtain ⟨h1,h2,h3⟩:=qaH h;rw [qZC 12 x 0 r h1 h3 (by omega),Jbj]
end
section
open Go.RowKit
end
section
open Go.RowKit
end
section
open Go.RowKit
attribute [local irreducible] zb qa
def qAy:List (Nat×Hint):=[(5,⟨[((1,[]),none)],[(1,.pt 0 0),(3,.leaf),(4,.leaf)],[.cells [.leaf,.leaf,.leaf]],[.str,.int .i64,.bool,.str,.sl .sexp]⟩)]
abbrev qps:List Sh:=[.ag [.leaf,.leaf,.leaf]]
abbrev qqE:List Lf:=[.bool,.str,.sl .sexp]
def qkI (Z:prodL qqE->Prop):Sp:=⟨qps,qqE,Z,fun g=> .str (vZ ⟨g.1,g.2.1,g.2.2.1⟩),fun _=>none⟩
def qxv (K:Kn) (Z:prodL qqE->Prop) (e:prodL [.str,.int .i64,.bool,.str,.sl .sexp]->Prop) (b:ByteArray) (c:Int) (f:Bool) (g:ByteArray) (d:List Sx):Prop:=
 bif decide (c< (d.length:Int))then (
  At d c fun a=>
 Z (a.isList,a.atom,a.list,())/\
 ql (b.size+(vZ ⟨a.isList,a.atom,a.list⟩).size) 1 (
 e (b++(vZ ⟨a.isList,a.atom,a.list⟩),IntKind.i64.wrap (c+1),f,g,d,())))
 else (
  ql (b.size+(⟨#[41]⟩:ByteArray).size) 1 (
 K (.str (b++(⟨#[41]⟩:ByteArray))) []))
def qZY (K:Kn) (Z:prodL qqE->Prop) (g:prodL [.str,.int .i64,.bool,.str,.sl .sexp]):Prop:=
 qy (γ:=prodL [.str,.int .i64,.bool,.str,.sl .sexp]) (fun V y=>qxv K Z V y.1 y.2.1 y.2.2.1 y.2.2.2.1 y.2.2.2.2.1) g
def qns (Z:prodL qqE->Prop) (g:prodL qqE) (K:Kn):Prop:=
 bif !g.1 then (
  qai.pre ((g.2.1.size:Int),())/\
  ql ((jd (g.2.1.size:Int)).size+(⟨#[58]⟩:ByteArray).size) 1 (
  ql (((jd (g.2.1.size:Int))++(⟨#[58]⟩:ByteArray)).size+g.2.1.size) 1 (
  K (.str (((jd (g.2.1.size:Int))++(⟨#[58]⟩:ByteArray))++g.2.1)) [])))
 else (
  qZY K Z ((⟨#[40]⟩:ByteArray),0,g.1,g.2.1,g.2.2.1,()))
theorem qd9 (Z:prodL qqE->Prop) (hZ:(qkI Z).Ok Tryz.prog 132 true) (g:prodL qqE) (K X:Kn) (h:qns Z g K):FCalls Tryz.prog 132 (argsT qps qqE g) [] K X:=
 FCalls.settle0 (qw Tryz.func132 Tryz.ntmps132 Tryz.results132 qj (qx qyx (qx hZ qz)) qAy [] (by kernel_rfl) (by kernel_rfl) h)
end
section
open Go.RowKit
mutual
theorem Y7: ∀x:Sx,jv x<=zV->(Jq x).length<=22*jv x
 | ⟨b,a,l⟩,h=>by
  simp only [jv] at h ⊢;simp only [Jq];have hl:=jr;split
  . have:=Zj 19 a.size (by omega)
    have:=jz a;simp only [Jak,Jaj];omega
  . have:=qzs l (by omega)
    simp only [Jak,Jaj,Ja1];omega
theorem qzs: ∀l:List Sx,qV l<=zV->(xF l).length<=22*qV l
 | [],_=>by simp [xF,qV]
 | x::l,h=>by
  simp only [qV] at h ⊢;have:=Y7 x (by omega)
  have:=qzs l (by omega)
  simp only [xF,Jak];omega
end
theorem qZ2 {x:Sx} (h:jv x<=zV):(vZ x).size<=22*jv x:=by
 rw [<- jz,WL];exact Y7 x h
theorem YZ (a b:ByteArray):(a++b).size=a.size+b.size:=ByteArray.size_append
theorem qfp {Z:prodL qqE->Prop} {b:Bool} {a:ByteArray} {l:List Sx} {K:Kn} (hk:jv ⟨b,a,l⟩<=zV) (hZ: ∀x∈l,Z (x.isList,x.atom,x.list,())) (h:K (.str (vZ ⟨b,a,l⟩)) []):qns Z (b,a,l,()) K:=by
 obtain ⟨hs,hsz,hbl,_⟩:=vg hk;have hl:=jr;unfold qns;simp only [vZ] at h;dsimp only [Lf.ty,prodL] at h ⊢;cases b
 . simp only [if_true,Ja4,Jae] at h ⊢;have hn:jg (a.size:Int):=(⟨by omega,by omega⟩: -9223372036854775808<=(a.size:Int)/\(a.size:Int)<=9223372036854775807)
   have hd:=yI hn;refine ⟨hn, ?_, ?_,h⟩
   . show ((jd (a.size:Int)).size+1)*1<=140737488355328
     omega
   . rw [YZ];show ((jd (a.size:Int)).size+1+a.size)*1<=140737488355328
     omega
 . simp only [Bool.true_eq_false,if_false,Jap,Jaf] at h ⊢;unfold qZY;refine qy.fold l (fun n (s:ByteArray)=>(s,(n:Int),true,a,l,())) (fun r _ s=>K (.str (Vt r s++⟨#[41]⟩)) []/\s.size+22*qV r<=22*zV+1) (a0:=⟨#[40]⟩) rfl ⟨h,by show 1+_<=_;omega⟩ (fun s hp W=> ?_) (fun n hn r s hr hp W hW=> ?_)
   . obtain ⟨p1,p2⟩:=hp;unfold qxv;rw [qQ,if_neg (by dsimp only;omega)]
     refine ⟨?_,p1⟩;show (s.size+1)*1<=140737488355328
     simp only [qV] at p2;omega
   . obtain ⟨p1,p2⟩:=hp;unfold qxv;rw [qQ,if_pos (by dsimp only;omega)]
     have hx:jv l[n]<=qV l:=Ki (Jba hn);have hz:=qZ2 (x:=l[n]) (by omega)
     simp only [qV] at p2;refine qD hn ⟨hZ _ (Jba hn), ?_, ?_⟩
     . rw [Sx.eta];dsimp only;omega
     . rw [Sx.eta,zd hn hs];refine hW (s++vZ l[n]) ⟨p1, ?_⟩;rw [YZ];omega
def qiv:Sp:=qkI bkP
theorem qzO: ∀n,(qkI fun g=>bkP g/\zK ⟨g.1,g.2.1,g.2.2.1⟩ <n).Ok Tryz.prog 132 true
 | 0=>⟨fun _ _ _ h _=>absurd h.2 (Ja7 _),fun _ _ _=>rfl,fun _=>rfl,fun _ _=>⟨rfl,rfl⟩⟩
 | n+1=>⟨fun g _ X hp h=>qd9 _ (qzO n) _ _ X (qfp hp.1 (fun x hx=>⟨((vg hp.1).2.2.2 x hx).1,by have:=((vg hp.1).2.2.2 x hx).2;have:=hp.2;dsimp only at *;omega⟩) h),fun _ _ _=>rfl,fun _=>rfl,fun _ _=>⟨rfl,rfl⟩⟩
theorem qVG:qiv.Ok Tryz.prog 132 true:=
 .mk (fun g K X hp h=>(qzO (zK ⟨g.1,g.2.1,g.2.2.1⟩+1)).calls g K X ⟨hp,Jbw _⟩ h)
def vQ (x:Sx):ByteArray×Int:=if J8 x=0 then (vZ x,0)else (⟨#[]⟩,J8 x)
end
section
open Go.RowKit
attribute [local irreducible] zb qa
abbrev S76:List Sh:=[.ag [.leaf,.leaf,.leaf]]
abbrev L76:List Lf:=[.bool,.str,.sl .sexp]
def F76 (g:prodL L76) (K:Kn):Prop:=
 qav.pre (g.1,g.2.1,g.2.2.1,())/\
 bif !decide (ckN ⟨g.1,g.2.1,g.2.2.1⟩=0)then (
  K (.tu [.str (⟨#[]⟩:ByteArray),.int .i64 (ckN ⟨g.1,g.2.1,g.2.2.1⟩)]) [])
 else (
  qiv.pre (g.1,g.2.1,g.2.2.1,())/\
 K (.tu [.str (vZ ⟨g.1,g.2.1,g.2.2.1⟩),.int .i64 0]) [])
theorem qnG (g:prodL L76) (K X:Kn) (h:F76 g K):FCalls Tryz.prog 76 (argsT S76 L76 g) [] K X:=
 FCalls.settle0 (qw Tryz.func76 Tryz.ntmps76 Tryz.results76 qj (qx qvL (qx qVG qz)) [] [] (by kernel_rfl) (by kernel_rfl) h)
end
section
open Go.RowKit
def qeY:Sp:=⟨S76,L76,bkP,fun g=> .tu [.str (vQ ⟨g.1,g.2.1,g.2.2.1⟩).1,.int .i64 (vQ ⟨g.1,g.2.1,g.2.2.1⟩).2],fun _=>none⟩
theorem qf3:qeY.Ok Tryz.prog 76 true:=
 .mk (by
  rintro ⟨b,a,l,⟨⟩⟩ K X q1 h;have h:K (.tu [.str (vQ ⟨b,a,l⟩).1,.int .i64 (vQ ⟨b,a,l⟩).2]) []:=h;refine qnG (b,a,l,()) K X ⟨q1, ?_⟩;unfold vQ at h;rw [qvZ] at h;dsimp only;rw [vn];by_cases h0:ckN ⟨b,a,l⟩=0
  . rw [if_pos h0] at h;rw [if_pos h0];exact ⟨q1,h⟩
  . rw [if_neg h0] at h;rw [if_neg h0];exact h)
def qvk:Prop:=qeY.Ok Tryz.prog 122 true
def qiO:Sp:=⟨S76,L76,fun g=>bkP g/\qvk,qeY.res,fun _=>none⟩
theorem qKp:qiO.Ok Tryz.prog 122 true:=
 .mk (fun g K X hp h=>hp.2.calls g K X hp.1 h)
end
section
open Go.RowKit
attribute [local irreducible] zb qa
end
section
open Go.RowKit
theorem qux {x:Sx} (h:J8 x=0):vQ x=(vZ x,0):=by unfold vQ;rw [if_pos h]
theorem qtr {x:Sx} (h:J8 x≠0):vQ x=(⟨#[]⟩,J8 x):=by unfold vQ;rw [if_neg h]
theorem ql9 {s:ByteArray} {x:Sx} {k:Nat} {r:List UInt8} (h:yQ 12 0 (bl s)= .ok (x,k,r)):kj s=(x,(s.size:Int) - (r.length:Int),0):=by unfold kj;rw [h]
theorem qbO {x:Sx} (h:J8 x=0) (r:ByteArray):kj (vZ x++r)=(x,((vZ x).size:Int),0):=by
 rw [ql9 (s:=vZ x++r) (by rw [Qr,WL];exact qKd h (bl r)),YZ,jz]
 simp only [Jbg,true_and,and_true];omega
theorem qgw {x:Sx} (h:J8 x=0):zj (vZ x)=(x,0):=by
 have:=qbO h ⟨#[]⟩;have e:vZ x++(⟨#[]⟩:ByteArray)=vZ x:=by apply wm;rw [Qr];exact List.append_nil _
 rw [e] at this;unfold zj;rw [this,if_pos rfl,if_pos rfl]
end
section
open Go.RowKit
end
section
open Go.RowKit
end
section
open Go.RowKit Go.Shelf
def JN:Go.Shelf.Ren:=⟨fun | 240=>229 | 276=>237 | n=>n,fun | 70=>187 | 72=>189 | 37=>69 | 164=>244 | n=>n,fun n=>n⟩
theorem qyQ:Go.Proofs.Lays.n240 Tryz.prog JN:={
 mixed:=by kernel_rfl
 f240:=Tryz.func229.trans (congrArg some (by kernel_rfl))
 f276:=Tryz.func237.trans (congrArg some (by kernel_rfl))
 t0:=Tryz.underlying0
 a0:=Tryz.isAgg0
 z0:=Tryz.sizeOf0
 v0:=Tryz.zeroValue0
 t4:=Tryz.underlying4
 a4:=Tryz.isAgg4
 z4:=Tryz.sizeOf4
 v4:=Tryz.zeroValue4
 t9:=Tryz.underlying9
 a9:=Tryz.isAgg9
 z9:=Tryz.sizeOf9
 v9:=Tryz.zeroValue9
 t20:=Tryz.underlying20
 a20:=Tryz.isAgg20
 z20:=Tryz.sizeOf20
 v20:=Tryz.zeroValue20
 t70:=Tryz.underlying187
 a70:=Tryz.isAgg187
 z70:=Tryz.sizeOf187
 v70:=Tryz.zeroValue187
 t72:=Tryz.underlying189
 a72:=Tryz.isAgg189
 z72:=Tryz.sizeOf189
 v72:=Tryz.zeroValue189
 t164:=Tryz.underlying244
 a164:=Tryz.isAgg244
 z164:=Tryz.sizeOf244
 v164:=Tryz.zeroValue244}
theorem qih:Builder.X72 Tryz.prog JN:={sizeBuilder:=by kernel_rfl,liesBuilder:=by kernel_rfl}
abbrev qpZ:List ObSh:=[.cells [.pt 0 0,.oa .u8 1],.arr .u8]
def qu4:Raw:=⟨[.pt 0 0],qpZ,[.sl .u8],0,fun g K _=>K (.tu []) [some (.cells [.pt 0 0,.oa .u8 1 0]),some (.arr 0 .u8 g.1)]⟩
theorem qxR:qu4.Ok Tryz.prog 229:=by
 rintro ⟨bs,⟨⟩⟩ K X h g w hg;have h:K (.tu []) [some (.cells [.pt 0 0,.oa .u8 1 0]),some (.arr 0 .u8 bs)]:=h;have hg:Good g [some (.cells [.pt 0 0,.oa .u8 1 0]),some (.arr 0 .u8 bs)] w:=hg;refine Qw.of (by kernel_rfl) fun args hr=> ?_
 obtain ⟨x,rfl,hx⟩:=YY hr;obtain ⟨oi,o1,_,o3⟩:=hg.obj 0 _ rfl;have o1:g.ob 0 0=some oi:=o1;have hx:R g (.pt 0 0) x:=hx;cases hx with
 | pt _ _ oi' h1=>
  rw [o1] at h1;simp only [Jah] at h1;subst h1;rcases o3 with o3 | ⟨_,blk,E,fr,p1,_,p3,_⟩
  . cases o3.1
  have p1:w.heap[oi.b]? =some (.cells blk E fr):=p1;obtain ⟨y,y1,_,y3⟩:=p3.at_ 0 _ rfl;have hy:y= .pointer (some ⟨oi.b,0,none⟩):=by
   cases y3 with
   | pt _ _ oi' h1=>
    rw [o1] at h1;simp only [Jah] at h1;subst h1;rfl
  refine (Any.Builder_copyCheck_used qyQ qih oi.b w (by rw [<- hy];simp [World.cell?,p1,y1])).mono ?_
  rintro e w' ⟨rfl,rfl⟩;exact ⟨g,_,hg,Step.refl,_,h,.tu [] #[] rfl (by simp)⟩
end
section
open Go.RowKit
attribute [local irreducible] zb qa
abbrev qlA:List Sh:=[.pt 0 0,.leaf]
abbrev qVq:List Lf:=[.str,.sl .u8]
abbrev qtT:List ObSh:=[.cells [.pt 0 0,.oa .u8 1],.arr .u8]
def qrm (g:prodL qVq) (K:Kn):Prop:=
 ql (g.2.1.length+(zp g.1).length) 1 (
 K (.tu [.int .i64 (g.1.size:Int),.cst .nilIface]) [some (.cells [.pt 0 0,.oa .u8 1 0]),some (.arr 0 .u8 (g.2.1++(zp g.1)))])
theorem qdb (g:prodL qVq) (K X:Kn) (h:qrm g K):FCalls Tryz.prog 210 (argsT qlA qVq g) (qi qlA qtT qVq g) K X 0:=
 FCalls.settleD (qw Tryz.func210 Tryz.ntmps210 Tryz.results210 (qd qxR qj) qz [] [] (by kernel_rfl) (by kernel_rfl) h)
def qth:Raw:=⟨qlA,qtT,qVq,0,fun g K _=>qrm g K⟩
theorem qve:qth.Ok Tryz.prog 210:=fun g K X h=>qdb g K X h
abbrev qnW:List Sh:=[.pt 0 0,.leaf]
abbrev qYO:List Lf:=[.int .u8,.sl .u8]
abbrev qrl:List ObSh:=[.cells [.pt 0 0,.oa .u8 1],.arr .u8]
def qsm (g:prodL qYO) (K:Kn):Prop:=
 ql (g.2.1.length+[g.1].length) 1 (
 K (.cst .nilIface) [some (.cells [.pt 0 0,.oa .u8 1 0]),some (.arr 0 .u8 (g.2.1++[g.1]))])
theorem qcd (g:prodL qYO) (K X:Kn) (h:qsm g K):FCalls Tryz.prog 211 (argsT qnW qYO g) (qi qnW qrl qYO g) K X 0:=
 FCalls.settleD (qw Tryz.func211 Tryz.ntmps211 Tryz.results211 (qd qxR qj) qz [] [] (by kernel_rfl) (by kernel_rfl) h)
def quf:Raw:=⟨qnW,qrl,qYO,0,fun g K _=>qsm g K⟩
theorem qwD:quf.Ok Tryz.prog 211:=fun g K X h=>qcd g K X h
end
section
open Go.RowKit
def vq (x:Sx):List Int:=(Jq x).map fun b=>(b.toNat:Int)
def qkN (x:Sx) (bs:List Int):Prop:=jv x<=zV/\bs.length+22*jv x<=70368744177664
def qkz (g:prodL [.bool,.str,.sl .sexp,.sl .u8]):Prop:=qkN ⟨g.1,g.2.1,g.2.2.1⟩ g.2.2.2.1
def qnu (g:prodL [.bool,.str,.sl .sexp,.sl .u8]) (K _:Kn):Prop:=
 K (.tu []) [some (.cells [.pt 0 0,.oa .u8 1 0]),some (.arr 0 .u8 (g.2.2.2.1++vq ⟨g.1,g.2.1,g.2.2.1⟩))]
end
section
open Go.RowKit
attribute [local irreducible] zb qa
def qAX:List (Nat×Hint):=[(7,⟨[],[(0,.pt 0 0),(24,.leaf),(25,.leaf),(26,.leaf)],[.cells [.pt 0 0,.oa .u8 1],.arr .u8],[.sl .sexp,.int .i64,.int .i64,.sl .u8]⟩)]
abbrev qlP:List Sh:=[.pt 0 0,.ag [.leaf,.leaf,.leaf]]
abbrev Yy:List Lf:=[.bool,.str,.sl .sexp,.sl .u8]
abbrev qun:List ObSh:=[.cells [.pt 0 0,.oa .u8 1],.arr .u8]
def qkD (Z:prodL Yy->Prop):Raw:=⟨qlP,qun,Yy,0,fun g K X=>Z g/\qnu g K X⟩
def qj5 (K:Kn) (Z:prodL Yy->Prop) (f:prodL [.sl .sexp,.int .i64,.int .i64,.sl .u8]->Prop) (d:List Sx) (e b:Int) (c:List Int):Prop:=
 bif decide (b<e)then (
  At d b fun a=>
 Z (a.isList,a.atom,a.list,c,())/\
 f (d,e,IntKind.i64.wrap (b+1),(c++vq ⟨a.isList,a.atom,a.list⟩),()))
 else (
  let g8:prodL [.int .u8,.sl .u8]:=(41,c,());
 ql (g8.2.1.length+[g8.1].length) 1 (
 K (.tu []) [some (.cells [.pt 0 0,.oa .u8 1 0]),some (.arr 0 .u8 (g8.2.1++[g8.1]))]))
def qQT (K:Kn) (Z:prodL Yy->Prop) (g:prodL [.sl .sexp,.int .i64,.int .i64,.sl .u8]):Prop:=
 qy (γ:=prodL [.sl .sexp,.int .i64,.int .i64,.sl .u8]) (fun V y=>qj5 K Z V y.1 y.2.1 y.2.2.1 y.2.2.2.1) g
def qmH (Z:prodL Yy->Prop) (g:prodL Yy) (K:Kn):Prop:=
 bif !g.1 then (
  qZF.pre ((g.2.1.size:Int),())/\
  let g1:prodL [.str,.sl .u8]:=((jd (g.2.1.size:Int)),g.2.2.2.1,());
  ql (g1.2.1.length+(zp g1.1).length) 1 (
  let g2:prodL [.int .u8,.sl .u8]:=(58,g1.2.1++(zp g1.1),());
  ql (g2.2.1.length+[g2.1].length) 1 (
  let g3:prodL [.str,.sl .u8]:=(g.2.1,g2.2.1++[g2.1],());
  ql (g3.2.1.length+(zp g3.1).length) 1 (
  K (.tu []) [some (.cells [.pt 0 0,.oa .u8 1 0]),some (.arr 0 .u8 (g3.2.1++(zp g3.1)))]))))
 else (
  let g4:prodL [.int .u8,.sl .u8]:=(40,g.2.2.2.1,());
 ql (g4.2.1.length+[g4.1].length) 1 (
 qQT K Z (g.2.2.1,(g.2.2.1.length:Int),0,g4.2.1++[g4.1],())))
theorem qgd (Z:prodL Yy->Prop) (hZ:(qkD Z).Ok Tryz.prog 171) (g:prodL Yy) (K X:Kn) (h:qmH Z g K):FCalls Tryz.prog 171 (argsT qlP Yy g) (qi qlP qun Yy g) K X 0:=
 FCalls.settleD (qw Tryz.func171 Tryz.ntmps171 Tryz.results171 (qd hZ (qd qve (qd qwD qj))) (qx Kz qz) qAX [] (by kernel_rfl) (by kernel_rfl) h)
end
section
open Go.RowKit
def Zd (l:List Sx):List Int:=(xF l).map fun b=>(b.toNat:Int)
theorem qeM (s:ByteArray):zp s=(bl s).map fun b=>(b.toNat:Int):=rfl
theorem qvX {x:Sx} (h:jv x<=zV):(vq x).length<=22*jv x:=by unfold vq;rw [Jbs];exact Y7 x h
theorem Ve (a:ByteArray) (l:List Sx):vq ⟨false,a,l⟩=zp (jd (a.size:Int))++(58::zp a):=by
 unfold vq;simp only [Jq,if_true,qeM,wC,Jcj,List.map_cons];rw [Lib.itoa,if_neg (by omega),Jay]
 rfl
theorem VZ (a:ByteArray) (l:List Sx):vq ⟨true,a,l⟩=40::(Zd l++[41]):=by
 unfold vq Zd;simp [Jq]
theorem qcR {Z:prodL Yy->Prop} {b:Bool} {a:ByteArray} {l:List Sx} {bs:List Int} {K X:Kn} (hp:qkN ⟨b,a,l⟩ bs) (hZ: ∀x∈l, ∀cs,qkN x cs->Z (x.isList,x.atom,x.list,cs,())) (h:qnu (b,a,l,bs,()) K X):qmH Z (b,a,l,bs,()) K:=by
 obtain ⟨hk,hz⟩:=hp;obtain ⟨hs,hsz,hbl,_⟩:=vg hk;have hl:=jr;unfold qnu at h;unfold qmH;simp only [jv] at hz;dsimp only [Lf.ty,prodL] at h ⊢;cases b
 . rw [Ve] at h;have hn:jg (a.size:Int):=(⟨by omega,by omega⟩: -9223372036854775808<=(a.size:Int)/\(a.size:Int)<=9223372036854775807)
   have hd:=yI hn;simp only [Ja4,Jae];refine ⟨hn, ?_, ?_, ?_, ?_⟩
   . rw [xD];omega
   . simp only [Jak,xD,Jaj,Ja1];omega
   . simp only [Jak,xD,Jaj,Ja1];omega
   . rw [show ((bs++zp (jd (a.size:Int)))++[58])++zp a=bs++(zp (jd (a.size:Int))++(58::zp a))by simp]
     exact h
 . rw [VZ] at h;simp only [Jap,Jaf];refine ⟨by simp only [Jaj,Ja1];omega, ?_⟩
   unfold qQT;refine qy.fold l (fun n (cs:List Int)=>(l,(l.length:Int),(n:Int),cs,())) (fun r _ cs=>K (.tu []) [some (.cells [.pt 0 0,.oa .u8 1 0]),some (.arr 0 .u8 (cs++(Zd r++[41])))]/\cs.length+22*qV r<=70368744177664) (a0:=bs++[40]) rfl ⟨?_,by simp only [Jak,Jaj,Ja1];omega⟩ (fun cs hp W=> ?_) (fun n hn r cs hr hp W hW=> ?_)
   . rw [Jat];exact h
   . obtain ⟨p1,p2⟩:=hp;unfold qj5;rw [qQ,if_neg (by dsimp only;omega)]
     simp only [qV] at p2;exact ⟨by simp only [Jaj,Ja1];omega,p1⟩
   . obtain ⟨p1,p2⟩:=hp;unfold qj5;rw [qQ,if_pos (by dsimp only;omega)]
     have hx:jv l[n]<=qV l:=Ki (Jba hn);have he:=qvX (x:=l[n]) (by omega)
     simp only [qV] at p2;refine qD hn ⟨hZ _ (Jba hn) cs ⟨by omega,by omega⟩, ?_⟩
     rw [Sx.eta,zd hn hs];refine hW (cs++vq l[n]) ⟨?_, ?_⟩
     . have e:Zd (l[n]::r)=vq l[n]++Zd r:=by unfold Zd vq;simp [xF]
       rw [e] at p1;rw [Jat, <- Jat (vq l[n])];exact p1
     . rw [Jak];omega
def qrQ:Raw:=qkD qkz
theorem qq2: ∀n:Nat,(qkD fun g=>qkz g/\zK ⟨g.1,g.2.1,g.2.2.1⟩ <n).Ok Tryz.prog 171
 | 0=>fun g K X h=>absurd h.1.2 (Ja7 _)
 | n+1=>fun g K X h=>qgd _ (qq2 n) g K X (qcR h.1.1 (fun x hx cs hc=>⟨(by show qkN ⟨_,_,_⟩ _;rw [Sx.eta];exact hc),by
   have h1:=((vg h.1.1.1).2.2.2 x hx).2;have h2:=h.1.2;dsimp only at *;omega⟩) h.2)
theorem qYc:qrQ.Ok Tryz.prog 171:=fun g K X h=>qq2 (zK ⟨g.1,g.2.1,g.2.2.1⟩+1) g K X ⟨⟨h.1,Jbw _⟩,h.2⟩
end
section
open Go.RowKit Go.Shelf
theorem qQj {w:World} {b q:Nat} {blk:Array Value} {E:TypeId} {fr:Nat×Nat} (v:Value) (h:w.heap[b]? =some (.cells blk E fr)):(w.setCell ⟨b,q,none⟩ v).heap[b]? =some (.cells (blk.setIfInBounds q v) E fr):=by
 simp [World.setCell,Jcb,h]
theorem qjW {w:World} {b q b':Nat} (v:Value) (h:b'≠b):(w.setCell ⟨b,q,none⟩ v).heap[b']? =w.heap[b']? :=by
 simp [World.setCell,Jcb,Ne.symm h]
def qnE:Raw:=⟨[.pt 0 0],[.cells [.fp,.nil]],[],0,fun _ K _=>K (.tu []) [some (.cells [.pt 0 0,.nil])]⟩
theorem qzd:qnE.Ok Tryz.prog 229:=by
 rintro ⟨⟩ K X h g w hg;have h:K (.tu []) [some (.cells [.pt 0 0,.nil])]:=h;have hg:Good g [some (.cells [.fp,.nil])] w:=hg;refine Qw.of (by kernel_rfl) fun args hr=> ?_
 obtain ⟨x,rfl,hx⟩:=YY hr;obtain ⟨oi,o1,_,o3⟩:=hg.obj 0 _ rfl;have o1:g.ob 0 0=some oi:=o1;have hx:R g (.pt 0 0) x:=hx;cases hx with
 | pt _ _ oi' h1=>
  rw [o1] at h1;simp only [Jah] at h1;subst h1;rcases o3 with o3 | ⟨_,blk,E,fr,p1,p2,p3,p4⟩
  . cases o3.1
  have p1:w.heap[oi.b]? =some (.cells blk E fr):=p1;obtain ⟨y,y1,_,y3⟩:=p3.at_ 0 _ rfl;obtain ⟨z,z1,z2,z3⟩:=p3.at_ 1 _ rfl;have hy:y= .pointer none:=by cases y3;rfl
  subst hy;have p4:(E==189&&blk.size==2)=true:=p4;simp only [Jaq,beq_iff_eq] at p4;obtain ⟨rfl,hs⟩:=p4;refine (Any.Builder_copyCheck_fresh qyQ qih oi.b w (by simp [World.cell?,p1,y1]) (by simp [World.shape?,p1,hs];rfl) (by
   have:=p2 0 (by omega)
   simp only [World.frozen?,p1];simpa using this)).mono ?_
  rintro e w' ⟨rfl,rfl⟩;obtain ⟨k1,k2,k3⟩:=zv (st':=[some (.cells [.pt 0 0,.nil])]) (k:=0) (v:=0) (o':= .cells [.pt 0 0,.nil]) (oi:=oi) (w':=w.setCell ⟨oi.b,0,none⟩ (.pointer (some ⟨oi.b,0,none⟩))) hg (fun i=>by cases i<;>simp) (by decide) (by decide) rfl (.inr o1) (fun u oi' hu=>xH (o':= .cells [.fp,.nil]) hg rfl hu) trivial
   (fun _=> .inr ⟨_,rfl,zS o1 (by simp [qn])⟩) rfl rfl rfl (by simp [World.setCell]) (fun b _ hb=>qjW _ fun e=>hb _ rfl (by rw [zS o1 (by simp [qn]),e]))
   (fun _=>⟨_,189,fr,qQj _ p1,fun q hq=>p2 q (by simpa using hq),⟨by simp [qZ,hs],fun j u hj=>by
    match j,hj with
    | 0,hj=>simp [qZ] at hj;subst hj;exact ⟨_,by simp [hs],rfl,.pt 0 0 oi o1⟩
    | 1,hj=>simp [qZ] at hj;subst hj;exact ⟨z,by simpa using z1,z2,z3⟩
    | j+2,hj=>simp [qZ] at hj⟩,rfl⟩) (fun o ho=>by
    simp only [Jbh,Jah] at ho;subst ho;exact ⟨_,rfl,rfl,o1⟩)
  exact ⟨_,_,k1,k2 _,_,h,.tu [] #[] rfl (by simp)⟩
end
section
open Go.RowKit
attribute [local irreducible] zb qa
abbrev qWj:List Sh:=[.pt 0 0,.leaf]
abbrev qwJ:List Lf:=[.str]
abbrev qim:List ObSh:=[.cells [.fp,.nil]]
def qi1 (g:prodL qwJ) (K:Kn):Prop:=
 ql ((zp g.1).length) 1 (
 K (.tu [.int .i64 (g.1.size:Int),.cst .nilIface]) [some (.cells [.pt 0 0,.oa .u8 1 0]),some (.arr 0 .u8 (zp g.1))])
theorem qWt (g:prodL qwJ) (K X:Kn) (h:qi1 g K):FCalls Tryz.prog 210 (argsT qWj qwJ g) (qi qWj qim qwJ g) K X 0:=
 FCalls.settleD (qw Tryz.func210 Tryz.ntmps210 Tryz.results210 (qd qzd qj) qz [] [] (by kernel_rfl) (by kernel_rfl) h)
def qm4:Raw:=⟨qWj,qim,qwJ,0,fun g K _=>qi1 g K⟩
theorem qJA:qm4.Ok Tryz.prog 210:=fun g K X h=>qWt g K X h
abbrev qKj:List Sh:=[.pt 0 0,.leaf]
abbrev qx3:List Lf:=[.int .u8]
abbrev qiP:List ObSh:=[.cells [.fp,.nil]]
def qhN (g:prodL qx3) (K:Kn):Prop:=
 ql ([g.1].length) 1 (
 K (.cst .nilIface) [some (.cells [.pt 0 0,.oa .u8 1 0]),some (.arr 0 .u8 [g.1])])
theorem qYW (g:prodL qx3) (K X:Kn) (h:qhN g K):FCalls Tryz.prog 211 (argsT qKj qx3 g) (qi qKj qiP qx3 g) K X 0:=
 FCalls.settleD (qw Tryz.func211 Tryz.ntmps211 Tryz.results211 (qd qzd qj) qz [] [] (by kernel_rfl) (by kernel_rfl) h)
def qoK:Raw:=⟨qKj,qiP,qx3,0,fun g K _=>qhN g K⟩
theorem qJ4:qoK.Ok Tryz.prog 211:=fun g K X h=>qYW g K X h
end
section
open Go.RowKit
attribute [local irreducible] zb qa
def quK:List (Nat×Hint):=[(7,⟨[((0,[1]),none)],[(0,.pt 0 0),(24,.leaf),(25,.leaf),(26,.leaf)],[.cells [.pt 0 0,.oa .u8 1],.arr .u8],[.sl .sexp,.int .i64,.int .i64,.sl .u8]⟩)]
abbrev qWI:List Sh:=[.pt 0 0,.ag [.leaf,.leaf,.leaf]]
abbrev qwn:List Lf:=[.bool,.str,.sl .sexp]
abbrev qiX:List ObSh:=[.cells [.fp,.nil]]
def KB (K:Kn) (f:prodL [.sl .sexp,.int .i64,.int .i64,.sl .u8]->Prop) (d:List Sx) (e b:Int) (c:List Int):Prop:=
 bif decide (b<e)then (
  At d b fun a=>
 qkz (a.isList,a.atom,a.list,c,())/\
 f (d,e,IntKind.i64.wrap (b+1),(c++vq ⟨a.isList,a.atom,a.list⟩),()))
 else (
  let g8:prodL [.int .u8,.sl .u8]:=(41,c,());
 ql (g8.2.1.length+[g8.1].length) 1 (
 K (.tu []) [some (.cells [.pt 0 0,.oa .u8 1 0]),some (.arr 0 .u8 (g8.2.1++[g8.1]))]))
def qwl (K:Kn) (g:prodL [.sl .sexp,.int .i64,.int .i64,.sl .u8]):Prop:=
 qy (γ:=prodL [.sl .sexp,.int .i64,.int .i64,.sl .u8]) (fun V y=>KB K V y.1 y.2.1 y.2.2.1 y.2.2.2.1) g
def qKR (g:prodL qwn) (K:Kn):Prop:=
 bif !g.1 then (
  qZF.pre ((g.2.1.size:Int),())/\
  let g1:prodL [.str]:=((jd (g.2.1.size:Int)),());
  ql ((zp g1.1).length) 1 (
  let g2:prodL [.int .u8,.sl .u8]:=(58,zp g1.1,());
  ql (g2.2.1.length+[g2.1].length) 1 (
  let g3:prodL [.str,.sl .u8]:=(g.2.1,g2.2.1++[g2.1],());
  ql (g3.2.1.length+(zp g3.1).length) 1 (
  K (.tu []) [some (.cells [.pt 0 0,.oa .u8 1 0]),some (.arr 0 .u8 (g3.2.1++(zp g3.1)))]))))
 else (
  let g4:prodL [.int .u8]:=(40,());
 ql ([g4.1].length) 1 (
 qwl K (g.2.2.1,(g.2.2.1.length:Int),0,[g4.1],())))
theorem qY7 (g:prodL qwn) (K X:Kn) (h:qKR g K):FCalls Tryz.prog 171 (argsT qWI qwn g) (qi qWI qiX qwn g) K X 0:=
 FCalls.settleD (qw Tryz.func171 Tryz.ntmps171 Tryz.results171 (qd qYc (qd qve (qd qJA (qd qwD (qd qJ4 qj))))) (qx Kz qz) quK [] (by kernel_rfl) (by kernel_rfl) h)
end
section
open Go.RowKit
def qiq (g:prodL [.bool,.str,.sl .sexp]):Prop:=qkN ⟨g.1,g.2.1,g.2.2.1⟩ []
theorem qVS {b:Bool} {a:ByteArray} {l:List Sx} {K:Kn} (hp:qkN ⟨b,a,l⟩ []) (h:K (.tu []) [some (.cells [.pt 0 0,.oa .u8 1 0]),some (.arr 0 .u8 (vq ⟨b,a,l⟩))]):qKR (b,a,l,()) K:=by
 obtain ⟨hk,hz⟩:=hp;obtain ⟨hs,hsz,hbl,_⟩:=vg hk;have hl:=jr;unfold qKR;simp only [jv,Ja1] at hz;dsimp only [Lf.ty,prodL] at h ⊢;cases b
 . rw [Ve] at h;have hn:jg (a.size:Int):=(⟨by omega,by omega⟩: -9223372036854775808<=(a.size:Int)/\(a.size:Int)<=9223372036854775807)
   have hd:=yI hn;simp only [Ja4,Jae];refine ⟨hn, ?_, ?_, ?_, ?_⟩
   . rw [xD];omega
   . simp only [xD,Jaj,Ja1];omega
   . simp only [Jak,xD,Jaj,Ja1];omega
   . rw [show ((zp (jd (a.size:Int)))++[58])++zp a=(zp (jd (a.size:Int))++(58::zp a))by simp]
     exact h
 . rw [VZ] at h;simp only [Jap,Jaf];refine ⟨by simp only [Jaj,Ja1];omega, ?_⟩
   unfold qwl;refine qy.fold l (fun n (cs:List Int)=>(l,(l.length:Int),(n:Int),cs,())) (fun r _ cs=>K (.tu []) [some (.cells [.pt 0 0,.oa .u8 1 0]),some (.arr 0 .u8 (cs++(Zd r++[41])))]/\cs.length+22*qV r<=70368744177664) (a0:=[40]) rfl ⟨?_,by simp only [Jaj,Ja1];omega⟩ (fun cs hp W=> ?_) (fun n hn r cs hr hp W hW=> ?_)
   . exact h
   . obtain ⟨p1,p2⟩:=hp;unfold KB;rw [qQ,if_neg (by dsimp only;omega)]
     simp only [qV] at p2;exact ⟨by simp only [Jaj,Ja1];omega,p1⟩
   . obtain ⟨p1,p2⟩:=hp;unfold KB;rw [qQ,if_pos (by dsimp only;omega)]
     have hx:jv l[n]<=qV l:=Ki (Jba hn);have he:=qvX (x:=l[n]) (by omega)
     simp only [qV] at p2;refine qD hn ⟨(by show qkN ⟨l[n].isList,l[n].atom,l[n].list⟩ cs;rw [Sx.eta];exact ⟨by omega,by omega⟩), ?_⟩
     rw [Sx.eta,zd hn hs];refine hW (cs++vq l[n]) ⟨?_, ?_⟩
     . have e:Zd (l[n]::r)=vq l[n]++Zd r:=by unfold Zd vq;simp [xF]
       rw [e] at p1;rw [Jat, <- Jat (vq l[n])];exact p1
     . rw [Jak];omega
def qnv:Raw:=⟨qWI,qiX,qwn,0,fun g K _=>qiq g/\K (.tu []) [some (.cells [.pt 0 0,.oa .u8 1 0]),some (.arr 0 .u8 (vq ⟨g.1,g.2.1,g.2.2.1⟩))]⟩
theorem qJx:qnv.Ok Tryz.prog 171:=fun g K X h=>qY7 g K X (qVS h.1 h.2)
end
section
open Go.RowKit
set_option maxHeartbeats 1000000 in
set_option maxRecDepth 100000 in
theorem qWi (b g cap:Nat) (cur:Array Value) (fr:Nat×Nat) (l:List UInt8) (w:World) (c0:w.cell? ⟨b,1,none⟩=some (.slice (some ⟨g,0,none⟩) l.length cap)) (hg:w.heap[g]? =some (.cells cur 5 fr)) (hl0:l.length≠0) (hnc:l.length<=cap) (hcm:cap<=maxLen) (hcs:cap<=cur.size)
  (hat: ∀(j:Nat) (x:UInt8),l[j]? =some x->cur[j]? =some (Value.int .u8 x.toNat)):
  Calls Tryz.prog 172 #[.pointer (some ⟨b,0,none⟩)] w fun e w'=>e= .returned (.string ⟨l.toArray⟩)/\w'=w.drew.freeze ⟨g,0,none⟩ l.length:=by
 have c1:w.drew.cell? ⟨b,1,none⟩=some (.slice (some ⟨g,0,none⟩) l.length cap):=c0;have hg':w.drew.heap[g]? =some (.cells cur 5 fr):=hg;have hSD:(Builtin.unsafeSliceData_ #[69] 222 #[.slice (some ⟨g,0,none⟩) l.length cap]).run Tryz.prog w.drew= .ok (.pointer (some ⟨g,0,none⟩)) w.drew:=
  Lib.run_unsafeSliceData_row _ _ _ _ _ _ (by omega)
 have hUS:(Builtin.unsafeString_ #[222,3] 9 #[.pointer (some ⟨g,0,none⟩),.int .i64 l.length]).run Tryz.prog w.drew= .ok (.string ⟨l.toArray⟩) (w.drew.freeze ⟨g,0,none⟩ l.length):=by
  refine Lib.run_unsafeString_row w.drew 222 3 9 5 Tryz.underlying222 (by kernel_rfl) g cur.size (by simp [World.shape?,hg']) l (fun e=>hl0 (by rw [e];rfl)) (by omega) (by unfold maxLen at hcm;omega) ?_
  intro j x hx;have:=hat j x hx;unfold Addr.add;by_cases hj:j=0
  . subst hj;simp [World.cell?,hg',this]
  . simp [hj,World.cell?,hg',this]
 go_enter Tryz.func172,Tryz.ntmps172
 go_wp2
 go_region
 all_goals (go_wp2;go_ret;exact ⟨rfl,rfl⟩)
end
section
open Go.RowKit
theorem qwV {w:World} {a:Addr} {n b:Nat} (h:b≠a.block):(w.freeze a n).heap[b]? =w.heap[b]? :=by
 unfold World.freeze;split
 . rfl
 . simp [Jcb,Ne.symm h]
theorem qyw {w:World} {a:Addr} {n:Nat}:(w.freeze a n).heap.size=w.heap.size:=by
 unfold World.freeze;split
 . rfl
 . simp
theorem qJ6 {w:World} {a:Addr} {n:Nat}:(w.freeze a n).os=w.os:=by
 unfold World.freeze;split<;>rfl
theorem qwy {w:World} {a:Addr} {n:Nat}:(w.freeze a n).tape=w.tape:=by
 unfold World.freeze;split<;>rfl
theorem qkw {w:World} {a:Addr} {n:Nat}:(w.freeze a n).output=w.output:=by
 unfold World.freeze;split<;>rfl
theorem qfQ {n:Int} (h1:0<=n) (h2:n<256):n=((UInt8.ofNat n.toNat).toNat:Int):=by
 rw [UInt8.toNat_ofNat',Nat.mod_eq_of_lt (by omega)]
 omega
def qYR (g:prodL [.sl .u8]):Prop:=g.1≠[]/\ ∀n∈g.1,0<=n/\n<256
def qrn:Raw:=⟨[.pt 0 0],qpZ,[.sl .u8],0,fun g K _=>qYR g/\K (.str (xk g.1)) [some (.cells [.pt 0 0,.oa .u8 1 0]),some (.arr 1 .u8 [])]⟩
theorem qYB:qrn.Ok Tryz.prog 172:=by
 rintro ⟨l,⟨⟩⟩ K X h g w hg;obtain ⟨⟨hne,hb⟩,h⟩:=h;have hne:l≠[]:=hne;have hb: ∀n∈l,0<=n/\n<256:=hb;have h:K (.str (xk l)) [some (.cells [.pt 0 0,.oa .u8 1 0]),some (.arr 1 .u8 [])]:=h;have hg:Good g [some (.cells [.pt 0 0,.oa .u8 1 0]),some (.arr 0 .u8 l)] w:=hg;refine Qw.of (by kernel_rfl) fun args hr=> ?_
 obtain ⟨x,rfl,hx⟩:=YY hr;obtain ⟨oi,o1,_,o3⟩:=hg.obj 0 _ rfl;obtain ⟨oa,a1,a2,a3,a4,a5⟩:=hg.arr (k:=1) (ver:=0) (e:= .u8) (l:=l) rfl;have o1:g.ob 0 0=some oi:=o1;have hx:R g (.pt 0 0) x:=hx;have hl0:0<l.length:=Jbv.2 hne;obtain ⟨_,cur,E,fr,q1,q2,q3,q4,q5⟩:=a5 (by omega)
 have q5:(E==5)=true:=q5;obtain rfl:E=5:=by simpa using q5
 cases hx with
 | pt _ _ oi' h1=>
  rw [o1] at h1;simp only [Jah] at h1;subst h1;rcases o3 with o3 | ⟨_,blk,E,fr',p1,_,p3,_⟩
  . cases o3.1
  have p1:w.heap[oi.b]? =some (.cells blk E fr'):=p1;obtain ⟨z,z1,_,z3⟩:=p3.at_ 1 _ rfl;have z3:R g (.oa .u8 1 0) z:=z3;have hz:z= .slice (some ⟨oa.b,0,none⟩) l.length oa.cap:=by
   cases z3 with
   | oa _ _ _ oi'' A r1 r2 r3 r4=>
    rw [a1] at r1;simp only [Jah] at r1;subst r1;rw [r2 (by omega),a2]
  subst hz;have hlen:(l.map fun n=>UInt8.ofNat n.toNat).length=l.length:=Jbs ..
  refine (qWi oi.b oa.b oa.cap cur fr (l.map fun n=>UInt8.ofNat n.toNat) w (by rw [hlen];simp [World.cell?,p1,z1]) q1 (by rw [hlen];omega) (by rw [hlen];omega) a4 (by rw [show sz .u8=1 from rfl,Nat.mul_one] at q4;exact q4) (fun j x hx=> ?_)).mono ?_
  . simp only [Jax,Ja2] at hx;obtain ⟨n,hn,rfl⟩:=hx;obtain ⟨y,y1,_,y3⟩:=q3.at_ j (.int .u8 n) (by
     have:=vl (e:= .u8) (j:=0) hn (by decide)
     simpa [sz,enc] using this)
    cases y3;obtain ⟨b1,b2⟩:=hb n (Ja3 hn);rw [y1];exact congrArg (fun m=>some (Value.int .u8 m)) (qfQ b1 b2)
  . rintro e w' ⟨rfl,rfl⟩;have hnew:g.ob 1 1=none:=by
     cases hh:g.ob 1 1 with
     | none=>rfl
     | some oi=>have:=xH (o':= .arr 0 .u8 l) hg rfl hh;simp [obVer] at this
    obtain ⟨k1,k2,k3⟩:=zv (st':=[some (.cells [.pt 0 0,.oa .u8 1 0]),some (.arr 1 .u8 [])]) (k:=1) (v:=1) (o':= .arr 1 .u8 []) (oi:=⟨0,0,0⟩) (w':=w.drew.freeze ⟨oa.b,0,none⟩ (l.map fun n=>UInt8.ofNat n.toNat).length) hg (fun i=>by rcases i with _ | _ | i<;>simp) (Jag rfl) (Jag rfl) rfl (.inl hnew)
     (fun u oi' hu=>by have:=xH (o':= .arr 0 .u8 l) hg rfl hu;simp [obVer] at this;omega) ⟨rfl,Jam _,Jbt _⟩ (fun h=>absurd ⟨rfl,rfl⟩ h) qJ6 qwy qkw (by rw [qyw];exact Jam _)
     (fun b _ hb=>qwV fun e=>hb (.arr 0 .u8 l) rfl (by rw [zS a1 (by simp [qn];omega)];exact congrArg some e.symm)) (fun h=>absurd ⟨rfl,rfl⟩ h) (fun o ho=>by
      simp only [Jbd,Jbh,Jah] at ho;subst ho;exact ⟨_,_,rfl⟩)
    exact ⟨_,_,k1,k2 _,_,h,.str _⟩
end
section
open Go.RowKit
attribute [local irreducible] zb qa
abbrev qB9:List Sh:=[.ag [.leaf,.leaf,.leaf]]
abbrev qmL:List Lf:=[.bool,.str,.sl .sexp]
def qAH (g:prodL qmL) (K:Kn):Prop:=
 qaC.pre (g.1,g.2.1,g.2.2.1,())/\
 bif !decide (J8 ⟨g.1,g.2.1,g.2.2.1⟩=0)then (
  K (.tu [.str (⟨#[]⟩:ByteArray),.int .i64 (J8 ⟨g.1,g.2.1,g.2.2.1⟩)]) [])
 else (
  qiq (g.1,g.2.1,g.2.2.1,())/\
 qYR ((vq ⟨g.1,g.2.1,g.2.2.1⟩),())/\
 K (.tu [.str (xk (vq ⟨g.1,g.2.1,g.2.2.1⟩)),.int .i64 0]) [])
theorem qbi (g:prodL qmL) (K X:Kn) (h:qAH g K):FCalls Tryz.prog 122 (argsT qB9 qmL g) [] K X:=
 FCalls.settle0 (qw Tryz.func122 Tryz.ntmps122 Tryz.results122 (qd qJx (qd qYB qj)) (qx qw4 qz) [] [] (by kernel_rfl) (by kernel_rfl) h)
end
section
open Go.RowKit
theorem qXY (x:Sx):xk (vq x)=vZ x:=by
 have h:bl (xk (vq x))=bl (vZ x):=by
  rw [WL];unfold xk vq bl;simp [Function.comp_def]
 exact ByteArray.ext (Array.toList_inj.1 h)
theorem qcq (x:Sx):vq x≠[]:=by
 obtain ⟨b,a,l⟩:=x;cases b
 . rw [Ve];simp
 . rw [VZ];simp
theorem qJc (x:Sx): ∀n∈vq x,0<=n/\n<256:=by
 intro n hn;unfold vq at hn;obtain ⟨b,_,rfl⟩:=Jch.1 hn;have:=b.toNat_lt;omega
theorem qJo:qvk:=
 ⟨by
  rintro ⟨b,a,l,⟨⟩⟩ K X q1 h;have h:K (.tu [.str (vQ ⟨b,a,l⟩).1,.int .i64 (vQ ⟨b,a,l⟩).2]) []:=h;have q1:jv ⟨b,a,l⟩<=zV:=q1;refine qbi (b,a,l,()) K X ⟨q1, ?_⟩;unfold vQ at h;dsimp only;rw [vn];by_cases h0:J8 ⟨b,a,l⟩=0
  . rw [if_pos h0] at h;rw [if_pos h0];refine ⟨⟨q1, ?_⟩,⟨qcq _,qJc _⟩, ?_⟩
    . have:=jr;simp only [Ja1];omega
    . show K (.tu [.str (xk (vq ⟨b,a,l⟩)),.int .i64 0]) []
      rw [qXY];exact h
  . rw [if_neg h0] at h;rw [if_neg h0];exact h,fun _ _ _=>rfl,fun _=>rfl,fun _ _=>⟨rfl,rfl⟩⟩
end
section
open Go.RowKit Go.Lib
def xB (d:Dig):List Int:=[d.b0,d.b1,d.b2,d.b3,d.b4,d.b5,d.b6,d.b7,d.b8,d.b9,d.b10,d.b11,d.b12,d.b13,d.b14,d.b15,d.b16,d.b17,d.b18,d.b19,d.b20,d.b21,d.b22,d.b23,d.b24,d.b25,d.b26,d.b27,d.b28,d.b29,d.b30,d.b31]
def vP (d:Dig):ByteArray:=xk (xB d)
def zn (a b:Dig):Bool:=decide (a.b0=b.b0)&&(decide (a.b1=b.b1)&&(decide (a.b2=b.b2)&&(decide (a.b3=b.b3)&&(decide (a.b4=b.b4)&&(decide (a.b5=b.b5)&&(decide (a.b6=b.b6)&&(decide (a.b7=b.b7)&&(decide (a.b8=b.b8)&&(decide (a.b9=b.b9)&&(decide (a.b10=b.b10)&&(decide (a.b11=b.b11)&&(decide (a.b12=b.b12)&&(decide (a.b13=b.b13)&&(decide (a.b14=b.b14)&&(decide (a.b15=b.b15)&&(decide (a.b16=b.b16)&&(decide (a.b17=b.b17)&&(decide (a.b18=b.b18)&&(decide (a.b19=b.b19)&&(decide (a.b20=b.b20)&&(decide (a.b21=b.b21)&&(decide (a.b22=b.b22)&&(decide (a.b23=b.b23)&&(decide (a.b24=b.b24)&&(decide (a.b25=b.b25)&&(decide (a.b26=b.b26)&&(decide (a.b27=b.b27)&&(decide (a.b28=b.b28)&&(decide (a.b29=b.b29)&&(decide (a.b30=b.b30)&&(decide (a.b31=b.b31)&&(true))))))))))))))))))))))))))))))))
def qr (a b:Idn):Bool:=decide (a.patch.b0=b.patch.b0)&&(decide (a.patch.b1=b.patch.b1)&&(decide (a.patch.b2=b.patch.b2)&&(decide (a.patch.b3=b.patch.b3)&&(decide (a.patch.b4=b.patch.b4)&&(decide (a.patch.b5=b.patch.b5)&&(decide (a.patch.b6=b.patch.b6)&&(decide (a.patch.b7=b.patch.b7)&&(decide (a.patch.b8=b.patch.b8)&&(decide (a.patch.b9=b.patch.b9)&&(decide (a.patch.b10=b.patch.b10)&&(decide (a.patch.b11=b.patch.b11)&&(decide (a.patch.b12=b.patch.b12)&&(decide (a.patch.b13=b.patch.b13)&&(decide (a.patch.b14=b.patch.b14)&&(decide (a.patch.b15=b.patch.b15)&&(decide (a.patch.b16=b.patch.b16)&&(decide (a.patch.b17=b.patch.b17)&&(decide (a.patch.b18=b.patch.b18)&&(decide (a.patch.b19=b.patch.b19)&&(decide (a.patch.b20=b.patch.b20)&&(decide (a.patch.b21=b.patch.b21)&&(decide (a.patch.b22=b.patch.b22)&&(decide (a.patch.b23=b.patch.b23)&&(decide (a.patch.b24=b.patch.b24)&&(decide (a.patch.b25=b.patch.b25)&&(decide (a.patch.b26=b.patch.b26)&&(decide (a.patch.b27=b.patch.b27)&&(decide (a.patch.b28=b.patch.b28)&&(decide (a.patch.b29=b.patch.b29)&&(decide (a.patch.b30=b.patch.b30)&&(decide (a.patch.b31=b.patch.b31)&&(decide (a.n=b.n)&&(true)))))))))))))))))))))))))))))))))
def dz:Dig:=⟨0,0,0,0,0,0,0,0,0,0,0,0,0,0,0,0,0,0,0,0,0,0,0,0,0,0,0,0,0,0,0,0⟩
def iz:Idn:=⟨dz,0⟩
def ZJ (x:Idn):Bool:=zn x.patch dz
def bs (l:List Int):List UInt8:=l.map fun n=>UInt8.ofNat n.toNat
def jc (a b:Dig):Int:=compareBytes (bs (xB a)) (bs (xB b))
def qVo:List Int->List Int->Int
 | a::l,b::m=>bif decide (a<b)then -1 else bif decide (b<a)then 1 else qVo l m
 | _,_=>0
def xQ (a b:Dig):Int:=qVo (xB a) (xB b)
def ZS (a b:Int):Int:=bif decide (a<b)then -1 else bif decide (b<a)then 1 else 0
def idC (a b:Idn):Int:=bif !decide (jc a.patch b.patch=0)then jc a.patch b.patch else ZS a.n b.n
def idI (a b:Idn):Int:=bif !decide (xQ a.patch b.patch=0)then xQ a.patch b.patch else ZS a.n b.n
def QH (k:Int):Bool:=bif decide (k=5)then true else decide (k=6)
def VE (k:Int):Int:=bif decide (k=7)then 0 else k
def Qz (k:Int) (x:Atm):Bool:=bif decide (x.kind=1)then (bif QH k then decide (x.typ=1)else bif !decide (k=4)then true else bif decide (x.typ=2)then true else decide (x.typ=3))else false
def qzr (f:Idn) (x:Atm):Bool:=bif decide (x.kind=5)then qr x.file f else false
def J0 (k:Int) (f:Idn) (x:Atm):Bool:=bif decide (VE k=0)then true else bif decide (x.kind=VE k)then qr x.file f else false
def yk:List Int->Int->Int
 | [],_=> -1
 | a::l,n=>bif decide (n=a)then 0 else bif decide (yk l n<0)then -1 else yk l n+1
theorem qjQ: ∀(l:List Int) (n:Int), -1<=yk l n
 | [],_=>Int.le_refl _
 | a::l,n=>by
  have:=qjQ l n;unfold yk;cases decide (n=a)
  . cases c:decide (yk l n<0)
    . have:=Jad c;simp only [Jaf];omega
    . simp
  . simp
def qkF (b:UInt8):Bool:=decide ((97<=b.toNat/\b.toNat<=122)∨(65<=b.toNat/\b.toNat<=90)∨(48<=b.toNat/\b.toNat<=57)∨b.toNat=46∨b.toNat=95∨b.toNat=45)
def qwo (s:ByteArray):Bool:=bif !decide (s=(⟨#[]⟩:ByteArray))then (bif decide ((s.size:Int)<=40)then (bif !decide (s=(⟨#[46]⟩:ByteArray))then !decide (s=(⟨#[46,46]⟩:ByteArray))else false)else false)else false
def xZ (s:ByteArray):Bool:=s.data.toList.all qkF&&qwo s
def Z3 (s:ByteArray) (a b:Int):Bool:=s.data.toList.all fun x=> !(decide ((x.toNat:Int)=a)||decide ((x.toNat:Int)=b))
def yp (s:ByteArray):Bool:=bif decide ((s.size:Int)<=1000)then Z3 s 10 0 else false
def qY (s:ByteArray):Sx:=⟨false,s,[]⟩
def qf (l:List Sx):Sx:=⟨true,⟨#[]⟩,l⟩
def qX (n:Int):Sx:=(vE n).1
theorem QG (a b:Dig):zn a b=decide (a=b):=by
 have:decide (a=b)=decide (xB a=xB b):=by
  rw [Jb8];refine ⟨fun h=>by rw [h],fun h=> ?_⟩
  obtain ⟨a0,a1,a2,a3,a4,a5,a6,a7,a8,a9,a10,a11,a12,a13,a14,a15,a16,a17,a18,a19,a20,a21,a22,a23,a24,a25,a26,a27,a28,a29,a30,a31⟩:=a;obtain ⟨b0,b1,b2,b3,b4,b5,b6,b7,b8,b9,b10,b11,b12,b13,b14,b15,b16,b17,b18,b19,b20,b21,b22,b23,b24,b25,b26,b27,b28,b29,b30,b31⟩:=b;simp only [xB,Jbx,and_true] at h;simpa only [Dig.mk.injEq] using h
 rw [this];simp only [zn,xB,Jbx,and_true,Bool.and_true,Bool.decide_and]
theorem v8 (a b:Idn):qr a b=decide (a=b):=by
 obtain ⟨a,n⟩:=a;obtain ⟨b,m⟩:=b;have h:qr ⟨a,n⟩ ⟨b,m⟩=(zn a b&&decide (n=m)):=by
  simp only [qr,zn,Bool.and_true,Bool.and_assoc]
 rw [h,QG, <- Bool.decide_and,Jb8,Idn.mk.injEq]
theorem qU {α:Type} {K:α->Prop} {c:Bool} {x y:α} {P Q:Prop} (h1:K x->P) (h2:K y->Q) (h:K (bif c then x else y)):bif c then P else Q:=by
 cases c
 . exact h2 h
 . exact h1 h
theorem qy.count {γ:Type} {body:(γ->Prop)->γ->Prop} (N:Nat) (S:Nat->γ) (P:Nat->Prop) (h: ∀n,n<=N->P n-> ∀W:γ->Prop,(n<N->P (n+1)->W (S (n+1)))->body W (S n)) (h0:P 0):qy body (S 0):=by
 have key: ∀k n,n+k=N->P n->QK body (k+1) (S n):=by
  intro k;induction k with
  | zero=>intro n hn hp;exact h n (by omega) hp _ fun hlt=>by omega
  | succ k ih=>intro n hn hp;exact h n (by omega) hp _ fun hlt hp'=>ih (n+1) (by omega) hp'
 exact ⟨N+1,key N 0 (by omega) h0⟩
theorem qy.countTo {γ:Type} {body:(γ->Prop)->γ->Prop} {g:γ} (N:Nat) (S:Nat->γ) (P:Nat->Prop) (hg:g=S 0) (h: ∀n,n<=N->P n-> ∀W:γ->Prop,(n<N->P (n+1)->W (S (n+1)))->body W (S n)) (h0:P 0):qy body g:=by
 rw [hg];exact qy.count N S P h h0
theorem vW {α:Type} {l:List α} {n:Nat} (h:n<l.length):l.take (n+1)=l.take n++[l[n]]:=by
 simp
theorem qu {n N:Nat} (h:n<N):decide ((n:Int) < (N:Int))=true:=by simp;omega
theorem qm {N:Nat}:decide ((N:Int) < (N:Int))=false:=by simp
end
section
open Go.RowKit
theorem qy.all {γ:Type} {body:(γ->Prop)->γ->Prop} {g:γ} (N:Nat) (S:Nat->γ) (p:Nat->Bool) (Q:Bool->Prop) (hQ:Q (decide (∀n,n<N->p n=true))) (hg:g=S 0)
  (step: ∀(W:γ->Prop) (n:Nat),n<N->(p n=true->W (S (n+1)))->(p n=false->Q false)->body W (S n)) (last:Q true-> ∀W:γ->Prop,body W (S N)):qy body g:=by
 refine qy.countTo N S (fun n=> ∀i,i<n->p i=true) hg (fun n hn hp W hW=> ?_) fun i hi=>by omega
 by_cases hlt:n<N
 . refine step W n hlt (fun h=>hW hlt fun i hi=> ?_) fun h=> ?_
   . by_cases e:i=n
     . rw [e];exact h
     . exact hp i (by omega)
   . have:decide (∀n,n<N->p n=true)=false:=by
      rw [Jb6];intro ha;have:=ha n hlt;rw [h] at this;cases this
     rwa [this] at hQ
 . have:n=N:=by omega
   subst this;have:decide (∀i,i<n->p i=true)=true:=by rw [Jbk];exact hp
   rw [this] at hQ;exact last hQ W
theorem Y6 {α:Type} [DecidableEq α] {a b:List α} (h:a.length=b.length):decide (a=b)=decide (∀n,n<a.length->decide (a[n]? =b[n]?)=true):=by
 rw [Jb8];refine ⟨fun e n _=>by rw [e];simp,fun e=>Jca fun n=> ?_⟩
 by_cases hn:n<a.length
 . simpa using e n hn
 . rw [Ja0 (by omega),Ja0 (by omega)]
theorem qwK {n:Nat} (h:n<10):jd (n:Int)=⟨#[UInt8.ofNat (48+n)]⟩:=by
 unfold jd Lib.itoa;rw [if_neg (by omega),show ((n:Int)).toNat=n by omega,Lib.decDigits_one h]
theorem X3 (d:Dig):(vP d).size=32:=rfl
theorem Qt (s:ByteArray):jv (qY s)=s.size+3:=by simp [qY,jv,qV]
theorem y9 (l:List Sx):jv (qf l)=qV l+3:=by
 have:(⟨#[]⟩:ByteArray).size=0:=rfl;simp only [qf,jv,this];omega
theorem qw6 {n:Int} (h:jg n):(jd n).size<=21:=by
 obtain ⟨h1,h2⟩:=h;show (Lib.itoa n).toArray.size<=21
 rw [List.size_toArray];unfold Lib.itoa;split
 . have:=Zj 19 n.natAbs (by omega)
   simp only [Jaj];omega
 . have:=Zj 19 n.toNat (by omega)
   omega
theorem XE {n:Int} (h:jg n):jv (qX n)<=24:=by
 have:=qw6 h;unfold qX vE;split
 . simp only [sx0,jv,qV];exact Jag rfl
 . simp only [jv,qV];omega
theorem qy.map {α β γ:Type} {body:(γ->Prop)->γ->Prop} {g:γ} (l:List α) (f:α->β) (S:Int->List β->γ) (hr:l.length<=4294967296) (hg:g=S 0 [])
  (step: ∀(W:γ->Prop) (n:Nat) (h:n<l.length) (out:List β),out.length=n->W (S (IntKind.i64.wrap ((n:Int)+1)) (out++[f l[n]]))->body W (S n out))
  (last: ∀W:γ->Prop,body W (S l.length (l.map f))):qy body g:=by
 refine qy.countTo l.length (fun n=>S n ((l.take n).map f)) (fun _=>True) (by simpa using hg) (fun n hn _ W hW=> ?_) trivial
 by_cases hlt:n<l.length
 . refine step W n hlt _ (by simp;omega) ?_
   have:=hW hlt trivial;rw [zd hlt hr];rwa [vW hlt,Jcj] at this
 . have:n=l.length:=by omega
   subst this;simp only [List.take_length];exact last W
def V3 (n:Nat):Prop:=n<=4294967295
theorem eqI {n m:Nat}:decide ((n:Int)=(m:Int))=decide (n=m):=by
 rw [Jb8];omega
theorem jU {α:Type} {a:List α} {n:Nat} (h:n<a.length):a[n]? =some a[n]:=Jao h
theorem w64 {n:Int} (h:0<=n/\n<=8589934592):IntKind.i64.wrap n=n:=qE (by omega) (by omega)
theorem qVF {α:Type} {a:List α} (q:α->Bool):a.all q=decide (∀n,n<a.length->(a[n]?).all q=true):=by
 rw [Bool.eq_iff_iff,Jbk,Jbu];refine ⟨fun e n h=>by rw [jU h];exact e _ (Jba _),fun e x hx=> ?_⟩
 obtain ⟨n,h,rfl⟩:=List.mem_iff_getElem.1 hx;have:=e n h;rwa [jU h] at this
theorem qpR {n:Int} (h:IntKind.u8.min<=n/\n<=IntKind.u8.max):0<=n/\n<=255:=by
 simpa [IntKind.min,IntKind.max,IntKind.signed,IntKind.bits] using h
end
section
open Go.RowKit
attribute [local irreducible] zb qa
set_option maxRecDepth 100000
abbrev S47:List Sh:=[.leaf]
abbrev L47:List Lf:=[.el .idk]
def F47 (g:prodL L47) (K:Kn):Prop:=
 K (.bool (zn g.1.patch dz)) []
theorem qlR (g:prodL L47) (K X:Kn) (h:F47 g K):FCalls Tryz.prog 47 (argsT S47 L47 g) [] K X:=
 FCalls.settle0 (qw Tryz.func47 Tryz.ntmps47 Tryz.results47 qj qz [] [] (by kernel_rfl) (by kernel_rfl) h)
def qAV:Sp:=⟨S47,L47,fun _=>True,fun g=> .bool (ZJ g.1),fun _=>none⟩
theorem qjo:qAV.Ok Tryz.prog 47 true:=
 .mk (fun g K X hp h=>qlR g K X h)
abbrev qpt:List Sh:=[.leaf]
abbrev qeq:List Lf:=[.el .dig]
def qCh (g:prodL qeq) (K:Kn):Prop:=
 K (.bool (zn g.1 dz)) []
theorem qgk (g:prodL qeq) (K X:Kn) (h:qCh g K):FCalls Tryz.prog 123 (argsT qpt qeq g) [] K X:=
 FCalls.settle0 (qw Tryz.func123 Tryz.ntmps123 Tryz.results123 qj qz [] [] (by kernel_rfl) (by kernel_rfl) h)
def qsD:Sp:=⟨qpt,qeq,fun _=>True,fun g=> .bool (zn g.1 dz),fun _=>none⟩
theorem QF:qsD.Ok Tryz.prog 123 true:=
 .mk (fun g K X hp h=>qgk g K X h)
abbrev S28:List Sh:=[]
abbrev L28:List Lf:=[]
def F28 (g:prodL L28) (K:Kn):Prop:=
 K (.ag (enc .idk (⟨dz, -1⟩:Idn))) []
theorem qma (g:prodL L28) (K X:Kn) (h:F28 g K):FCalls Tryz.prog 28 (argsT S28 L28 g) [] K X:=
 FCalls.settle0 (qw Tryz.func28 Tryz.ntmps28 Tryz.results28 qj qz [] [] (by kernel_rfl) (by kernel_rfl) h)
def qAW:Sp:=⟨S28,L28,fun _=>True,fun g=> .ag (enc .idk (⟨dz, -1⟩:Idn)),fun _=>none⟩
theorem qjH:qAW.Ok Tryz.prog 28 false:=
 .mk (fun g K X hp h=>qma g K X h)
abbrev qtH:List Sh:=[]
abbrev qd1:List Lf:=[]
def qBi (g:prodL qd1) (K:Kn):Prop:=
 K (.ag (enc .idk iz)) []
theorem qde (g:prodL qd1) (K X:Kn) (h:qBi g K):FCalls Tryz.prog 212 (argsT qtH qd1 g) [] K X:=
 FCalls.settle0 (qw Tryz.func212 Tryz.ntmps212 Tryz.results212 qj qz [] [] (by kernel_rfl) (by kernel_rfl) h)
def qp1:Sp:=⟨qtH,qd1,fun _=>True,fun g=> .ag (enc .idk iz),fun _=>none⟩
theorem qx8:qp1.Ok Tryz.prog 212 false:=
 .mk (fun g K X hp h=>qde g K X h)
abbrev S78:List Sh:=[.leaf]
abbrev L78:List Lf:=[.str]
def F78 (g:prodL L78) (K:Kn):Prop:=
 K (.ag [.bool false,.str g.1,.nil]) []
theorem qlr (g:prodL L78) (K X:Kn) (h:F78 g K):FCalls Tryz.prog 78 (argsT S78 L78 g) [] K X:=
 FCalls.settle0 (qw Tryz.func78 Tryz.ntmps78 Tryz.results78 qj qz [] [] (by kernel_rfl) (by kernel_rfl) h)
def qB6:Sp:=⟨S78,L78,fun _=>True,fun g=> .ag [.bool false,.str g.1,.nil],fun _=>none⟩
theorem XQ:qB6.Ok Tryz.prog 78 false:=
 .mk (fun g K X hp h=>qlr g K X h)
abbrev qsg:List Sh:=[.leaf]
abbrev qgT:List Lf:=[.str]
def qA2 (g:prodL qgT) (K:Kn):Prop:=
 K (.ag [.bool false,.str g.1,.nil]) []
theorem qhX (g:prodL qgT) (K X:Kn) (h:qA2 g K):FCalls Tryz.prog 119 (argsT qsg qgT g) [] K X:=
 FCalls.settle0 (qw Tryz.func119 Tryz.ntmps119 Tryz.results119 qj qz [] [] (by kernel_rfl) (by kernel_rfl) h)
def qr9:Sp:=⟨qsg,qgT,fun _=>True,fun g=> .ag [.bool false,.str g.1,.nil],fun _=>none⟩
theorem QJ:qr9.Ok Tryz.prog 119 false:=
 .mk (fun g K X hp h=>qhX g K X h)
abbrev S77:List Sh:=[.leaf]
abbrev L77:List Lf:=[.sl .sexp]
def F77 (g:prodL L77) (K:Kn):Prop:=
 K (.ag [.bool true,.str (⟨#[]⟩:ByteArray),.sl false .sexp g.1]) []
theorem qmR (g:prodL L77) (K X:Kn) (h:F77 g K):FCalls Tryz.prog 77 (argsT S77 L77 g) [] K X:=
 FCalls.settle0 (qw Tryz.func77 Tryz.ntmps77 Tryz.results77 qj qz [] [] (by kernel_rfl) (by kernel_rfl) h)
def qCj:Sp:=⟨S77,L77,fun _=>True,fun g=> .ag [.bool true,.str (⟨#[]⟩:ByteArray),.sl false .sexp g.1],fun _=>none⟩
theorem vd:qCj.Ok Tryz.prog 77 false:=
 .mk (fun g K X hp h=>qmR g K X h)
abbrev qlN:List Sh:=[.fsl .sexp]
abbrev qVV:List Lf:=[.sl .sexp]
abbrev qsx:List ObSh:=[]
def qta (g:prodL qVV) (K:Kn):Prop:=
 K (.ag [.bool true,.str (⟨#[]⟩:ByteArray),.sl true .sexp g.1]) []
theorem qdd (g:prodL qVV) (K X:Kn) (h:qta g K):FCalls Tryz.prog 118 (argsT qlN qVV g) (qi qlN qsx qVV g) K X 0:=
 FCalls.settle0 (qw Tryz.func118 Tryz.ntmps118 Tryz.results118 qj qz [] [] (by kernel_rfl) (by kernel_rfl) h)
def qrE:Raw:=⟨qlN,qsx,qVV,0,fun g K _=>qta g K⟩
theorem qvq:qrE.Ok Tryz.prog 118:=fun g K X h=>qdd g K X h
abbrev S83:List Sh:=[.leaf]
abbrev L83:List Lf:=[.int .i64]
def F83 (g:prodL L83) (K:Kn):Prop:=
 K (.bool (!decide (g.1=g.1))) []
theorem qoP (g:prodL L83) (K X:Kn) (h:F83 g K):FCalls Tryz.prog 83 (argsT S83 L83 g) [] K X:=
 FCalls.settle0 (qw Tryz.func83 Tryz.ntmps83 Tryz.results83 qj qz [] [] (by kernel_rfl) (by kernel_rfl) h)
def qA0:Sp:=⟨S83,L83,fun _=>True,fun g=> .bool (!decide (g.1=g.1)),fun _=>none⟩
theorem qcF:qA0.Ok Tryz.prog 83 false:=
 .mk (fun g K X hp h=>qoP g K X h)
abbrev qty:List Sh:=[.leaf]
abbrev qdK:List Lf:=[.int .i64]
def qrF (g:prodL qdK) (K:Kn):Prop:=
 bif decide (g.1=5)then (
  K (.bool true) [])
 else (
  K (.bool (decide (g.1=6))) [])
theorem qgm (g:prodL qdK) (K X:Kn) (h:qrF g K):FCalls Tryz.prog 180 (argsT qty qdK g) [] K X:=
 FCalls.settle0 (qw Tryz.func180 Tryz.ntmps180 Tryz.results180 qj qz [] [] (by kernel_rfl) (by kernel_rfl) h)
def qsp:Sp:=⟨qty,qdK,fun _=>True,fun g=> .bool (QH g.1),fun _=>none⟩
theorem qwk:qsp.Ok Tryz.prog 180 false:=
 .mk (fun g K X hp h=>qgm g K X (by
  have h:K (.bool (QH g.1)) []:=h;revert h;unfold qrF QH;show (fun v=>K (.bool v) []) _->_
  repeat' (first | exact id | refine qU (K:=fun v=>K (.bool v) []) ?_ ?_ | (intro h;refine ⟨trivial, ?_⟩;revert h))))
abbrev qu2:List Sh:=[.leaf]
abbrev qbg:List Lf:=[.int .i64]
def qr3 (g:prodL qbg) (K:Kn):Prop:=
 bif decide (g.1=7)then (
  K (.int .i64 0) [])
 else (
  K (.int .i64 g.1) [])
theorem qd0 (g:prodL qbg) (K X:Kn) (h:qr3 g K):FCalls Tryz.prog 216 (argsT qu2 qbg g) [] K X:=
 FCalls.settle0 (qw Tryz.func216 Tryz.ntmps216 Tryz.results216 qj qz [] [] (by kernel_rfl) (by kernel_rfl) h)
def qpT:Sp:=⟨qu2,qbg,fun _=>True,fun g=> .int .i64 (VE g.1),fun _=>none⟩
theorem qaI:qpT.Ok Tryz.prog 216 false:=
 .mk (fun g K X hp h=>qd0 g K X (by
  have h:K (.int .i64 (VE g.1)) []:=h;revert h;unfold qr3 VE;show (fun v=>K (.int .i64 v) []) _->_
  repeat' (first | exact id | refine qU (K:=fun v=>K (.int .i64 v) []) ?_ ?_ | (intro h;refine ⟨trivial, ?_⟩;revert h))))
abbrev qpN:List Sh:=[.leaf,.leaf]
abbrev qbc:List Lf:=[.el .idk,.el .atm]
def qsU (g:prodL qbc) (K:Kn):Prop:=
 bif decide (g.2.1.kind=5)then (
  K (.bool (qr g.2.1.file g.1)) [])
 else (
  K (.bool false) [])
theorem qdz (g:prodL qbc) (K X:Kn) (h:qsU g K):FCalls Tryz.prog 181 (argsT qpN qbc g) [] K X:=
 FCalls.settle0 (qw Tryz.func181 Tryz.ntmps181 Tryz.results181 qj qz [] [] (by kernel_rfl) (by kernel_rfl) h)
def quS:Sp:=⟨qpN,qbc,fun _=>True,fun g=> .bool (qzr g.1 g.2.1),fun _=>none⟩
theorem qaV:quS.Ok Tryz.prog 181 true:=
 .mk (fun g K X hp h=>qdz g K X (by
  have h:K (.bool (qzr g.1 g.2.1)) []:=h;revert h;unfold qsU qzr;show (fun v=>K (.bool v) []) _->_
  repeat' (first | exact id | refine qU (K:=fun v=>K (.bool v) []) ?_ ?_ | (intro h;refine ⟨trivial, ?_⟩;revert h))))
abbrev S41:List Sh:=[.leaf,.leaf]
abbrev L41:List Lf:=[.int .i64,.int .i64]
def F41 (g:prodL L41) (K:Kn):Prop:=
 True/\
 True/\
 bif !decide (g.1=g.1)then (
  bif !decide (g.2.1=g.2.1)then (
   K (.int .i64 0) [])
  else (
   K (.int .i64 (-1)) []))
 else (
  bif !decide (g.2.1=g.2.1)then (
  K (.int .i64 1) [])
 else (
  bif decide (g.1<g.2.1)then (
  K (.int .i64 (-1)) [])
 else (
  bif decide (g.2.1<g.1)then (
  K (.int .i64 1) [])
 else (
  K (.int .i64 0) []))))
theorem qnS (g:prodL L41) (K X:Kn) (h:F41 g K):FCalls Tryz.prog 41 (argsT S41 L41 g) [] K X:=
 FCalls.settle0 (qw Tryz.func41 Tryz.ntmps41 Tryz.results41 qj (qx qcF qz) [] [] (by kernel_rfl) (by kernel_rfl) h)
abbrev S64:List Sh:=[]
abbrev L64:List Lf:=[]
def F64 (g:prodL L64) (K:Kn):Prop:=
 K (.ag [.int .u32 1779033703,.int .u32 3144134277,.int .u32 1013904242,.int .u32 2773480762,.int .u32 1359893119,.int .u32 2600822924,.int .u32 528734635,.int .u32 1541459225]) []
theorem qlX (g:prodL L64) (K X:Kn) (h:F64 g K):FCalls Tryz.prog 64 (argsT S64 L64 g) [] K X:=
 FCalls.settle0 (qw Tryz.func64 Tryz.ntmps64 Tryz.results64 qj qz [] [] (by kernel_rfl) (by kernel_rfl) h)
def qc8:Sp:=⟨S64,L64,fun _=>True,fun g=> .ag [.int .u32 1779033703,.int .u32 3144134277,.int .u32 1013904242,.int .u32 2773480762,.int .u32 1359893119,.int .u32 2600822924,.int .u32 528734635,.int .u32 1541459225],fun _=>none⟩
theorem qdV:qc8.Ok Tryz.prog 64 false:=
 .mk (fun g K X hp h=>qlX g K X h)
def H62:List (Nat×Hint):=[(4,⟨[],[(0,.leaf),(1,.leaf),(5,.leaf)],[],[.sl .dig,.sl .dig,.int .i64]⟩)]
abbrev S62:List Sh:=[.leaf,.leaf]
abbrev L62:List Lf:=[.sl .dig,.sl .dig]
def Y8 (K:Kn) (d:prodL [.sl .dig,.sl .dig,.int .i64]->Prop) (b:List Dig) (c:List Dig) (a:Int):Prop:=
 bif decide (a< (b.length:Int))then (
  At b a fun e=>
 At c a fun f=>
 bif !(zn e f)then (
  K (.bool false) [])
 else (
  d (b,c,IntKind.i64.wrap (a+1),())))
 else (
  K (.bool true) [])
def qmX (K:Kn) (g:prodL [.sl .dig,.sl .dig,.int .i64]):Prop:=
 qy (γ:=prodL [.sl .dig,.sl .dig,.int .i64]) (fun V y=>Y8 K V y.1 y.2.1 y.2.2.1) g
def F62 (g:prodL L62) (K:Kn):Prop:=
 bif !decide ((g.1.length:Int)=(g.2.1.length:Int))then (
  K (.bool false) [])
 else (
  qmX K (g.1,g.2.1,0,()))
theorem qle (g:prodL L62) (K X:Kn) (h:F62 g K):FCalls Tryz.prog 62 (argsT S62 L62 g) [] K X:=
 FCalls.settle0 (qw Tryz.func62 Tryz.ntmps62 Tryz.results62 qj qz H62 [] (by kernel_rfl) (by kernel_rfl) h)
def qAZ:List (Nat×Hint):=[(4,⟨[],[(0,.leaf),(1,.leaf),(5,.leaf)],[],[.sl .str,.sl .str,.int .i64]⟩)]
abbrev qu5:List Sh:=[.leaf,.leaf]
abbrev qb5:List Lf:=[.sl .str,.sl .str]
def JY (K:Kn) (d:prodL [.sl .str,.sl .str,.int .i64]->Prop) (b:List ByteArray) (c:List ByteArray) (a:Int):Prop:=
 bif decide (a< (b.length:Int))then (
  At b a fun e=>
 At c a fun f=>
 bif !decide (e=f)then (
  K (.bool false) [])
 else (
  d (b,c,IntKind.i64.wrap (a+1),())))
 else (
  K (.bool true) [])
def qd8 (K:Kn) (g:prodL [.sl .str,.sl .str,.int .i64]):Prop:=
 qy (γ:=prodL [.sl .str,.sl .str,.int .i64]) (fun V y=>JY K V y.1 y.2.1 y.2.2.1) g
def qn9 (g:prodL qb5) (K:Kn):Prop:=
 bif !decide ((g.1.length:Int)=(g.2.1.length:Int))then (
  K (.bool false) [])
 else (
  qd8 K (g.1,g.2.1,0,()))
theorem qdr (g:prodL qb5) (K X:Kn) (h:qn9 g K):FCalls Tryz.prog 109 (argsT qu5 qb5 g) [] K X:=
 FCalls.settle0 (qw Tryz.func109 Tryz.ntmps109 Tryz.results109 qj qz qAZ [] (by kernel_rfl) (by kernel_rfl) h)
def qAl:List (Nat×Hint):=[(4,⟨[],[(0,.leaf),(1,.leaf),(5,.leaf)],[],[.sl .idk,.sl .idk,.int .i64]⟩)]
abbrev qrP:List Sh:=[.leaf,.leaf]
abbrev qbL:List Lf:=[.sl .idk,.sl .idk]
def JI (K:Kn) (d:prodL [.sl .idk,.sl .idk,.int .i64]->Prop) (b:List Idn) (c:List Idn) (a:Int):Prop:=
 bif decide (a< (b.length:Int))then (
  At b a fun e=>
 At c a fun f=>
 bif !(qr e f)then (
  K (.bool false) [])
 else (
  d (b,c,IntKind.i64.wrap (a+1),())))
 else (
  K (.bool true) [])
def qg0 (K:Kn) (g:prodL [.sl .idk,.sl .idk,.int .i64]):Prop:=
 qy (γ:=prodL [.sl .idk,.sl .idk,.int .i64]) (fun V y=>JI K V y.1 y.2.1 y.2.2.1) g
def qmP (g:prodL qbL) (K:Kn):Prop:=
 bif !decide ((g.1.length:Int)=(g.2.1.length:Int))then (
  K (.bool false) [])
 else (
  qg0 K (g.1,g.2.1,0,()))
theorem qcV (g:prodL qbL) (K X:Kn) (h:qmP g K):FCalls Tryz.prog 110 (argsT qrP qbL g) [] K X:=
 FCalls.settle0 (qw Tryz.func110 Tryz.ntmps110 Tryz.results110 qj qz qAl [] (by kernel_rfl) (by kernel_rfl) h)
def H71:List (Nat×Hint):=[(2,⟨[],[(0,.leaf),(3,.leaf)],[],[.str,.int .i64]⟩)]
def J71:List (Nat×Hint):=[(6,⟨[],[(0,.leaf),(3,.leaf),(48,.leaf)],[],[.str,.int .i64,.bool]⟩)]
abbrev S71:List Sh:=[.leaf]
abbrev L71:List Lf:=[.str]
def qT (K:Kn) (a:prodL [.str,.int .i64]->Prop) (b:ByteArray) (c:Int) (d:Bool):Prop:=
 bif d then (
  K (.bool false) [])
 else (
  a (b,IntKind.i64.wrap (c+1),()))
def qqa (K:Kn) (d:prodL [.str,.int .i64]->Prop) (b:ByteArray) (c:Int):Prop:=
 bif decide (c< (b.size:Int))then (
  qs b c fun a=>
 bif decide (97<=a)then (
  bif decide (a<=122)then (
   qT K d b c false)
  else (
   bif decide (65<=a)then (
    bif decide (a<=90)then (
     qT K d b c false)
    else (
     bif decide (48<=a)then (
      bif decide (a<=57)then (
       qT K d b c false)
      else (
       bif decide (a=46)then (
        qT K d b c false)
       else (
        bif decide (a=95)then (
         qT K d b c false)
        else (
         qT K d b c (!(decide (a=45)))))))
     else (
      bif decide (a=46)then (
       qT K d b c false)
      else (
       bif decide (a=95)then (
        qT K d b c false)
       else (
        qT K d b c (!(decide (a=45))))))))
   else (
    bif decide (48<=a)then (
     bif decide (a<=57)then (
      qT K d b c false)
     else (
      bif decide (a=46)then (
       qT K d b c false)
      else (
       bif decide (a=95)then (
        qT K d b c false)
       else (
        qT K d b c (!(decide (a=45)))))))
    else (
     bif decide (a=46)then (
      qT K d b c false)
     else (
      bif decide (a=95)then (
       qT K d b c false)
      else (
       qT K d b c (!(decide (a=45)))))))))
 else (
  bif decide (65<=a)then (
   bif decide (a<=90)then (
    qT K d b c false)
   else (
    bif decide (48<=a)then (
     bif decide (a<=57)then (
      qT K d b c false)
     else (
      bif decide (a=46)then (
       qT K d b c false)
      else (
       bif decide (a=95)then (
        qT K d b c false)
       else (
        qT K d b c (!(decide (a=45)))))))
    else (
     bif decide (a=46)then (
      qT K d b c false)
     else (
      bif decide (a=95)then (
       qT K d b c false)
      else (
       qT K d b c (!(decide (a=45))))))))
  else (
   bif decide (48<=a)then (
    bif decide (a<=57)then (
     qT K d b c false)
    else (
     bif decide (a=46)then (
      qT K d b c false)
     else (
      bif decide (a=95)then (
       qT K d b c false)
      else (
       qT K d b c (!(decide (a=45)))))))
   else (
    bif decide (a=46)then (
     qT K d b c false)
    else (
     bif decide (a=95)then (
      qT K d b c false)
     else (
      qT K d b c (!(decide (a=45)))))))))
 else (
  bif decide (1<=(b.size:Int))then (
  bif decide ((b.size:Int)<=40)then (
   bif !decide (b=(⟨#[46]⟩:ByteArray))then (
    K (.bool (!decide (b=(⟨#[46,46]⟩:ByteArray)))) [])
   else (
    K (.bool false) []))
  else (
   K (.bool false) []))
 else (
  K (.bool false) []))
def qng (K:Kn) (g:prodL [.str,.int .i64]):Prop:=
 qy (γ:=prodL [.str,.int .i64]) (fun V y=>qqa K V y.1 y.2.1) g
def F71 (g:prodL L71) (K:Kn):Prop:=
 qng K (g.1,0,())
theorem qo3 (g:prodL L71) (K X:Kn) (h:F71 g K):FCalls Tryz.prog 71 (argsT S71 L71 g) [] K X:=
 FCalls.settle0 (qw Tryz.func71 Tryz.ntmps71 Tryz.results71 qj qz H71 J71 (by kernel_rfl) (by kernel_rfl) h)
def qBc:List (Nat×Hint):=[(2,⟨[],[(0,.leaf),(6,.leaf),(7,.leaf)],[],[.str,.int .i64,.int .i64]⟩)]
def qB7:List (Nat×Hint):=[(6,⟨[],[(0,.leaf),(6,.leaf),(7,.leaf),(46,.leaf)],[],[.str,.int .i64,.int .i64,.bool]⟩)]
abbrev qpb:List Sh:=[.leaf]
abbrev qc7:List Lf:=[.str]
def qt (K:Kn) (a:prodL [.str,.int .i64,.int .i64]->Prop) (b:ByteArray) (c d:Int) (e:Bool):Prop:=
 bif e then (
  K (.bool false) [])
 else (
  a (b,c,IntKind.i64.wrap (d+1),()))
def JE (K:Kn) (e:prodL [.str,.int .i64,.int .i64]->Prop) (b:ByteArray) (d c:Int):Prop:=
 bif decide (c<d)then (
  qs b c fun a=>
 bif decide (a<97)then (
  bif decide (a<65)then (
   bif decide (a<48)then (
    bif !decide (a=46)then (
     bif !decide (a=95)then (
      qt K e b d c (!decide (a=45)))
     else (
      qt K e b d c false))
    else (
     qt K e b d c false))
   else (
    bif decide (57<a)then (
     bif !decide (a=46)then (
      bif !decide (a=95)then (
       qt K e b d c (!decide (a=45)))
      else (
       qt K e b d c false))
     else (
      qt K e b d c false))
    else (
     qt K e b d c false)))
  else (
   bif decide (90<a)then (
    bif decide (a<48)then (
     bif !decide (a=46)then (
      bif !decide (a=95)then (
       qt K e b d c (!decide (a=45)))
      else (
       qt K e b d c false))
     else (
      qt K e b d c false))
    else (
     bif decide (57<a)then (
      bif !decide (a=46)then (
       bif !decide (a=95)then (
        qt K e b d c (!decide (a=45)))
       else (
        qt K e b d c false))
      else (
       qt K e b d c false))
     else (
      qt K e b d c false)))
   else (
    qt K e b d c false)))
 else (
  bif decide (122<a)then (
   bif decide (a<65)then (
    bif decide (a<48)then (
     bif !decide (a=46)then (
      bif !decide (a=95)then (
       qt K e b d c (!decide (a=45)))
      else (
       qt K e b d c false))
     else (
      qt K e b d c false))
    else (
     bif decide (57<a)then (
      bif !decide (a=46)then (
       bif !decide (a=95)then (
        qt K e b d c (!decide (a=45)))
       else (
        qt K e b d c false))
      else (
       qt K e b d c false))
     else (
      qt K e b d c false)))
   else (
    bif decide (90<a)then (
     bif decide (a<48)then (
      bif !decide (a=46)then (
       bif !decide (a=95)then (
        qt K e b d c (!decide (a=45)))
       else (
        qt K e b d c false))
      else (
       qt K e b d c false))
     else (
      bif decide (57<a)then (
       bif !decide (a=46)then (
        bif !decide (a=95)then (
         qt K e b d c (!decide (a=45)))
        else (
         qt K e b d c false))
       else (
        qt K e b d c false))
      else (
       qt K e b d c false)))
    else (
     qt K e b d c false)))
  else (
   qt K e b d c false)))
 else (
  bif !decide (b=(⟨#[]⟩:ByteArray))then (
  bif decide ((b.size:Int)<=40)then (
   bif !decide (b=(⟨#[46]⟩:ByteArray))then (
    K (.bool (!decide (b=(⟨#[46,46]⟩:ByteArray)))) [])
   else (
    K (.bool false) []))
  else (
   K (.bool false) []))
 else (
  K (.bool false) []))
def qgD (K:Kn) (g:prodL [.str,.int .i64,.int .i64]):Prop:=
 qy (γ:=prodL [.str,.int .i64,.int .i64]) (fun V y=>JE K V y.1 y.2.1 y.2.2.1) g
def qlc (g:prodL qc7) (K:Kn):Prop:=
 qgD K (g.1,(g.1.size:Int),0,())
theorem qf2 (g:prodL qc7) (K X:Kn) (h:qlc g K):FCalls Tryz.prog 115 (argsT qpb qc7 g) [] K X:=
 FCalls.settle0 (qw Tryz.func115 Tryz.ntmps115 Tryz.results115 qj qz qBc qB7 (by kernel_rfl) (by kernel_rfl) h)
def qBb:List (Nat×Hint):=[(2,⟨[],[(0,.leaf),(1,.leaf),(2,.leaf),(7,.leaf)],[],[.str,.int .u8,.int .u8,.int .i64]⟩)]
def qBG:List (Nat×Hint):=[(5,⟨[],[(0,.leaf),(1,.leaf),(2,.leaf),(7,.leaf),(25,.leaf)],[],[.str,.int .u8,.int .u8,.int .i64,.bool]⟩)]
abbrev qp4:List Sh:=[.leaf,.leaf,.leaf]
abbrev qcG:List Lf:=[.str,.int .u8,.int .u8]
def WE (K:Kn) (a:prodL [.str,.int .u8,.int .u8,.int .i64]->Prop) (b:ByteArray) (c d e:Int) (f:Bool):Prop:=
 bif f then (
  K (.bool false) [])
 else (
  a (b,c,d,IntKind.i64.wrap (e+1),()))
def JD (K:Kn) (e:prodL [.str,.int .u8,.int .u8,.int .i64]->Prop) (a:ByteArray) (c d b:Int):Prop:=
 bif decide (b< (a.size:Int))then (
  qs a b fun f=>
 bif decide (f=c)then (
  WE K e a c d b true)
 else (
  qs a b fun g=>
  WE K e a c d b (decide (g=d))))
 else (
  K (.bool true) [])
def qdB (K:Kn) (g:prodL [.str,.int .u8,.int .u8,.int .i64]):Prop:=
 qy (γ:=prodL [.str,.int .u8,.int .u8,.int .i64]) (fun V y=>JD K V y.1 y.2.1 y.2.2.1 y.2.2.2.1) g
def qm8 (g:prodL qcG) (K:Kn):Prop:=
 qdB K (g.1,g.2.1,g.2.2.1,0,())
theorem qdg (g:prodL qcG) (K X:Kn) (h:qm8 g K):FCalls Tryz.prog 230 (argsT qp4 qcG g) [] K X:=
 FCalls.settle0 (qw Tryz.func230 Tryz.ntmps230 Tryz.results230 qj qz qBb qBG (by kernel_rfl) (by kernel_rfl) h)
def qBW:List (Nat×Hint):=[(2,⟨[],[],[],[]⟩),(33000002,⟨[],[],[],[]⟩)]
abbrev qpu:List Sh:=[.leaf,.leaf]
abbrev qVO:List Lf:=[.el .dig,.el .dig]
def qli (g:prodL qVO) (K:Kn):Prop:=
 0<=(0:Int)/\(0:Int).toNat<32/\
 0<=(0:Int)/\(0:Int).toNat<32/\
 bif decide (g.1.b0<g.2.1.b0)then (
  K (.int .i64 (-1)) [])
 else (
  0<=(0:Int)/\(0:Int).toNat<32/\
 0<=(0:Int)/\(0:Int).toNat<32/\
 bif decide (g.2.1.b0<g.1.b0)then (
  K (.int .i64 1) [])
 else (
  0<=(1:Int)/\(1:Int).toNat<32/\
 0<=(1:Int)/\(1:Int).toNat<32/\
 bif decide (g.1.b1<g.2.1.b1)then (
  K (.int .i64 (-1)) [])
 else (
  0<=(1:Int)/\(1:Int).toNat<32/\
 0<=(1:Int)/\(1:Int).toNat<32/\
 bif decide (g.2.1.b1<g.1.b1)then (
  K (.int .i64 1) [])
 else (
  0<=(2:Int)/\(2:Int).toNat<32/\
 0<=(2:Int)/\(2:Int).toNat<32/\
 bif decide (g.1.b2<g.2.1.b2)then (
  K (.int .i64 (-1)) [])
 else (
  0<=(2:Int)/\(2:Int).toNat<32/\
 0<=(2:Int)/\(2:Int).toNat<32/\
 bif decide (g.2.1.b2<g.1.b2)then (
  K (.int .i64 1) [])
 else (
  0<=(3:Int)/\(3:Int).toNat<32/\
 0<=(3:Int)/\(3:Int).toNat<32/\
 bif decide (g.1.b3<g.2.1.b3)then (
  K (.int .i64 (-1)) [])
 else (
  0<=(3:Int)/\(3:Int).toNat<32/\
 0<=(3:Int)/\(3:Int).toNat<32/\
 bif decide (g.2.1.b3<g.1.b3)then (
  K (.int .i64 1) [])
 else (
  0<=(4:Int)/\(4:Int).toNat<32/\
 0<=(4:Int)/\(4:Int).toNat<32/\
 bif decide (g.1.b4<g.2.1.b4)then (
  K (.int .i64 (-1)) [])
 else (
  0<=(4:Int)/\(4:Int).toNat<32/\
 0<=(4:Int)/\(4:Int).toNat<32/\
 bif decide (g.2.1.b4<g.1.b4)then (
  K (.int .i64 1) [])
 else (
  0<=(5:Int)/\(5:Int).toNat<32/\
 0<=(5:Int)/\(5:Int).toNat<32/\
 bif decide (g.1.b5<g.2.1.b5)then (
  K (.int .i64 (-1)) [])
 else (
  0<=(5:Int)/\(5:Int).toNat<32/\
 0<=(5:Int)/\(5:Int).toNat<32/\
 bif decide (g.2.1.b5<g.1.b5)then (
  K (.int .i64 1) [])
 else (
  0<=(6:Int)/\(6:Int).toNat<32/\
 0<=(6:Int)/\(6:Int).toNat<32/\
 bif decide (g.1.b6<g.2.1.b6)then (
  K (.int .i64 (-1)) [])
 else (
  0<=(6:Int)/\(6:Int).toNat<32/\
 0<=(6:Int)/\(6:Int).toNat<32/\
 bif decide (g.2.1.b6<g.1.b6)then (
  K (.int .i64 1) [])
 else (
  0<=(7:Int)/\(7:Int).toNat<32/\
 0<=(7:Int)/\(7:Int).toNat<32/\
 bif decide (g.1.b7<g.2.1.b7)then (
  K (.int .i64 (-1)) [])
 else (
  0<=(7:Int)/\(7:Int).toNat<32/\
 0<=(7:Int)/\(7:Int).toNat<32/\
 bif decide (g.2.1.b7<g.1.b7)then (
  K (.int .i64 1) [])
 else (
  0<=(8:Int)/\(8:Int).toNat<32/\
 0<=(8:Int)/\(8:Int).toNat<32/\
 bif decide (g.1.b8<g.2.1.b8)then (
  K (.int .i64 (-1)) [])
 else (
  0<=(8:Int)/\(8:Int).toNat<32/\
 0<=(8:Int)/\(8:Int).toNat<32/\
 bif decide (g.2.1.b8<g.1.b8)then (
  K (.int .i64 1) [])
 else (
  0<=(9:Int)/\(9:Int).toNat<32/\
 0<=(9:Int)/\(9:Int).toNat<32/\
 bif decide (g.1.b9<g.2.1.b9)then (
  K (.int .i64 (-1)) [])
 else (
  0<=(9:Int)/\(9:Int).toNat<32/\
 0<=(9:Int)/\(9:Int).toNat<32/\
 bif decide (g.2.1.b9<g.1.b9)then (
  K (.int .i64 1) [])
 else (
  0<=(10:Int)/\(10:Int).toNat<32/\
 0<=(10:Int)/\(10:Int).toNat<32/\
 bif decide (g.1.b10<g.2.1.b10)then (
  K (.int .i64 (-1)) [])
 else (
  0<=(10:Int)/\(10:Int).toNat<32/\
 0<=(10:Int)/\(10:Int).toNat<32/\
 bif decide (g.2.1.b10<g.1.b10)then (
  K (.int .i64 1) [])
 else (
  0<=(11:Int)/\(11:Int).toNat<32/\
 0<=(11:Int)/\(11:Int).toNat<32/\
 bif decide (g.1.b11<g.2.1.b11)then (
  K (.int .i64 (-1)) [])
 else (
  0<=(11:Int)/\(11:Int).toNat<32/\
 0<=(11:Int)/\(11:Int).toNat<32/\
 bif decide (g.2.1.b11<g.1.b11)then (
  K (.int .i64 1) [])
 else (
  0<=(12:Int)/\(12:Int).toNat<32/\
 0<=(12:Int)/\(12:Int).toNat<32/\
 bif decide (g.1.b12<g.2.1.b12)then (
  K (.int .i64 (-1)) [])
 else (
  0<=(12:Int)/\(12:Int).toNat<32/\
 0<=(12:Int)/\(12:Int).toNat<32/\
 bif decide (g.2.1.b12<g.1.b12)then (
  K (.int .i64 1) [])
 else (
  0<=(13:Int)/\(13:Int).toNat<32/\
 0<=(13:Int)/\(13:Int).toNat<32/\
 bif decide (g.1.b13<g.2.1.b13)then (
  K (.int .i64 (-1)) [])
 else (
  0<=(13:Int)/\(13:Int).toNat<32/\
 0<=(13:Int)/\(13:Int).toNat<32/\
 bif decide (g.2.1.b13<g.1.b13)then (
  K (.int .i64 1) [])
 else (
  0<=(14:Int)/\(14:Int).toNat<32/\
 0<=(14:Int)/\(14:Int).toNat<32/\
 bif decide (g.1.b14<g.2.1.b14)then (
  K (.int .i64 (-1)) [])
 else (
  0<=(14:Int)/\(14:Int).toNat<32/\
 0<=(14:Int)/\(14:Int).toNat<32/\
 bif decide (g.2.1.b14<g.1.b14)then (
  K (.int .i64 1) [])
 else (
  0<=(15:Int)/\(15:Int).toNat<32/\
 0<=(15:Int)/\(15:Int).toNat<32/\
 bif decide (g.1.b15<g.2.1.b15)then (
  K (.int .i64 (-1)) [])
 else (
  0<=(15:Int)/\(15:Int).toNat<32/\
 0<=(15:Int)/\(15:Int).toNat<32/\
 bif decide (g.2.1.b15<g.1.b15)then (
  K (.int .i64 1) [])
 else (
  0<=(16:Int)/\(16:Int).toNat<32/\
 0<=(16:Int)/\(16:Int).toNat<32/\
 bif decide (g.1.b16<g.2.1.b16)then (
  K (.int .i64 (-1)) [])
 else (
  0<=(16:Int)/\(16:Int).toNat<32/\
 0<=(16:Int)/\(16:Int).toNat<32/\
 bif decide (g.2.1.b16<g.1.b16)then (
  K (.int .i64 1) [])
 else (
  0<=(17:Int)/\(17:Int).toNat<32/\
 0<=(17:Int)/\(17:Int).toNat<32/\
 bif decide (g.1.b17<g.2.1.b17)then (
  K (.int .i64 (-1)) [])
 else (
  0<=(17:Int)/\(17:Int).toNat<32/\
 0<=(17:Int)/\(17:Int).toNat<32/\
 bif decide (g.2.1.b17<g.1.b17)then (
  K (.int .i64 1) [])
 else (
  0<=(18:Int)/\(18:Int).toNat<32/\
 0<=(18:Int)/\(18:Int).toNat<32/\
 bif decide (g.1.b18<g.2.1.b18)then (
  K (.int .i64 (-1)) [])
 else (
  0<=(18:Int)/\(18:Int).toNat<32/\
 0<=(18:Int)/\(18:Int).toNat<32/\
 bif decide (g.2.1.b18<g.1.b18)then (
  K (.int .i64 1) [])
 else (
  0<=(19:Int)/\(19:Int).toNat<32/\
 0<=(19:Int)/\(19:Int).toNat<32/\
 bif decide (g.1.b19<g.2.1.b19)then (
  K (.int .i64 (-1)) [])
 else (
  0<=(19:Int)/\(19:Int).toNat<32/\
 0<=(19:Int)/\(19:Int).toNat<32/\
 bif decide (g.2.1.b19<g.1.b19)then (
  K (.int .i64 1) [])
 else (
  0<=(20:Int)/\(20:Int).toNat<32/\
 0<=(20:Int)/\(20:Int).toNat<32/\
 bif decide (g.1.b20<g.2.1.b20)then (
  K (.int .i64 (-1)) [])
 else (
  0<=(20:Int)/\(20:Int).toNat<32/\
 0<=(20:Int)/\(20:Int).toNat<32/\
 bif decide (g.2.1.b20<g.1.b20)then (
  K (.int .i64 1) [])
 else (
  0<=(21:Int)/\(21:Int).toNat<32/\
 0<=(21:Int)/\(21:Int).toNat<32/\
 bif decide (g.1.b21<g.2.1.b21)then (
  K (.int .i64 (-1)) [])
 else (
  0<=(21:Int)/\(21:Int).toNat<32/\
 0<=(21:Int)/\(21:Int).toNat<32/\
 bif decide (g.2.1.b21<g.1.b21)then (
  K (.int .i64 1) [])
 else (
  0<=(22:Int)/\(22:Int).toNat<32/\
 0<=(22:Int)/\(22:Int).toNat<32/\
 bif decide (g.1.b22<g.2.1.b22)then (
  K (.int .i64 (-1)) [])
 else (
  0<=(22:Int)/\(22:Int).toNat<32/\
 0<=(22:Int)/\(22:Int).toNat<32/\
 bif decide (g.2.1.b22<g.1.b22)then (
  K (.int .i64 1) [])
 else (
  0<=(23:Int)/\(23:Int).toNat<32/\
 0<=(23:Int)/\(23:Int).toNat<32/\
 bif decide (g.1.b23<g.2.1.b23)then (
  K (.int .i64 (-1)) [])
 else (
  0<=(23:Int)/\(23:Int).toNat<32/\
 0<=(23:Int)/\(23:Int).toNat<32/\
 bif decide (g.2.1.b23<g.1.b23)then (
  K (.int .i64 1) [])
 else (
  0<=(24:Int)/\(24:Int).toNat<32/\
 0<=(24:Int)/\(24:Int).toNat<32/\
 bif decide (g.1.b24<g.2.1.b24)then (
  K (.int .i64 (-1)) [])
 else (
  0<=(24:Int)/\(24:Int).toNat<32/\
 0<=(24:Int)/\(24:Int).toNat<32/\
 bif decide (g.2.1.b24<g.1.b24)then (
  K (.int .i64 1) [])
 else (
  0<=(25:Int)/\(25:Int).toNat<32/\
 0<=(25:Int)/\(25:Int).toNat<32/\
 bif decide (g.1.b25<g.2.1.b25)then (
  K (.int .i64 (-1)) [])
 else (
  0<=(25:Int)/\(25:Int).toNat<32/\
 0<=(25:Int)/\(25:Int).toNat<32/\
 bif decide (g.2.1.b25<g.1.b25)then (
  K (.int .i64 1) [])
 else (
  0<=(26:Int)/\(26:Int).toNat<32/\
 0<=(26:Int)/\(26:Int).toNat<32/\
 bif decide (g.1.b26<g.2.1.b26)then (
  K (.int .i64 (-1)) [])
 else (
  0<=(26:Int)/\(26:Int).toNat<32/\
 0<=(26:Int)/\(26:Int).toNat<32/\
 bif decide (g.2.1.b26<g.1.b26)then (
  K (.int .i64 1) [])
 else (
  0<=(27:Int)/\(27:Int).toNat<32/\
 0<=(27:Int)/\(27:Int).toNat<32/\
 bif decide (g.1.b27<g.2.1.b27)then (
  K (.int .i64 (-1)) [])
 else (
  0<=(27:Int)/\(27:Int).toNat<32/\
 0<=(27:Int)/\(27:Int).toNat<32/\
 bif decide (g.2.1.b27<g.1.b27)then (
  K (.int .i64 1) [])
 else (
  0<=(28:Int)/\(28:Int).toNat<32/\
 0<=(28:Int)/\(28:Int).toNat<32/\
 bif decide (g.1.b28<g.2.1.b28)then (
  K (.int .i64 (-1)) [])
 else (
  0<=(28:Int)/\(28:Int).toNat<32/\
 0<=(28:Int)/\(28:Int).toNat<32/\
 bif decide (g.2.1.b28<g.1.b28)then (
  K (.int .i64 1) [])
 else (
  0<=(29:Int)/\(29:Int).toNat<32/\
 0<=(29:Int)/\(29:Int).toNat<32/\
 bif decide (g.1.b29<g.2.1.b29)then (
  K (.int .i64 (-1)) [])
 else (
  0<=(29:Int)/\(29:Int).toNat<32/\
 0<=(29:Int)/\(29:Int).toNat<32/\
 bif decide (g.2.1.b29<g.1.b29)then (
  K (.int .i64 1) [])
 else (
  0<=(30:Int)/\(30:Int).toNat<32/\
 0<=(30:Int)/\(30:Int).toNat<32/\
 bif decide (g.1.b30<g.2.1.b30)then (
  K (.int .i64 (-1)) [])
 else (
  0<=(30:Int)/\(30:Int).toNat<32/\
 0<=(30:Int)/\(30:Int).toNat<32/\
 bif decide (g.2.1.b30<g.1.b30)then (
  K (.int .i64 1) [])
 else (
  0<=(31:Int)/\(31:Int).toNat<32/\
 0<=(31:Int)/\(31:Int).toNat<32/\
 bif decide (g.1.b31<g.2.1.b31)then (
  K (.int .i64 (-1)) [])
 else (
  0<=(31:Int)/\(31:Int).toNat<32/\
 0<=(31:Int)/\(31:Int).toNat<32/\
 bif decide (g.2.1.b31<g.1.b31)then (
  K (.int .i64 1) [])
 else (
  K (.int .i64 0) []))))))))))))))))))))))))))))))))))))))))))))))))))))))))))))))))
theorem qej (g:prodL qVO) (K X:Kn) (h:qli g K):FCalls Tryz.prog 124 (argsT qpu qVO g) [] K X:=
 FCalls.settle0 (qw Tryz.func124 Tryz.ntmps124 Tryz.results124 qj qz qBW [] (by kernel_rfl) (by kernel_rfl) h)
end
section
open Go.RowKit
theorem qmm {a b:List Dig} {K:Kn} (hl:V3 a.length) (h:K (.bool (decide (a=b))) []):F62 (a,b,()) K:=by
 unfold V3 at hl;unfold F62;show bif !decide ((a.length:Int)=(b.length:Int))then _ else _
 rw [eqI];by_cases e:a.length=b.length
 . rw [Jaa e,Jap,Jaf];rw [Y6 e] at h;refine qy.all a.length (fun n=>(a,b,(n:Int),())) (fun n=>decide (a[n]? =b[n]?)) (fun r=>K (.bool r) []) h rfl (fun W n hn ht hf=> ?_) fun ht W=> ?_
   . show Y8 K W a b n
     unfold Y8;rw [qu hn,Jae];refine qD hn (qD (by omega) ?_)
     rw [QG];rw [jU hn,jU (show n<b.length by omega)] at ht hf
     simp only [Jah] at ht hf;cases c:decide (a[n]=b[n])<;>simp only [c,Ja4,Jap,Jae,Jaf]
     . exact hf c
     . rw [zd hn (by omega)];exact ht c
   . show Y8 K W a b (a.length:Int)
     unfold Y8;rw [qm,Jaf];exact ht
 . rw [Jab e,Ja4,Jae];have:decide (a=b)=false:=Jab fun c=>e (by rw [c])
   rwa [this] at h
def qrI:Sp:=⟨S62,L62,fun g=>V3 g.1.length,fun g=> .bool (decide (g.1=g.2.1)),fun _=>none⟩
theorem qdh:qrI.Ok Tryz.prog 62 true:=
 .mk (fun g K X hp h=>qle g K X (qmm hp h))
theorem qeH {a b:List ByteArray} {K:Kn} (hl:V3 a.length) (h:K (.bool (decide (a=b))) []):qn9 (a,b,()) K:=by
 unfold V3 at hl;unfold qn9;show bif !decide ((a.length:Int)=(b.length:Int))then _ else _
 rw [eqI];by_cases e:a.length=b.length
 . rw [Jaa e,Jap,Jaf];rw [Y6 e] at h;refine qy.all a.length (fun n=>(a,b,(n:Int),())) (fun n=>decide (a[n]? =b[n]?)) (fun r=>K (.bool r) []) h rfl (fun W n hn ht hf=> ?_) fun ht W=> ?_
   . show JY K W a b n
     unfold JY;rw [qu hn,Jae];refine qD hn (qD (by omega) ?_)
     rw [jU hn,jU (show n<b.length by omega)] at ht hf
     simp only [Jah] at ht hf;cases c:decide (a[n]=b[n])<;>simp only [c,Ja4,Jap,Jae,Jaf]
     . exact hf c
     . rw [zd hn (by omega)];exact ht c
   . show JY K W a b (a.length:Int)
     unfold JY;rw [qm,Jaf];exact ht
 . rw [Jab e,Ja4,Jae];have:decide (a=b)=false:=Jab fun c=>e (by rw [c])
   rwa [this] at h
def qhA:Sp:=⟨qu5,qb5,fun g=>V3 g.1.length,fun g=> .bool (decide (g.1=g.2.1)),fun _=>none⟩
theorem qWs:qhA.Ok Tryz.prog 109 true:=
 .mk (fun g K X hp h=>qdr g K X (qeH hp h))
theorem qex {a b:List Idn} {K:Kn} (hl:V3 a.length) (h:K (.bool (decide (a=b))) []):qmP (a,b,()) K:=by
 unfold V3 at hl;unfold qmP;show bif !decide ((a.length:Int)=(b.length:Int))then _ else _
 rw [eqI];by_cases e:a.length=b.length
 . rw [Jaa e,Jap,Jaf];rw [Y6 e] at h;refine qy.all a.length (fun n=>(a,b,(n:Int),())) (fun n=>decide (a[n]? =b[n]?)) (fun r=>K (.bool r) []) h rfl (fun W n hn ht hf=> ?_) fun ht W=> ?_
   . show JI K W a b n
     unfold JI;rw [qu hn,Jae];refine qD hn (qD (by omega) ?_)
     rw [v8];rw [jU hn,jU (show n<b.length by omega)] at ht hf
     simp only [Jah] at ht hf;cases c:decide (a[n]=b[n])<;>simp only [c,Ja4,Jap,Jae,Jaf]
     . exact hf c
     . rw [zd hn (by omega)];exact ht c
   . show JI K W a b (a.length:Int)
     unfold JI;rw [qm,Jaf];exact ht
 . rw [Jab e,Ja4,Jae];have:decide (a=b)=false:=Jab fun c=>e (by rw [c])
   rwa [this] at h
def qiR:Sp:=⟨qrP,qbL,fun g=>V3 g.1.length,fun g=> .bool (decide (g.1=g.2.1)),fun _=>none⟩
theorem qWF:qiR.Ok Tryz.prog 110 true:=
 .mk (fun g K X hp h=>qcV g K X (qex hp h))
theorem qoO {a b:Int} {K:Kn} (h:K (.int .i64 (ZS a b)) []):F41 (a,b,()) K:=by
 unfold F41;simp only [decide_true,Jap,Jaf];refine ⟨trivial,trivial, ?_⟩;unfold ZS at h;cases c:decide (a<b)<;>simp only [c,Jae,Jaf] at h ⊢
 . cases d:decide (b<a)<;>simp only [d,Jae,Jaf] at h ⊢ <;>exact h
 . exact h
def qCn:Sp:=⟨S41,L41,fun _=>True,fun g=> .int .i64 (ZS g.1 g.2.1),fun _=>none⟩
theorem qcS:qCn.Ok Tryz.prog 41 false:=
 .mk (fun g K X _ h=>qnS g K X (qoO h))
set_option maxRecDepth 100000 in
theorem qbR {g:prodL qVO} {K:Kn} (h:K (.int .i64 (xQ g.1 g.2.1)) []):qli g K:=by
 unfold qli;unfold xQ xB at h;revert h;show (fun v=>K (.int .i64 v) []) _->_
 iterate 32
  unfold qVo;intro h;refine ⟨by decide,by decide,by decide,by decide, ?_⟩
  revert h;refine qU (K:=fun v=>K (.int .i64 v) []) id ?_
  intro h;refine ⟨by decide,by decide,by decide,by decide, ?_⟩
  revert h;refine qU (K:=fun v=>K (.int .i64 v) []) id ?_
 exact id
def qsB:Sp:=⟨qpu,qVO,fun _=>True,fun g=> .int .i64 (xQ g.1 g.2.1),fun _=>none⟩
theorem qw9:qsB.Ok Tryz.prog 124 true:=
 .mk (fun g K X _ h=>qej g K X (qbR h))
end
section
open Go.RowKit Go.Lib
theorem Vf {P:Program} [Bd P] {g:G P} {st:St} {w:World} (hg:Good g st w) {full:Bool} {l:List Int} {x:Value} (h:R g (.sl full .u8 l) x):(Extern.Bytes.bytesOf x).run P w= .ok ⟨(bs l).toArray⟩ w:=by
 cases h with
 | sl _ _ _ A c h1 h2 h3 h4=>
  by_cases hl:l=[]
  . subst hl;cases A with
    | none=>rfl
    | some a=>rfl
  . obtain ⟨b,off,cs,rfl,k2,k3⟩:=h4 hl;obtain ⟨blk,E,fr,p1,p2⟩:=hg.ro b cs k2;obtain ⟨he,_⟩:=WQ (e:= .u8) (f:=id) rfl l;have hrow:=jl.ofR p2 p1 off (l.length*sz .u8) (by rw [k3];exact zo)
    rw [k3,he] at hrow;have hc: ∀(j:Nat) (y:Int),l[j]? =some y->w.cell? ((⟨b,off,none⟩:Addr).add j)=some (.int .u8 y):=fun j y hj=>by
     obtain ⟨z,y1,_,y3⟩:=hrow j (.int .u8 y) (by simp only [id,Jax,hj];rfl)
     cases y3;rw [Addr.add_lit];exact y1
    have hl:=run_loadBytesX (P:=P) w l ⟨b,off,none⟩ .empty hc;show (Extern.Bytes.loadBytes ⟨b,off,none⟩ l.length .empty).run P w=_
    rw [hl];congr 1
    apply ByteArray.ext;show (#[]:Array UInt8)++(Lib.bytesOf l).toArray=(bs l).toArray
    rw [Array.empty_append];rfl
theorem qwT {P:Program} {w:World} {x y:Value} {l m:List UInt8} (hx:(Extern.Bytes.bytesOf x).run P w= .ok ⟨l.toArray⟩ w) (hy:(Extern.Bytes.bytesOf y).run P w= .ok ⟨m.toArray⟩ w):
  (Extern.BytealgCompare.compare #[x,y]).run P w= .ok (.int .i64 (compareBytes l m)) w:=by
 change Sem.run P (do pure (goInt (Extern.BytealgCompare.cmp (<- Extern.Bytes.bytesOf x) (<- Extern.Bytes.bytesOf y)))) w=_
 simp only [Sem.run_bind,hx,hy,Sem.run_pure,Result.andThen];rw [cmp_eq];rfl
set_option maxHeartbeats 1000000 in
set_option maxRecDepth 100000 in
theorem qz5 {w:World} {x y:Value} {l m:List UInt8} (hx:(Extern.Bytes.bytesOf x).run Tryz.prog w= .ok ⟨l.toArray⟩ w) (hy:(Extern.Bytes.bytesOf y).run Tryz.prog w= .ok ⟨m.toArray⟩ w):
  Calls Tryz.prog 40 #[x,y] w fun e w'=>e= .returned (.int .i64 (compareBytes l m))/\w'=w:=by
 go_enter Tryz.func40,Tryz.ntmps40
 go_wp2
 rw [run_callFunc_extern Tryz.func82 (by kernel_rfl) (by kernel_rfl) (by kernel_rfl) (e:=Extern.BytealgCompare.compare) (by kernel_rfl),qwT hx hy]
 simp only [Result.andThen];rw [Oper.upon_value];go_wp2
 go_ret
 exact ⟨rfl,rfl⟩
set_option maxHeartbeats 1000000 in
set_option maxRecDepth 100000 in
theorem qXn {w:World} {s:ByteArray} {c:Int}:
  Calls Tryz.prog 208 #[.string s,.int .u8 c] w fun e w'=>e= .returned (.int .i64 (Lib.indexByte s.data.toList c.toNat.toUInt8))/\w'=w:=by
 go_enter Tryz.func208,Tryz.ntmps208
 go_wp2
 rw [run_callFunc_extern Tryz.func227 (by kernel_rfl) (by kernel_rfl) (by kernel_rfl) (e:=Extern.BytealgIndexByte.indexByte) (by kernel_rfl),Lib.run_indexByteString]
 simp only [Result.andThen];rw [Oper.upon_value];go_wp2
 go_ret
 exact ⟨rfl,rfl⟩
theorem qy4 {P:Program} {g:G P} {u v:T} {args:Array Value} (h:RL g [u,v] args): ∃x y,args= #[x,y]/\R g u x/\R g v y:=by
 have h2:args.size=2:=h.len.symm;refine ⟨args[0],args[1],Array.ext (by simpa using h2) fun i h1 h3=> ?_,h.val 0 u _ rfl (Jaw (by omega)),h.val 1 v _ rfl (Jaw (by omega))⟩
 have:i=0∨i=1:=by simp at h3;omega
 rcases this with rfl | rfl<;>rfl
def qZs (l m:List Int):Int:=compareBytes (bs l) (bs m)
def qqm (s:ByteArray) (c:Int):Int:=Lib.indexByte s.data.toList c.toNat.toUInt8
def qAx:Sp:=⟨[.leaf,.leaf],[.sl .u8,.sl .u8],fun _=>True,fun g=> .int .i64 (qZs g.1 g.2.1),fun _=>none⟩
theorem qQ1:qAx.Ok Tryz.prog 40 true:=
 .mk (by
  rintro ⟨l,m,⟨⟩⟩ K X hp hK g w hg;refine Qw.of (by kernel_rfl) fun args hr=> ?_
  obtain ⟨x,y,rfl,hx,hy⟩:=qy4 hr;refine (qz5 (Vf hg hx) (Vf hg hy)).mono ?_;rintro e w' ⟨rfl,rfl⟩;exact ⟨g,[],hg,Step.refl,_,hK,.int _ _⟩)
def qu9:Sp:=⟨[.leaf,.leaf],[.str,.int .u8],fun _=>True,fun g=> .int .i64 (qqm g.1 g.2.1),fun _=>none⟩
theorem qaM:qu9.Ok Tryz.prog 208 true:=
 .mk (by
  rintro ⟨s,c,⟨⟩⟩ K X hp hK g w hg;refine Qw.of (by kernel_rfl) fun args hr=> ?_
  obtain ⟨x,y,rfl,hx,hy⟩:=qy4 hr;cases hx;cases hy;refine qXn.mono ?_;rintro e w' ⟨rfl,rfl⟩;exact ⟨g,[],hg,Step.refl,_,hK,.int _ _⟩)
end
section
open Go.RowKit
attribute [local irreducible] zb qa
set_option maxRecDepth 100000
abbrev S18:List Sh:=[.leaf,.leaf]
abbrev L18:List Lf:=[.el .dig,.el .dig]
def F18 (g:prodL L18) (K:Kn):Prop:=
 True/\
 K (.int .i64 (qZs (xB g.1) (xB g.2.1))) []
theorem qod (g:prodL L18) (K X:Kn) (h:F18 g K):FCalls Tryz.prog 18 (argsT S18 L18 g) [] K X:=
 FCalls.settle0 (qw Tryz.func18 Tryz.ntmps18 Tryz.results18 qj (qx qQ1 qz) [] [] (by kernel_rfl) (by kernel_rfl) h)
def qAf:Sp:=⟨S18,L18,fun _=>True,fun g=> .int .i64 (jc g.1 g.2.1),fun _=>none⟩
theorem qgq:qAf.Ok Tryz.prog 18 true:=
 .mk (fun g K X hp h=>qod g K X (by
  have h:K (.int .i64 (jc g.1 g.2.1)) []:=h;exact ⟨trivial,h⟩))
abbrev qrY:List Sh:=[.leaf,.leaf]
abbrev qfn:List Lf:=[.str,.int .u8]
def qAu (g:prodL qfn) (K:Kn):Prop:=
 True/\
 K (.int .i64 (qqm g.1 g.2.1)) []
theorem qgs (g:prodL qfn) (K X:Kn) (h:qAu g K):FCalls Tryz.prog 159 (argsT qrY qfn g) [] K X:=
 FCalls.settle0 (qw Tryz.func159 Tryz.ntmps159 Tryz.results159 qj (qx qaM qz) [] [] (by kernel_rfl) (by kernel_rfl) h)
def qt0:Sp:=⟨qrY,qfn,fun _=>True,fun g=> .int .i64 (qqm g.1 g.2.1),fun _=>none⟩
theorem qVm:qt0.Ok Tryz.prog 159 true:=
 .mk (fun g K X hp h=>qgs g K X (by
  have h:K (.int .i64 (qqm g.1 g.2.1)) []:=h;exact ⟨trivial,h⟩))
abbrev qus:List Sh:=[.leaf,.leaf]
abbrev qeu:List Lf:=[.el .idk,.el .idk]
def qui (g:prodL qeu) (K:Kn):Prop:=
 True/\
 bif !decide (xQ g.1.patch g.2.1.patch=0)then (
  K (.int .i64 (xQ g.1.patch g.2.1.patch)) [])
 else (
  bif decide (g.1.n<g.2.1.n)then (
  K (.int .i64 (-1)) [])
 else (
  bif decide (g.2.1.n<g.1.n)then (
  K (.int .i64 1) [])
 else (
  K (.int .i64 0) [])))
theorem qcB (g:prodL qeu) (K X:Kn) (h:qui g K):FCalls Tryz.prog 214 (argsT qus qeu g) [] K X:=
 FCalls.settle0 (qw Tryz.func214 Tryz.ntmps214 Tryz.results214 qj (qx qw9 qz) [] [] (by kernel_rfl) (by kernel_rfl) h)
def qpe:Sp:=⟨qus,qeu,fun _=>True,fun g=> .int .i64 (idI g.1 g.2.1),fun _=>none⟩
theorem qbz:qpe.Ok Tryz.prog 214 true:=
 .mk (fun g K X hp h=>qcB g K X (by
  have h:K (.int .i64 (idI g.1 g.2.1)) []:=h;revert h;unfold qui idI ZS;show (fun v=>K (.int .i64 v) []) _->_
  repeat' (first | exact id | refine qU (K:=fun v=>K (.int .i64 v) []) ?_ ?_ | (intro h;refine ⟨trivial, ?_⟩;revert h))))
abbrev S17:List Sh:=[.leaf,.leaf]
abbrev L17:List Lf:=[.el .idk,.el .idk]
def F17 (g:prodL L17) (K:Kn):Prop:=
 True/\
 bif !decide (qZs (xB g.1.patch) (xB g.2.1.patch)=0)then (
  K (.int .i64 (qZs (xB g.1.patch) (xB g.2.1.patch))) [])
 else (
  True/\
 K (.int .i64 (ZS g.1.n g.2.1.n)) [])
theorem qlt (g:prodL L17) (K X:Kn) (h:F17 g K):FCalls Tryz.prog 17 (argsT S17 L17 g) [] K X:=
 FCalls.settle0 (qw Tryz.func17 Tryz.ntmps17 Tryz.results17 qj (qx qQ1 (qx qcS qz)) [] [] (by kernel_rfl) (by kernel_rfl) h)
def qBz:Sp:=⟨S17,L17,fun _=>True,fun g=> .int .i64 (idC g.1 g.2.1),fun _=>none⟩
theorem qez:qBz.Ok Tryz.prog 17 true:=
 .mk (fun g K X hp h=>qlt g K X (by
  have h:K (.int .i64 (idC g.1 g.2.1)) []:=h;revert h;unfold F17 idC;show (fun v=>K (.int .i64 v) []) _->_
  repeat' (first | exact id | refine qU (K:=fun v=>K (.int .i64 v) []) ?_ ?_ | (intro h;refine ⟨trivial, ?_⟩;revert h))))
def qB3:List (Nat×Hint):=[(2,⟨[],[(0,.leaf),(3,.leaf)],[],[.sl .idk,.int .i64]⟩)]
abbrev qsZ:List Sh:=[.leaf]
abbrev qbC:List Lf:=[.sl .idk]
def Xb (K:Kn) (c:prodL [.sl .idk,.int .i64]->Prop) (a:List Idn) (b:Int):Prop:=
 bif decide (b< (a.length:Int))then (
  At a (IntKind.i64.wrap (b-1)) fun d=>
 At a b fun e=>
 True/\
 bif decide (0<=idI d e)then (
  K (.bool false) [])
 else (
  c (a,IntKind.i64.wrap (b+1),())))
 else (
  K (.bool true) [])
def qQu (K:Kn) (g:prodL [.sl .idk,.int .i64]):Prop:=
 qy (γ:=prodL [.sl .idk,.int .i64]) (fun V y=>Xb K V y.1 y.2.1) g
def qoE (g:prodL qbC) (K:Kn):Prop:=
 qQu K (g.1,1,())
theorem qdj (g:prodL qbC) (K X:Kn) (h:qoE g K):FCalls Tryz.prog 176 (argsT qsZ qbC g) [] K X:=
 FCalls.settle0 (qw Tryz.func176 Tryz.ntmps176 Tryz.results176 qj (qx qbz qz) qB3 [] (by kernel_rfl) (by kernel_rfl) h)
end
section
open Go.RowKit
def szP (s:ByteArray):Prop:=s.size<=2147483648
theorem qmT {s:ByteArray} {n:Nat} (h:n<s.size):s.data.toList[n]? =some (s.data[n]'h):=by
 rw [Jao (by simpa using h)];simp
theorem QO {s:ByteArray} {n:Nat} {K:Int->Prop} (h:n<s.size) (hK:K ((s.data[n]'h).toNat:Int)):qs s (n:Int) K:=
 ⟨Int.natCast_nonneg _,s.data[n]'h,getElem?_pos s n h,hK⟩
theorem Vk (s:ByteArray) (q:UInt8->Bool):s.data.toList.all q=decide (∀n,n<s.size->(s.data.toList[n]?).all q=true):=by
 rw [qVF];rfl
theorem qcX {s:ByteArray} {K:Kn} (hs:szP s) (h:K (.bool (xZ s)) []):qlc (s,()) K:=by
 unfold szP at hs;unfold xZ at h;rw [Vk] at h;unfold qlc;refine qy.all s.size (fun n=>(s,(s.size:Int),(n:Int),())) (fun n=>(s.data.toList[n]?).all qkF) (fun r=>K (.bool (r&&qwo s)) []) h rfl (fun W n hn ht hf=> ?_) fun ht W=> ?_
 . show JE K W s (s.size:Int) n
   unfold JE;rw [qu hn,Jae];refine QO hn ?_;simp only [qmT hn,Option.all_some] at ht hf;rw [Bool.false_and] at hf;generalize s.data[n]'hn=c at ht hf ⊢;have e1:qkF c=true->qt K W s s.size n false:=fun e=>by unfold qt;rw [Jaf,zd hn (by omega)];exact ht e
   have e2:qkF c=false->qt K W s s.size n true:=fun e=>by unfold qt;rw [Jae];exact hf e
   simp only [Bool.cond_eq_ite,Jbk,Bool.not_eq_true',Jb6];(repeat' split)<;>first
    | exact e1 (Jaa (by omega))
    | exact e2 (Jab (by omega))
    | (by_cases d:((c.toNat:Nat):Int)=45<;>simp only [d,decide_true,decide_false,Jap,Ja4]<;>first | exact e1 (Jaa (by omega)) | exact e2 (Jab (by omega)))
 . show JE K W s (s.size:Int) (s.size:Int)
   unfold JE;rw [qm,Jaf];rw [Jci] at ht;revert ht;unfold qwo;repeat' (first | exact id | refine qU (K:=fun v=>K (.bool v) []) ?_ ?_)
def qW8:Sp:=⟨qpb,qc7,fun g=>szP g.1,fun g=> .bool (xZ g.1),fun _=>none⟩
theorem qww:qW8.Ok Tryz.prog 115 true:=
 .mk (fun g K X hp h=>qf2 g K X (qcX hp h))
theorem qlQ {s:ByteArray} {K:Kn} (hs:szP s) (h:K (.bool (xZ s)) []):F71 (s,()) K:=by
 unfold szP at hs;unfold xZ at h;rw [Vk] at h;unfold F71;refine qy.all s.size (fun n=>(s,(n:Int),())) (fun n=>(s.data.toList[n]?).all qkF) (fun r=>K (.bool (r&&qwo s)) []) h rfl (fun W n hn ht hf=> ?_) fun ht W=> ?_
 . show qqa K W s n
   unfold qqa;rw [qu hn,Jae];refine QO hn ?_;simp only [qmT hn,Option.all_some] at ht hf;rw [Bool.false_and] at hf;generalize s.data[n]'hn=c at ht hf ⊢;have e1:qkF c=true->qT K W s n false:=fun e=>by unfold qT;rw [Jaf,zd hn (by omega)];exact ht e
   have e2:qkF c=false->qT K W s n true:=fun e=>by unfold qT;rw [Jae];exact hf e
   simp only [Bool.cond_eq_ite,Jbk,Bool.not_eq_true',Jb6];(repeat' split)<;>first
    | exact e1 (Jaa (by omega))
    | exact e2 (Jab (by omega))
    | (by_cases d:((c.toNat:Nat):Int)=45<;>simp only [d,decide_true,decide_false,Jap,Ja4]<;>first | exact e1 (Jaa (by omega)) | exact e2 (Jab (by omega)))
 . show qqa K W s (s.size:Int)
   unfold qqa;rw [qm,Jaf];rw [Jci] at ht;have e:decide (1<=(s.size:Int))= !decide (s=(⟨#[]⟩:ByteArray)):=by
    by_cases hz:s=⟨#[]⟩
    . subst hz;rfl
    . rw [Jab hz];have:s.size≠0:=fun h0=>hz (ByteArray.ext (Jbn h0))
      exact Jaa (by omega)
   rw [e];revert ht;unfold qwo;repeat' (first | exact id | refine qU (K:=fun v=>K (.bool v) []) ?_ ?_)
def qor:Sp:=⟨S71,L71,fun g=>szP g.1,fun g=> .bool (xZ g.1),fun _=>none⟩
theorem qZn:qor.Ok Tryz.prog 71 true:=
 .mk (fun g K X hp h=>qo3 g K X (qlQ hp h))
theorem qb4 {s:ByteArray} {a b:Int} {K:Kn} (hs:szP s) (h:K (.bool (Z3 s a b)) []):qm8 (s,a,b,()) K:=by
 unfold szP at hs;unfold Z3 at h;rw [Vk] at h;unfold qm8;refine qy.all s.size (fun n=>(s,a,b,(n:Int),())) (fun n=>(s.data.toList[n]?).all fun x=> !(decide ((x.toNat:Int)=a)||decide ((x.toNat:Int)=b))) (fun r=>K (.bool r) []) h rfl (fun W n hn ht hf=> ?_) fun ht W=> ?_
 . show JD K W s a b n
   unfold JD;rw [qu hn,Jae];refine QO hn ?_;simp only [qmT hn,Option.all_some] at ht hf;cases e1:decide (((s.data[n]'hn).toNat:Int)=a)
   . simp only [Jaf];refine QO hn ?_;unfold WE;rw [e1,Bool.false_or] at ht hf;cases e2:decide (((s.data[n]'hn).toNat:Int)=b)
     . rw [Jaf,zd hn (by omega)];exact ht (by rw [e2];rfl)
     . rw [Jae];exact hf (by rw [e2];rfl)
   . simp only [Jae];unfold WE;rw [Jae];exact hf (by rw [e1];rfl)
 . show JD K W s a b (s.size:Int)
   unfold JD;rw [qm,Jaf];exact ht
def qil:Sp:=⟨qp4,qcG,fun g=>szP g.1,fun g=> .bool (Z3 g.1 g.2.1 g.2.2.1),fun _=>none⟩
theorem qYT:qil.Ok Tryz.prog 230 true:=
 .mk (fun g K X hp h=>qdg g K X (qb4 hp h))
end
section
open Go.RowKit
attribute [local irreducible] zb qa
set_option maxRecDepth 100000
abbrev qpF:List Sh:=[.leaf]
abbrev qc0:List Lf:=[.str]
def qmE (g:prodL qc0) (K:Kn):Prop:=
 bif decide ((g.1.size:Int)<=1000)then (
  qil.pre (g.1,10,0,())/\
  K (.bool (Z3 g.1 10 0)) [])
 else (
  K (.bool false) [])
theorem qbp (g:prodL qc0) (K X:Kn) (h:qmE g K):FCalls Tryz.prog 213 (argsT qpF qc0 g) [] K X:=
 FCalls.settle0 (qw Tryz.func213 Tryz.ntmps213 Tryz.results213 qj (qx qYT qz) [] [] (by kernel_rfl) (by kernel_rfl) h)
abbrev qud:List Sh:=[.leaf]
abbrev qfx:List Lf:=[.str]
def qtQ (g:prodL qfx) (K:Kn):Prop:=
 bif decide ((g.1.size:Int)<=1000)then (
  True/\
  bif decide (qqm g.1 10<0)then (
   True/\
   K (.bool (decide (qqm g.1 0<0))) [])
  else (
   K (.bool false) []))
 else (
  K (.bool false) [])
theorem qgh (g:prodL qfx) (K X:Kn) (h:qtQ g K):FCalls Tryz.prog 117 (argsT qud qfx g) [] K X:=
 FCalls.settle0 (qw Tryz.func117 Tryz.ntmps117 Tryz.results117 qj (qx qVm qz) [] [] (by kernel_rfl) (by kernel_rfl) h)
def qBH:List (Nat×Hint):=[(2,⟨[],[(0,.leaf),(1,.leaf),(7,.leaf),(8,.leaf)],[],[.sl .i64,.int .i64,.int .i64,.int .i64]⟩)]
abbrev qp3:List Sh:=[.leaf,.leaf]
abbrev qdA:List Lf:=[.sl .i64,.int .i64]
def qjZ (K:Kn) (e:prodL [.sl .i64,.int .i64,.int .i64,.int .i64]->Prop) (b:List Int) (c d a:Int):Prop:=
 bif decide (a<d)then (
  At b a fun f=>
 bif decide (c=f)then (
  K (.int .i64 a) [])
 else (
  e (b,c,d,IntKind.i64.wrap (a+1),())))
 else (
  K (.int .i64 (-1)) [])
def qeA (K:Kn) (g:prodL [.sl .i64,.int .i64,.int .i64,.int .i64]):Prop:=
 qy (γ:=prodL [.sl .i64,.int .i64,.int .i64,.int .i64]) (fun V y=>qjZ K V y.1 y.2.1 y.2.2.1 y.2.2.2.1) g
def qmw (g:prodL qdA) (K:Kn):Prop:=
 qeA K (g.1,g.2.1,(g.1.length:Int),0,())
theorem qdL (g:prodL qdA) (K X:Kn) (h:qmw g K):FCalls Tryz.prog 207 (argsT qp3 qdA g) [] K X:=
 FCalls.settle0 (qw Tryz.func207 Tryz.ntmps207 Tryz.results207 qj qz qBH [] (by kernel_rfl) (by kernel_rfl) h)
end
section
open Go.RowKit
theorem qjn: ∀(l:List UInt8) (c:UInt8),decide (Lib.indexByte l c<0)=l.all fun x=> !(x==c)
 | [],c=>rfl
 | b::l,c=>by
  have ih:=qjn l c;unfold Lib.indexByte;cases e:b==c
  . simp only [Ja5,if_false,List.all_cons,e,Ja4,Jci];rw [<- ih];have hg:=Lib.indexByte_ge l c;by_cases h:Lib.indexByte l c= -1
    . rw [h];rfl
    . have:(Lib.indexByte l c== -1)=false:=by simpa using h
      rw [this,Jb8];simp only [Ja5,if_false];omega
  . simp [e]
theorem qVd (s:ByteArray):yp s=bif decide ((s.size:Int)<=1000)then (bif decide (qqm s 10<0)then decide (qqm s 0<0)else false)else false:=by
 unfold yp;have:Z3 s 10 0=bif decide (qqm s 10<0)then decide (qqm s 0<0)else false:=by
  unfold Z3 qqm;rw [qjn,qjn];have e1: ∀x:UInt8,decide ((x.toNat:Int)=10)=(x==(10:Int).toNat.toUInt8):=fun x=>by
   rw [Bool.eq_iff_iff,Jbk,beq_iff_eq, <- UInt8.toNat_inj];show _↔x.toNat=10
   omega
  have e2: ∀x:UInt8,decide ((x.toNat:Int)=0)=(x==(0:Int).toNat.toUInt8):=fun x=>by
   rw [Bool.eq_iff_iff,Jbk,beq_iff_eq, <- UInt8.toNat_inj];show _↔x.toNat=0
   omega
  simp only [e1,e2,Bool.not_or];induction s.data.toList with
  | nil=>rfl
  | cons a l ih=>
   simp only [List.all_cons,ih];cases a==(10:Int).toNat.toUInt8<;>cases a==(0:Int).toNat.toUInt8<;>simp
 rw [this]
theorem qfL {s:ByteArray} {K:Kn} (hs:szP s) (h:K (.bool (yp s)) []):qmE (s,()) K:=by
 revert h;unfold qmE yp;exact qU (K:=fun v=>K (.bool v) []) (fun h=>⟨hs,h⟩) id
def qii:Sp:=⟨qpF,qc0,fun g=>szP g.1,fun g=> .bool (yp g.1),fun _=>none⟩
theorem qKJ:qii.Ok Tryz.prog 213 true:=
 .mk (fun g K X hp h=>qbp g K X (qfL hp h))
def qh0:Sp:=⟨qud,qfx,fun _=>True,fun g=> .bool (yp g.1),fun _=>none⟩
theorem qa8:qh0.Ok Tryz.prog 117 true:=
 .mk (fun g K X _ h=>qgh g K X (by
  have h:K (.bool (yp g.1)) []:=h;rw [qVd] at h;revert h;unfold qtQ;exact qU (K:=fun v=>K (.bool v) []) (fun h=>⟨trivial,qU (K:=fun v=>K (.bool v) []) (fun h=>⟨trivial,h⟩) id h⟩) id))
theorem qf1 {l:List Int} {n:Int} {K:Kn} (hl:V3 l.length) (h:K (.int .i64 (yk l n)) []):qmw (l,n,()) K:=by
 unfold V3 at hl;unfold qmw;have key: ∀(m:Nat),m<=l.length->(∀j,j<m->l[j]? ≠some n)->(K (.int .i64 (yk l n)) [])->yk l n=(if yk (l.drop m) n<0 then -1 else yk (l.drop m) n+m):=by
  intro m hm hj _;induction m with
  | zero=>
   rw [Jby];have:=qjQ l n;split<;>omega
  | succ m ih=>
   have e:=ih (by omega) fun j hj'=>hj j (by omega)
   have hlt:m<l.length:=by omega
   rw [Jb1 hlt,yk] at e;have: ¬n=l[m]:=fun q=>hj m (by omega) (by rw [Jao hlt,q])
   rw [Jab this,Jaf] at e;have:=qjQ (l.drop (m+1)) n;cases c:decide (yk (l.drop (m+1)) n<0)<;>simp only [c,Jae,Jaf] at e
   . have c:=Jad c;rw [if_neg c];rw [if_neg (by omega)] at e;omega
   . have c:=Jac c;rw [if_pos c];simpa using e
 refine qy.countTo l.length (fun m=>(l,n,(l.length:Int),(m:Int),())) (fun m=> ∀j,j<m->l[j]? ≠some n) rfl (fun m hm hj W hW=> ?_) (by omega)
 show qjZ K W l n l.length m
 unfold qjZ;have e:=key m hm hj h;by_cases hlt:m<l.length
 . rw [qu hlt,Jae];refine qD hlt ?_;by_cases q:n=l[m]
   . rw [Jaa q,Jae];rw [Jb1 hlt,yk,Jaa q,Jae] at e;rw [e] at h;simpa using h
   . rw [Jab q,Jaf,zd hlt (by omega)]
     refine hW hlt fun j hj'=> ?_
     by_cases c:j=m
     . subst c;rw [Jao hlt];simpa using fun c=>q c.symm
     . exact hj j (by omega)
 . have:m=l.length:=by omega
   subst this;rw [qm,Jaf];rw [List.drop_length,yk] at e;rw [e] at h;simpa using h
def qhT:Sp:=⟨qp3,qdA,fun g=>V3 g.1.length,fun g=> .int .i64 (yk g.1 g.2.1),fun _=>none⟩
theorem qX7:qhT.Ok Tryz.prog 207 true:=
 .mk (fun g K X hp h=>qdL g K X (qf1 hp h))
end
section
open Go.RowKit
attribute [local irreducible] zb qa
set_option maxRecDepth 100000
abbrev qu8:List Sh:=[.leaf,.leaf]
abbrev qhc:List Lf:=[.sl .i64,.int .i64]
def qBX (g:prodL qhc) (K:Kn):Prop:=
 qhT.pre (g.1,g.2.1,())/\
 K (.bool (decide (0<=yk g.1 g.2.1))) []
theorem qbD (g:prodL qhc) (K X:Kn) (h:qBX g K):FCalls Tryz.prog 158 (argsT qu8 qhc g) [] K X:=
 FCalls.settle0 (qw Tryz.func158 Tryz.ntmps158 Tryz.results158 qj (qx qX7 qz) [] [] (by kernel_rfl) (by kernel_rfl) h)
def qi9:Sp:=⟨qu8,qhc,fun g=>V3 g.1.length,fun g=> .bool (decide (0<=yk g.1 g.2.1)),fun _=>none⟩
theorem qWN:qi9.Ok Tryz.prog 158 true:=
 .mk (fun g K X hp h=>qbD g K X (by
  have h:K (.bool (decide (0<=yk g.1 g.2.1))) []:=h;exact ⟨hp,h⟩))
abbrev qrS:List Sh:=[.leaf,.leaf]
abbrev qei:List Lf:=[.sl .i64,.pr .i64]
def qBx (g:prodL qei) (K:Kn):Prop:=
 qi9.pre (g.1,g.2.1,())/\
 K (.bool (decide (0<=yk g.1 g.2.1))) []
theorem qbU (g:prodL qei) (K X:Kn) (h:qBx g K):FCalls Tryz.prog 157 (argsT qrS qei g) [] K X:=
 FCalls.settle0 (qw Tryz.func157 Tryz.ntmps157 Tryz.results157 qj (qx qWN qz) [] [] (by kernel_rfl) (by kernel_rfl) h)
def qC:Sp:=⟨qrS,qei,fun g=>V3 g.1.length,fun g=> .bool (decide (0<=yk g.1 g.2.1)),fun _=>none⟩
theorem wg:qC.Ok Tryz.prog 157 true:=
 .mk (fun g K X hp h=>qbU g K X (by
  have h:K (.bool (decide (0<=yk g.1 g.2.1))) []:=h;exact ⟨hp,h⟩))
set_option maxRecDepth 100000
abbrev qY9:List Sh:=[.leaf]
abbrev Vb:List Lf:=[.el .chg]
def qep (g:prodL Vb):prodL Vb:=(⟨1,g.1.file,g.1.typ,g.1.parent,g.1.name,g.1.mode,g.1.data,g.1.after,g.1.before,g.1.lines,g.1.over⟩,g.2)
def qk1 (g:prodL Vb) (K:Kn):Prop:=
 qC.pre ([1],1,())/\
 qC.pre ([2,3,4,5,6],1,())/\
 bif qr g.1.file iz then (
  qC.pre ([2],1,())/\
  bif qr g.1.parent iz then (
   bif decide (g.1.name=(⟨#[]⟩:ByteArray))then (
    qC.pre ([3],1,())/\
    bif decide (g.1.mode=0)then (
     qC.pre ([4],1,())/\
     bif decide (g.1.data=(⟨#[]⟩:ByteArray))then (
      qC.pre ([5,6],1,())/\
      bif qr g.1.after iz then (
       bif qr g.1.before iz then (
        qC.pre ([5],1,())/\
        bif decide ((g.1.lines.length:Int)=0)then (
         qC.pre ([2,3,4,6,7],1,())/\
         K (.bool (decide ((g.1.over.length:Int)=0))) [])
        else (
         K (.bool false) []))
       else (
        K (.bool false) []))
      else (
       K (.bool false) []))
     else (
      K (.bool false) []))
    else (
     K (.bool false) []))
   else (
    K (.bool false) []))
  else (
   K (.bool false) []))
 else (
  K (.bool false) [])
theorem qJI (g:prodL Vb) (K X:Kn) (h:qk1 g K):FCalls Tryz.prog 116 (argsT qY9 Vb (qep g)) [] K X:=
 FCalls.settle0 (qw Tryz.func116 Tryz.ntmps116 Tryz.results116 qj (qx wg qz) [] [] (by kernel_rfl) (by kernel_rfl) h)
abbrev qms:List Sh:=[.leaf]
abbrev Ko:List Lf:=[.el .chg]
def qhW (g:prodL Ko):prodL Ko:=(⟨2,g.1.file,g.1.typ,g.1.parent,g.1.name,g.1.mode,g.1.data,g.1.after,g.1.before,g.1.lines,g.1.over⟩,g.2)
def qy3 (g:prodL Ko) (K:Kn):Prop:=
 qC.pre ([1],2,())/\
 bif decide (g.1.typ=0)then (
  qC.pre ([2,3,4,5,6],2,())/\
  qC.pre ([2],2,())/\
  qC.pre ([3],2,())/\
  bif decide (g.1.mode=0)then (
   qC.pre ([4],2,())/\
   bif decide (g.1.data=(⟨#[]⟩:ByteArray))then (
    qC.pre ([5,6],2,())/\
    bif qr g.1.after iz then (
     bif qr g.1.before iz then (
      qC.pre ([5],2,())/\
      bif decide ((g.1.lines.length:Int)=0)then (
       qC.pre ([2,3,4,6,7],2,())/\
       K (.bool true) [])
      else (
       K (.bool false) []))
     else (
      K (.bool false) []))
    else (
     K (.bool false) []))
   else (
    K (.bool false) []))
  else (
   K (.bool false) []))
 else (
  K (.bool false) [])
theorem qJD (g:prodL Ko) (K X:Kn) (h:qy3 g K):FCalls Tryz.prog 116 (argsT qms Ko (qhW g)) [] K X:=
 FCalls.settle0 (qw Tryz.func116 Tryz.ntmps116 Tryz.results116 qj (qx wg qz) [] [] (by kernel_rfl) (by kernel_rfl) h)
abbrev qlH:List Sh:=[.leaf]
abbrev KO:List Lf:=[.el .chg]
def qfo (g:prodL KO):prodL KO:=(⟨3,g.1.file,g.1.typ,g.1.parent,g.1.name,g.1.mode,g.1.data,g.1.after,g.1.before,g.1.lines,g.1.over⟩,g.2)
def qy7 (g:prodL KO) (K:Kn):Prop:=
 qC.pre ([1],3,())/\
 bif decide (g.1.typ=0)then (
  qC.pre ([2,3,4,5,6],3,())/\
  qC.pre ([2],3,())/\
  bif qr g.1.parent iz then (
   bif decide (g.1.name=(⟨#[]⟩:ByteArray))then (
    qC.pre ([3],3,())/\
    qC.pre ([4],3,())/\
    bif decide (g.1.data=(⟨#[]⟩:ByteArray))then (
     qC.pre ([5,6],3,())/\
     bif qr g.1.after iz then (
      bif qr g.1.before iz then (
       qC.pre ([5],3,())/\
       bif decide ((g.1.lines.length:Int)=0)then (
        qC.pre ([2,3,4,6,7],3,())/\
        K (.bool true) [])
       else (
        K (.bool false) []))
      else (
       K (.bool false) []))
     else (
      K (.bool false) []))
    else (
     K (.bool false) []))
   else (
    K (.bool false) []))
  else (
   K (.bool false) []))
 else (
  K (.bool false) [])
theorem qXX (g:prodL KO) (K X:Kn) (h:qy7 g K):FCalls Tryz.prog 116 (argsT qlH KO (qfo g)) [] K X:=
 FCalls.settle0 (qw Tryz.func116 Tryz.ntmps116 Tryz.results116 qj (qx wg qz) [] [] (by kernel_rfl) (by kernel_rfl) h)
abbrev qmr:List Sh:=[.leaf]
abbrev Yb:List Lf:=[.el .chg]
def qhk (g:prodL Yb):prodL Yb:=(⟨4,g.1.file,g.1.typ,g.1.parent,g.1.name,g.1.mode,g.1.data,g.1.after,g.1.before,g.1.lines,g.1.over⟩,g.2)
def qkT (g:prodL Yb) (K:Kn):Prop:=
 qC.pre ([1],4,())/\
 bif decide (g.1.typ=0)then (
  qC.pre ([2,3,4,5,6],4,())/\
  qC.pre ([2],4,())/\
  bif qr g.1.parent iz then (
   bif decide (g.1.name=(⟨#[]⟩:ByteArray))then (
    qC.pre ([3],4,())/\
    bif decide (g.1.mode=0)then (
     qC.pre ([4],4,())/\
     qC.pre ([5,6],4,())/\
     bif qr g.1.after iz then (
      bif qr g.1.before iz then (
       qC.pre ([5],4,())/\
       bif decide ((g.1.lines.length:Int)=0)then (
        qC.pre ([2,3,4,6,7],4,())/\
        K (.bool true) [])
       else (
        K (.bool false) []))
      else (
       K (.bool false) []))
     else (
      K (.bool false) []))
    else (
     K (.bool false) []))
   else (
    K (.bool false) []))
  else (
   K (.bool false) []))
 else (
  K (.bool false) [])
theorem qXB (g:prodL Yb) (K X:Kn) (h:qkT g K):FCalls Tryz.prog 116 (argsT qmr Yb (qhk g)) [] K X:=
 FCalls.settle0 (qw Tryz.func116 Tryz.ntmps116 Tryz.results116 qj (qx wg qz) [] [] (by kernel_rfl) (by kernel_rfl) h)
abbrev qmn:List Sh:=[.leaf]
abbrev W6:List Lf:=[.el .chg]
def qdT (g:prodL W6):prodL W6:=(⟨5,g.1.file,g.1.typ,g.1.parent,g.1.name,g.1.mode,g.1.data,g.1.after,g.1.before,g.1.lines,g.1.over⟩,g.2)
def qkf (g:prodL W6) (K:Kn):Prop:=
 qC.pre ([1],5,())/\
 bif decide (g.1.typ=0)then (
  qC.pre ([2,3,4,5,6],5,())/\
  qC.pre ([2],5,())/\
  bif qr g.1.parent iz then (
   bif decide (g.1.name=(⟨#[]⟩:ByteArray))then (
    qC.pre ([3],5,())/\
    bif decide (g.1.mode=0)then (
     qC.pre ([4],5,())/\
     bif decide (g.1.data=(⟨#[]⟩:ByteArray))then (
      qC.pre ([5,6],5,())/\
      qC.pre ([5],5,())/\
      qC.pre ([2,3,4,6,7],5,())/\
      K (.bool (decide ((g.1.over.length:Int)=0))) [])
     else (
      K (.bool false) []))
    else (
     K (.bool false) []))
   else (
    K (.bool false) []))
  else (
   K (.bool false) []))
 else (
  K (.bool false) [])
theorem qX2 (g:prodL W6) (K X:Kn) (h:qkf g K):FCalls Tryz.prog 116 (argsT qmn W6 (qdT g)) [] K X:=
 FCalls.settle0 (qw Tryz.func116 Tryz.ntmps116 Tryz.results116 qj (qx wg qz) [] [] (by kernel_rfl) (by kernel_rfl) h)
abbrev ql8:List Sh:=[.leaf]
abbrev qqh:List Lf:=[.el .chg]
def qb9 (g:prodL qqh):prodL qqh:=(⟨6,g.1.file,g.1.typ,g.1.parent,g.1.name,g.1.mode,g.1.data,g.1.after,g.1.before,g.1.lines,g.1.over⟩,g.2)
def qkj (g:prodL qqh) (K:Kn):Prop:=
 qC.pre ([1],6,())/\
 bif decide (g.1.typ=0)then (
  qC.pre ([2,3,4,5,6],6,())/\
  qC.pre ([2],6,())/\
  bif qr g.1.parent iz then (
   bif decide (g.1.name=(⟨#[]⟩:ByteArray))then (
    qC.pre ([3],6,())/\
    bif decide (g.1.mode=0)then (
     qC.pre ([4],6,())/\
     bif decide (g.1.data=(⟨#[]⟩:ByteArray))then (
      qC.pre ([5,6],6,())/\
      qC.pre ([5],6,())/\
      bif decide ((g.1.lines.length:Int)=0)then (
       qC.pre ([2,3,4,6,7],6,())/\
       K (.bool true) [])
      else (
       K (.bool false) []))
     else (
      K (.bool false) []))
    else (
     K (.bool false) []))
   else (
    K (.bool false) []))
  else (
   K (.bool false) []))
 else (
  K (.bool false) [])
theorem qXo (g:prodL qqh) (K X:Kn) (h:qkj g K):FCalls Tryz.prog 116 (argsT ql8 qqh (qb9 g)) [] K X:=
 FCalls.settle0 (qw Tryz.func116 Tryz.ntmps116 Tryz.results116 qj (qx wg qz) [] [] (by kernel_rfl) (by kernel_rfl) h)
abbrev qoX:List Sh:=[.leaf]
abbrev Yn:List Lf:=[.el .chg]
def qcY (g:prodL Yn):prodL Yn:=(⟨7,g.1.file,g.1.typ,g.1.parent,g.1.name,g.1.mode,g.1.data,g.1.after,g.1.before,g.1.lines,g.1.over⟩,g.2)
def qyP (g:prodL Yn) (K:Kn):Prop:=
 qC.pre ([1],7,())/\
 bif decide (g.1.typ=0)then (
  qC.pre ([2,3,4,5,6],7,())/\
  bif qr g.1.file iz then (
   qC.pre ([2],7,())/\
   bif qr g.1.parent iz then (
    bif decide (g.1.name=(⟨#[]⟩:ByteArray))then (
     qC.pre ([3],7,())/\
     bif decide (g.1.mode=0)then (
      qC.pre ([4],7,())/\
      bif decide (g.1.data=(⟨#[]⟩:ByteArray))then (
       qC.pre ([5,6],7,())/\
       bif qr g.1.after iz then (
        bif qr g.1.before iz then (
         qC.pre ([5],7,())/\
         bif decide ((g.1.lines.length:Int)=0)then (
          qC.pre ([2,3,4,6,7],7,())/\
          K (.bool true) [])
         else (
          K (.bool false) []))
        else (
         K (.bool false) []))
       else (
        K (.bool false) []))
      else (
       K (.bool false) []))
     else (
      K (.bool false) []))
    else (
     K (.bool false) []))
   else (
    K (.bool false) []))
  else (
   K (.bool false) []))
 else (
  K (.bool false) [])
theorem qZ3 (g:prodL Yn) (K X:Kn) (h:qyP g K):FCalls Tryz.prog 116 (argsT qoX Yn (qcY g)) [] K X:=
 FCalls.settle0 (qw Tryz.func116 Tryz.ntmps116 Tryz.results116 qj (qx wg qz) [] [] (by kernel_rfl) (by kernel_rfl) h)
end
section
open Go.RowKit
abbrev KI (K:Kn):Int->Prop:=fun v=>K (.int .i64 v) []
abbrev KBo (K:Kn):Bool->Prop:=fun v=>K (.bool v) []
theorem vz {α β:Type} {J:β->Prop} {f:β->α} {K:α->Prop} (hJ: ∀t,K (f t)->J t) {c:Bool} {a b:β} (h:K (f (bif c then a else b))):bif c then J a else J b:=by
 cases c
 . exact hJ _ h
 . exact hJ _ h
def vS (c:Chg):Bool:=bif qr c.file iz then (bif decide (c.typ=0)then (bif qr c.parent iz then (bif decide (c.name=(⟨#[]⟩:ByteArray))then (bif decide (c.mode=0)then (bif decide (c.data=(⟨#[]⟩:ByteArray))then
 (bif qr c.after iz then (bif qr c.before iz then (bif decide ((c.lines.length:Int)=0)then decide ((c.over.length:Int)=0)else false)else false)else false)else false)else false)else false)else false)else false)else false
def rC9 (c:Chg):Chg:=bif decide (c.kind=1)then ⟨c.kind,c.file,0,c.parent,c.name,c.mode,c.data,c.after,c.before,c.lines,c.over⟩
 else bif decide (c.kind=2)then ⟨c.kind,c.file,c.typ,iz,⟨#[]⟩,c.mode,c.data,c.after,c.before,c.lines,c.over⟩
 else bif decide (c.kind=3)then ⟨c.kind,c.file,c.typ,c.parent,c.name,0,c.data,c.after,c.before,c.lines,c.over⟩
 else bif decide (c.kind=4)then ⟨c.kind,c.file,c.typ,c.parent,c.name,c.mode,⟨#[]⟩,c.after,c.before,c.lines,c.over⟩
 else bif decide (c.kind=5)then ⟨c.kind,c.file,c.typ,c.parent,c.name,c.mode,c.data,iz,iz,[],c.over⟩
 else bif decide (c.kind=6)then ⟨c.kind,c.file,c.typ,c.parent,c.name,c.mode,c.data,iz,iz,c.lines,c.over⟩else c
def rC5 (t:Bool) (c:Chg):Chg:=bif t then rC9 ⟨c.kind,c.file,c.typ,c.parent,c.name,c.mode,c.data,c.after,c.before,c.lines,[]⟩else rC9 c
def qmz (c:Chg):Chg:=rC5 (bif !decide (c.kind=1)then !decide (c.kind=5)else false) c
def rC2 (t:Bool) (c:Chg):Chg:=bif t then qmz ⟨c.kind,iz,c.typ,c.parent,c.name,c.mode,c.data,c.after,c.before,c.lines,c.over⟩else qmz c
def yE (c:Chg):Chg:=rC2 (bif decide (2<=c.kind)then decide (c.kind<=6)else false) c
def ya (c:Chg):Bool:=bif decide (c.typ=0)then (bif qr c.file iz then (bif qr c.parent iz then (bif decide (c.name=(⟨#[]⟩:ByteArray))then (bif decide (c.mode=0)then (bif decide (c.data=(⟨#[]⟩:ByteArray))then
 (bif qr c.after iz then (bif qr c.before iz then (bif decide ((c.lines.length:Int)=0)then decide ((c.over.length:Int)=0)else false)else false)else false)else false)else false)else false)else false)else false)else false
theorem qJa (c:Chg):ya c=vS c:=by
 unfold ya vS;cases decide (c.typ=0)<;>cases qr c.file iz<;>rfl
def jw (c:Chg):Bool:=ya (yE c)
def zR (c:Chg):Prop:=1<=c.kind/\c.kind<=7
theorem Yd:qr iz iz=true:=by rw [v8];exact Jaa rfl
theorem qXk {file:Idn} {typ:Int} {parent:Idn} {name:ByteArray} {mode:Int} {data:ByteArray} {after before:Idn} {lines:List ByteArray} {over:List Idn} {K:Kn} (h:K (.bool (jw ⟨1,file,typ,parent,name,mode,data,after,before,lines,over⟩)) []):qk1 (⟨1,file,typ,parent,name,mode,data,after,before,lines,over⟩,()) K:=by
 revert h;unfold qk1 jw;rw [show yE ⟨1,file,typ,parent,name,mode,data,after,before,lines,over⟩=⟨1,file,0,parent,name,mode,data,after,before,lines,over⟩ from rfl]
 unfold ya;simp only [Yd,decide_true,Ja1,Int.natCast_zero,Int.ofNat_zero,Jae,Jaf];repeat' (first | exact id | (intro h;refine ⟨Jag rfl, ?_⟩;revert h) | refine qU (K:=KBo K) ?_ ?_)
theorem qJ2 {file:Idn} {typ:Int} {parent:Idn} {name:ByteArray} {mode:Int} {data:ByteArray} {after before:Idn} {lines:List ByteArray} {over:List Idn} {K:Kn} (h:K (.bool (jw ⟨2,file,typ,parent,name,mode,data,after,before,lines,over⟩)) []):qy3 (⟨2,file,typ,parent,name,mode,data,after,before,lines,over⟩,()) K:=by
 revert h;unfold qy3 jw;rw [show yE ⟨2,file,typ,parent,name,mode,data,after,before,lines,over⟩=⟨2,iz,typ,iz,⟨#[]⟩,mode,data,after,before,lines,[]⟩ from rfl]
 unfold ya;simp only [Yd,decide_true,Ja1,Int.natCast_zero,Int.ofNat_zero,Jae,Jaf];repeat' (first | exact id | (intro h;refine ⟨Jag rfl, ?_⟩;revert h) | refine qU (K:=KBo K) ?_ ?_)
theorem qXV {file:Idn} {typ:Int} {parent:Idn} {name:ByteArray} {mode:Int} {data:ByteArray} {after before:Idn} {lines:List ByteArray} {over:List Idn} {K:Kn} (h:K (.bool (jw ⟨3,file,typ,parent,name,mode,data,after,before,lines,over⟩)) []):qy7 (⟨3,file,typ,parent,name,mode,data,after,before,lines,over⟩,()) K:=by
 revert h;unfold qy7 jw;rw [show yE ⟨3,file,typ,parent,name,mode,data,after,before,lines,over⟩=⟨3,iz,typ,parent,name,0,data,after,before,lines,[]⟩ from rfl]
 unfold ya;simp only [Yd,decide_true,Ja1,Int.natCast_zero,Int.ofNat_zero,Jae,Jaf];repeat' (first | exact id | (intro h;refine ⟨Jag rfl, ?_⟩;revert h) | refine qU (K:=KBo K) ?_ ?_)
theorem qJQ {file:Idn} {typ:Int} {parent:Idn} {name:ByteArray} {mode:Int} {data:ByteArray} {after before:Idn} {lines:List ByteArray} {over:List Idn} {K:Kn} (h:K (.bool (jw ⟨4,file,typ,parent,name,mode,data,after,before,lines,over⟩)) []):qkT (⟨4,file,typ,parent,name,mode,data,after,before,lines,over⟩,()) K:=by
 revert h;unfold qkT jw;rw [show yE ⟨4,file,typ,parent,name,mode,data,after,before,lines,over⟩=⟨4,iz,typ,parent,name,mode,⟨#[]⟩,after,before,lines,[]⟩ from rfl]
 unfold ya;simp only [Yd,decide_true,Ja1,Int.natCast_zero,Int.ofNat_zero,Jae,Jaf];repeat' (first | exact id | (intro h;refine ⟨Jag rfl, ?_⟩;revert h) | refine qU (K:=KBo K) ?_ ?_)
theorem qJV {file:Idn} {typ:Int} {parent:Idn} {name:ByteArray} {mode:Int} {data:ByteArray} {after before:Idn} {lines:List ByteArray} {over:List Idn} {K:Kn} (h:K (.bool (jw ⟨5,file,typ,parent,name,mode,data,after,before,lines,over⟩)) []):qkf (⟨5,file,typ,parent,name,mode,data,after,before,lines,over⟩,()) K:=by
 revert h;unfold qkf jw;rw [show yE ⟨5,file,typ,parent,name,mode,data,after,before,lines,over⟩=⟨5,iz,typ,parent,name,mode,data,iz,iz,[],over⟩ from rfl]
 unfold ya;simp only [Yd,decide_true,Ja1,Int.natCast_zero,Int.ofNat_zero,Jae,Jaf];repeat' (first | exact id | (intro h;refine ⟨Jag rfl, ?_⟩;revert h) | refine qU (K:=KBo K) ?_ ?_)
theorem qX3 {file:Idn} {typ:Int} {parent:Idn} {name:ByteArray} {mode:Int} {data:ByteArray} {after before:Idn} {lines:List ByteArray} {over:List Idn} {K:Kn} (h:K (.bool (jw ⟨6,file,typ,parent,name,mode,data,after,before,lines,over⟩)) []):qkj (⟨6,file,typ,parent,name,mode,data,after,before,lines,over⟩,()) K:=by
 revert h;unfold qkj jw;rw [show yE ⟨6,file,typ,parent,name,mode,data,after,before,lines,over⟩=⟨6,iz,typ,parent,name,mode,data,iz,iz,lines,[]⟩ from rfl]
 unfold ya;simp only [Yd,decide_true,Ja1,Int.natCast_zero,Int.ofNat_zero,Jae,Jaf];repeat' (first | exact id | (intro h;refine ⟨Jag rfl, ?_⟩;revert h) | refine qU (K:=KBo K) ?_ ?_)
theorem qXQ {file:Idn} {typ:Int} {parent:Idn} {name:ByteArray} {mode:Int} {data:ByteArray} {after before:Idn} {lines:List ByteArray} {over:List Idn} {K:Kn} (h:K (.bool (jw ⟨7,file,typ,parent,name,mode,data,after,before,lines,over⟩)) []):qyP (⟨7,file,typ,parent,name,mode,data,after,before,lines,over⟩,()) K:=by
 revert h;unfold qyP jw;rw [show yE ⟨7,file,typ,parent,name,mode,data,after,before,lines,over⟩=⟨7,file,typ,parent,name,mode,data,after,before,lines,[]⟩ from rfl]
 unfold ya;simp only [Yd,decide_true,Ja1,Int.natCast_zero,Int.ofNat_zero,Jae,Jaf];repeat' (first | exact id | (intro h;refine ⟨Jag rfl, ?_⟩;revert h) | refine qU (K:=KBo K) ?_ ?_)
def qhP:Sp:=⟨qY9,Vb,fun g=>zR g.1,fun g=> .bool (jw g.1),fun _=>none⟩
set_option maxRecDepth 100000 in
theorem qX9:qhP.Ok Tryz.prog 116 true:=
 .mk (fun g K X hp h=>by
  obtain ⟨⟨kind,file,typ,parent,name,mode,data,after,before,lines,over⟩,⟨⟩⟩:=g;have hk1:(1:Int)<=kind/\kind<=7:=hp;have:kind=1∨kind=2∨kind=3∨kind=4∨kind=5∨kind=6∨kind=7:=by omega
  rcases this with rfl | rfl | rfl | rfl | rfl | rfl | rfl
  . exact qJI (⟨1,file,typ,parent,name,mode,data,after,before,lines,over⟩,()) K X (qXk h)
  . exact qJD (⟨2,file,typ,parent,name,mode,data,after,before,lines,over⟩,()) K X (qJ2 h)
  . exact qXX (⟨3,file,typ,parent,name,mode,data,after,before,lines,over⟩,()) K X (qXV h)
  . exact qXB (⟨4,file,typ,parent,name,mode,data,after,before,lines,over⟩,()) K X (qJQ h)
  . exact qX2 (⟨5,file,typ,parent,name,mode,data,after,before,lines,over⟩,()) K X (qJV h)
  . exact qXo (⟨6,file,typ,parent,name,mode,data,after,before,lines,over⟩,()) K X (qX3 h)
  . exact qZ3 (⟨7,file,typ,parent,name,mode,data,after,before,lines,over⟩,()) K X (qXQ h)
  )
def az:Atm:=⟨iz,0,iz,0,iz,⟨#[]⟩,0,⟨#[]⟩,⟨#[]⟩,iz,iz,[]⟩
def cz:Chg:=⟨0,iz,0,iz,⟨#[]⟩,0,⟨#[]⟩,iz,iz,[],[]⟩
def qs8:T->T
 | .sl _ _ _=> .nil
 | x=>x
def qu7 (e:El) (x:ty e):List T:=(enc e x).map qs8
def errs:List Int->Int
 | []=>0
 | e::l=>bif decide (e=0)then errs l else e
theorem VH: ∀(l m:List Int),errs (l++m)=bif decide (errs l=0)then errs m else errs l
 | [],m=>rfl
 | e::l,m=>by
  rw [List.cons_append,errs,errs,VH l m];cases h:decide (e=0)
  . rw [Jaf,Jaf,h,Jaf]
  . rw [Jae,Jae]
theorem qy.errs {γ:Type} {body:(γ->Prop)->γ->Prop} {g:γ} (l:List Int) (S:Nat->γ) (Q:Int->Prop) (hQ:Q (errs l)) (hg:g=S 0)
  (step: ∀(W:γ->Prop) (n:Nat) (h:n<l.length),(l[n]=0->W (S (n+1)))->(l[n]≠0->Q l[n])->body W (S n)) (last:Q 0-> ∀W:γ->Prop,body W (S l.length)):qy body g:=by
 refine qy.countTo l.length S (fun n=>Q (Go.Proofs.YtbglndogddddoaaGreatDoor.errs (l.drop n))) hg (fun n hn hp W hW=> ?_) (by simpa using hQ)
 by_cases hlt:n<l.length
 . rw [Jb1 hlt,Go.Proofs.YtbglndogddddoaaGreatDoor.errs] at hp;refine step W n hlt (fun h=> ?_) fun h=> ?_
   . rw [Jaa h,Jae] at hp;exact hW hlt hp
   . rw [Jab h,Jaf] at hp;exact hp
 . have:n=l.length:=by omega
   subst this;rw [List.drop_length] at hp;exact last hp W
def errsN (N:Nat) (f:Nat->Int):Int:=errs ((List.range N).map f)
theorem qy.errsN {γ:Type} {body:(γ->Prop)->γ->Prop} {g:γ} (N:Nat) (f:Nat->Int) (S:Nat->γ) (Q:Int->Prop) (hQ:Q (errsN N f)) (hg:g=S 0)
  (step: ∀(W:γ->Prop) (n:Nat),n<N->(f n=0->W (S (n+1)))->(f n≠0->Q (f n))->body W (S n)) (last:Q 0-> ∀W:γ->Prop,body W (S N)):qy body g:=by
 have hl:((List.range N).map f).length=N:=by simp
 refine qy.errs ((List.range N).map f) S Q hQ hg (fun W n h h1 h2=> ?_) (by rw [hl];exact last)
 simp only [List.getElem_map,List.getElem_range] at h1 h2;exact step W n (by omega) h1 h2
theorem Vn {N:Nat} {f f':Nat->Int} (h: ∀n,n<N->f n=f' n):errsN N f=errsN N f':=by
 unfold errsN;rw [List.map_congr_left fun n hn=>h n (Jbp.1 hn)]
theorem X9: ∀{l:List Int},errs l=0↔ ∀e∈l,e=0
 | []=>by simp [errs]
 | e::l=>by
  rw [errs];by_cases h:e=0
  . rw [Jaa h,Jae,X9];simp [h]
  . rw [Jab h,Jaf];simp [h]
theorem qk8 {N:Nat} {f:Nat->Int}:errsN N f=0↔ ∀n,n<N->f n=0:=by
 unfold errsN;rw [X9];simp
def qWm (cmp:Dig->Dig->Int) (ds:List Dig) (n:Nat):Int:=match ds[n]? with
 | none=>0
 | some d=>bif zn d dz then 1 else bif decide (0<n)then (match ds[n-1]? with
  | none=>0
  | some c=>bif decide (0<=cmp c d)then 9 else 0)else 0
def qVL (cmp:Dig->Dig->Int) (ds:List Dig):Int:=errsN ds.length (qWm cmp ds)
def jB (cmp:Dig->Dig->Int) (ds:List Dig):Int:=bif decide (100< (ds.length:Int))then 4 else qVL cmp ds
def jW (cmp:Dig->Dig->Int) (a m:ByteArray) (t:Int) (ds:List Dig) (cs:List Chg):Int:=
 bif !(xZ a)then 5 else bif decide (1000< (m.size:Int))then 4 else bif (bif decide (t<0)then true else decide (1099511627776<t))then 2 else
 bif !decide (jB cmp ds=0)then jB cmp ds else bif decide ((cs.length:Int)=0)then 1 else bif decide (400< (cs.length:Int))then 4 else 0
def KH (cmp:Idn->Idn->Int) (l:List Idn) (n:Nat):Int:=match l[n]?,l[n+1]? with
 | some a,some b=>bif decide (0<=cmp a b)then 9 else 0
 | _,_=>0
def wA (cmp:Idn->Idn->Int) (l:List Idn):Int:=errsN (l.length-1) (KH cmp l)
def qkv (l:List Idn):Bool:=decide (wA idI l=0)
def qw8 (l:List ByteArray) (n:Nat):Int:=match l[n]? with
 | some s=>bif !(yp s)then 3 else 0
 | none=>0
def J2 (l:List ByteArray):Int:=errsN l.length (qw8 l)
def XN (l:List ByteArray):Int:=bif decide ((l.length:Int)=0)then 1 else bif decide (2000< (l.length:Int))then 4 else J2 l
def qXE (t:Bool) (c:Chg):Int:=bif t then 1 else bif decide (400< (c.over.length:Int))then 4 else bif !(qkv c.over)then 9 else 0
def fR8 (t:Bool) (c:Chg):Int:=bif t then 2 else bif decide (65536< (c.data.size:Int))then 4 else bif decide (c.kind=5)then XN c.lines else qXE (bif decide (c.kind=7)then decide ((c.over.length:Int)=0)else false) c
def fR6 (t:Bool) (c:Chg):Int:=bif t then 5 else fR8 (bif decide (c.kind=3)then (bif decide (c.mode<0)then true else decide (511<c.mode))else false) c
def fR4 (t:Bool) (c:Chg):Int:=bif t then 8 else fR6 (bif decide (c.kind=2)then !(xZ c.name)else false) c
def fR2 (t:Bool) (c:Chg):Int:=bif t then 8 else bif !(vS (yE c))then 1 else fR4 (bif decide (c.kind=1)then (bif decide (c.typ<1)then true else decide (4<c.typ))else false) c
def xY (c:Chg):Int:=fR2 (bif decide (c.kind<1)then true else decide (7<c.kind)) c
def qvv (t:Bool) (c:Chg):Int:=bif t then 1 else bif decide (400< (c.over.length:Int))then 4 else wA idC c.over
def qWA (c:Chg):Int:=bif !decide (J2 c.lines=0)then J2 c.lines else qvv (bif decide (c.kind=7)then decide ((c.over.length:Int)=0)else false) c
def fP6 (t:Bool) (c:Chg):Int:=bif t then 1 else bif decide (2000< (c.lines.length:Int))then 4 else qWA c
def fP7 (t:Bool) (c:Chg):Int:=bif t then 2 else bif decide (65536< (c.data.size:Int))then 4 else fP6 (bif decide (c.kind=5)then decide ((c.lines.length:Int)=0)else false) c
def fP8 (t:Bool) (c:Chg):Int:=bif t then 5 else fP7 (bif decide (c.mode<0)then true else decide (511<c.mode)) c
def fP9 (t:Bool) (c:Chg):Int:=bif t then 8 else fP8 (bif decide (c.kind=2)then !(xZ c.name)else false) c
def qvw (t:Bool) (c:Chg):Int:=bif t then 8 else bif !(jw c)then 1 else fP9 (bif decide (c.kind=1)then (bif decide (c.typ<1)then true else decide (4<c.typ))else false) c
def zD (c:Chg):Int:=qvw (bif decide (c.kind<1)then true else decide (7<c.kind)) c
def qkO (x:Idn) (n:Int):Bool:=bif zn x.patch dz then (bif decide (0<=x.n)then decide (x.n<n)else false)else bif decide (0<=x.n)then decide (x.n<100000)else false
def xj (x:Idn) (own:List Atm) (fits:Bool):Int:=bif !(qkO x (own.length:Int))then 7 else bif (bif zn x.patch dz then !fits else false)then 8 else 0
def wx (own:List Atm) (x:Idn):Atm:=bif (bif zn x.patch dz then (bif decide (0<=x.n)then decide (x.n< (own.length:Int))else false)else false)then own.getD x.n.toNat az else az
def ZE (own:List Atm) (f x:Idn):Bool:=bif qr x f then true else qzr f (wx own x)
def qzn (c:Chg):Int:=bif (bif decide (c.kind=2)then qr c.parent c.file else false)then 20 else
 bif (bif QH c.kind then (bif qr c.after c.before then (bif decide (c.kind=6)then true else !(qr c.after c.file))else false)else false)then 1 else 0
def XW (c:Chg) (own:List Atm):List Int:=c.over.map fun x=>xj x own (J0 c.kind c.file (wx own x))
def qwx (own:List Atm) (c:Chg):Int:=bif !decide (errs (XW c own)=0)then errs (XW c own)else qzn c
def qJZ (own:List Atm) (c:Chg):Int:=bif QH c.kind then (bif !decide (xj c.after own (ZE own c.file c.after)=0)then xj c.after own (ZE own c.file c.after)else
 bif !decide (xj c.before own (ZE own c.file c.before)=0)then xj c.before own (ZE own c.file c.before)else qwx own c)else qwx own c
def rF6 (own:List Atm) (e:Int) (c:Chg):Int:=bif !decide (e=0)then e else qJZ own c
def rF7 (own:List Atm) (t:Bool) (c:Chg):Int:=bif t then rF6 own (xj c.parent own (bif decide ((wx own c.parent).kind=1)then decide ((wx own c.parent).typ=4)else false)) c else qJZ own c
def qX0 (own:List Atm) (c:Chg):Int:=rF7 own (bif decide (c.kind=2)then !(qr c.parent ⟨dz, -1⟩)else false) c
def rF1 (own:List Atm) (c:Chg):Int:=bif !decide (xj c.file own (Qz c.kind (wx own c.file))=0)then xj c.file own (Qz c.kind (wx own c.file))else qX0 own c
def rF2 (own:List Atm) (t:Bool) (c:Chg):Int:=bif t then rF1 own c else qX0 own c
def Zb (c:Chg) (own:List Atm):Int:=rF2 own (bif decide (2<=c.kind)then decide (c.kind<=6)else false) c
def kZ (c:Chg):Prop:=zQ c<=4194304
theorem qxo {α:Type} (f:α->Nat): ∀{l:List α} {x:α},x∈l->f x<=(l.map f).sum
 | y::l,x,h=>by
  rw [List.map_cons,Jcc];rcases Jbf.1 h with rfl | h
  . omega
  . have:=qxo f h;omega
theorem kB {α:Type} (f:α->Nat) (k:Nat): ∀(l:List α),(∀x∈l,k<=f x)->k*l.length<=(l.map f).sum
 | [],_=>by simp
 | y::l,h=>by
  rw [List.map_cons,Jcc,Jaj,Nat.mul_succ];have:=kB f k l fun x hx=>h x (Jbe _ hx)
  have:=h y (Jbc ..);omega
theorem zA {c:Chg} (h:kZ c):c.name.size<=4194304/\c.data.size<=4194304/\c.lines.length<=4194304/\(∀s∈c.lines,s.size<=4194304)/\c.over.length<=4194304:=by
 unfold kZ zQ at h;have h1:=kB zU 1 c.lines fun x _=>by unfold zU;omega
 have h2:=kB yf 33 c.over fun x _=>Jam _
 refine ⟨by omega,by omega,by omega,fun s hs=> ?_,by omega⟩
 have:=qxo zU hs;have e:zU s=s.size+1:=rfl;omega
end
section
open Go.RowKit
attribute [local irreducible] zb qa
set_option maxRecDepth 100000
def H72:List (Nat×Hint):=[(4,⟨[],[(0,.leaf),(3,.leaf)],[],[.sl .dig,.int .i64]⟩)]
def J72:List (Nat×Hint):=[(9,⟨[],[(0,.leaf),(3,.leaf),(32,.leaf)],[],[.sl .dig,.int .i64,.bool]⟩)]
abbrev S72:List Sh:=[.leaf]
abbrev L72:List Lf:=[.sl .dig]
def YW (K:Kn) (a:prodL [.sl .dig,.int .i64]->Prop) (b:List Dig) (c:Int) (d:Bool):Prop:=
 bif d then (
  K (.int .i64 9) [])
 else (
  a (b,IntKind.i64.wrap (c+1),()))
def YG (K:Kn) (c:prodL [.sl .dig,.int .i64]->Prop) (b:List Dig) (a:Int):Prop:=
 bif decide (a< (b.length:Int))then (
  At b a fun d=>
 True/\
 bif zn d dz then (
  K (.int .i64 1) [])
 else (
  bif decide (0<a)then (
  At b (IntKind.i64.wrap (a-1)) fun e=>
  At b a fun f=>
  True/\
  YW K c b a (decide (0<=xQ e f)))
 else (
  YW K c b a false)))
 else (
  K (.int .i64 0) [])
def qWB (K:Kn) (g:prodL [.sl .dig,.int .i64]):Prop:=
 qy (γ:=prodL [.sl .dig,.int .i64]) (fun V y=>YG K V y.1 y.2.1) g
def F72 (g:prodL L72) (K:Kn):Prop:=
 bif decide (100< (g.1.length:Int))then (
  K (.int .i64 4) [])
 else (
  qWB K (g.1,0,()))
theorem qmq (g:prodL L72) (K X:Kn) (h:F72 g K):FCalls Tryz.prog 72 (argsT S72 L72 g) [] K X:=
 FCalls.settle0 (qw Tryz.func72 Tryz.ntmps72 Tryz.results72 qj (qx QF (qx qw9 qz)) H72 J72 (by kernel_rfl) (by kernel_rfl) h)
def H67:List (Nat×Hint):=[(10,⟨[((1,[]),none)],[(1,.pt 0 0),(31,.leaf),(32,.leaf),(33,.leaf)],[.cells [.leaf,.leaf,.leaf,.leaf,.leaf]],[.sl .dig,.int .i64,.int .i64,.str,.str,.int .i64,.sl .dig,.sl .chg]⟩)]
def J67:List (Nat×Hint):=[(6,⟨[((1,[]),none)],[(1,.pt 0 0),(16,.leaf)],[.cells [.leaf,.leaf,.leaf,.leaf,.leaf]],[.bool,.str,.str,.int .i64,.sl .dig,.sl .chg]⟩),(15,⟨[((1,[]),none)],[(1,.pt 0 0),(31,.leaf),(32,.leaf),(33,.leaf),(53,.leaf)],[.cells [.leaf,.leaf,.leaf,.leaf,.leaf]],[.sl .dig,.int .i64,.int .i64,.bool,.str,.str,.int .i64,.sl .dig,.sl .chg]⟩)]
abbrev S67:List Sh:=[.ag [.leaf,.leaf,.leaf,.leaf,.leaf]]
abbrev L67:List Lf:=[.str,.str,.int .i64,.sl .dig,.sl .chg]
def Kk (K:Kn) (a:prodL [.sl .dig,.int .i64,.int .i64,.str,.str,.int .i64,.sl .dig,.sl .chg]->Prop) (b:List Dig) (c d:Int) (e:Bool) (f g:ByteArray) (h:Int) (i:List Dig) (j:List Chg):Prop:=
 bif e then (
  K (.int .i64 9) [])
 else (
  a (b,c,IntKind.i64.wrap (d+1),f,g,h,i,j,()))
def qqz (K:Kn) (f:prodL [.sl .dig,.int .i64,.int .i64,.str,.str,.int .i64,.sl .dig,.sl .chg]->Prop) (c:List Dig) (d a:Int) (g h:ByteArray) (i:Int) (e:List Dig) (b:List Chg):Prop:=
 bif decide (a<d)then (
  At c a fun j=>
 bif zn j dz then (
  K (.int .i64 1) [])
 else (
  bif decide (0<a)then (
  At e (IntKind.i64.wrap (a-1)) fun l=>
  True/\
  Kk K f c d a (decide (0<=jc l j)) g h i e b)
 else (
  Kk K f c d a false g h i e b)))
 else (
  bif decide ((b.length:Int)=0)then (
  K (.int .i64 1) [])
 else (
  bif decide (400< (b.length:Int))then (
   K (.int .i64 4) [])
  else (
   K (.int .i64 0) [])))
def qWS (K:Kn) (g:prodL [.sl .dig,.int .i64,.int .i64,.str,.str,.int .i64,.sl .dig,.sl .chg]):Prop:=
 qy (γ:=prodL [.sl .dig,.int .i64,.int .i64,.str,.str,.int .i64,.sl .dig,.sl .chg]) (fun V y=>qqz K V y.1 y.2.1 y.2.2.1 y.2.2.2.1 y.2.2.2.2.1 y.2.2.2.2.2.1 y.2.2.2.2.2.2.1 y.2.2.2.2.2.2.2.1) g
def Kh (K:Kn) (b:Bool) (c d:ByteArray) (e:Int) (a:List Dig) (f:List Chg):Prop:=
 bif b then (
    K (.int .i64 2) [])
   else (
    bif decide (100< (a.length:Int))then (
     K (.int .i64 4) [])
    else (
     qWS K (a,(a.length:Int),0,c,d,e,a,f,())))
def F67 (g:prodL L67) (K:Kn):Prop:=
 qW8.pre (g.1,())/\
 bif !(xZ g.1)then (
  K (.int .i64 5) [])
 else (
  bif decide (1000< (g.2.1.size:Int))then (
   K (.int .i64 4) [])
  else (
   bif decide (g.2.2.1<0)then (
    Kh K true g.1 g.2.1 g.2.2.1 g.2.2.2.1 g.2.2.2.2.1)
   else (
    Kh K (decide (1099511627776<g.2.2.1)) g.1 g.2.1 g.2.2.1 g.2.2.2.1 g.2.2.2.2.1)))
theorem qlI (g:prodL L67) (K X:Kn) (h:F67 g K):FCalls Tryz.prog 67 (argsT S67 L67 g) [] K X:=
 FCalls.settle0 (qw Tryz.func67 Tryz.ntmps67 Tryz.results67 qj (qx qgq (qx qww qz)) H67 J67 (by kernel_rfl) (by kernel_rfl) h)
def qAF:List (Nat×Hint):=[(6,⟨[],[(0,.leaf),(3,.leaf)],[],[.sl .str,.int .i64]⟩)]
abbrev quT:List Sh:=[.leaf]
abbrev qfa:List Lf:=[.sl .str]
def Xg (K:Kn) (d:prodL [.sl .str,.int .i64]->Prop) (a:List ByteArray) (b:Int):Prop:=
 bif decide (b< (a.length:Int))then (
  At a b fun c=>
 qii.pre (c,())/\
 bif !(yp c)then (
  K (.int .i64 3) [])
 else (
  d (a,IntKind.i64.wrap (b+1),())))
 else (
  K (.int .i64 0) [])
def qQf (K:Kn) (g:prodL [.sl .str,.int .i64]):Prop:=
 qy (γ:=prodL [.sl .str,.int .i64]) (fun V y=>Xg K V y.1 y.2.1) g
def qoN (g:prodL qfa) (K:Kn):Prop:=
 bif decide ((g.1.length:Int)=0)then (
  K (.int .i64 1) [])
 else (
  bif decide (2000< (g.1.length:Int))then (
  K (.int .i64 4) [])
 else (
  qQf K (g.1,0,())))
theorem qcZ (g:prodL qfa) (K X:Kn) (h:qoN g K):FCalls Tryz.prog 175 (argsT quT qfa g) [] K X:=
 FCalls.settle0 (qw Tryz.func175 Tryz.ntmps175 Tryz.results175 qj (qx qKJ qz) qAF [] (by kernel_rfl) (by kernel_rfl) h)
abbrev qp5:List Sh:=[.leaf]
abbrev qdc:List Lf:=[.el .chg]
def qsM (g:prodL qdc) (K:Kn):Prop:=
 True/\
 bif qr g.1.file iz then (
  bif decide (g.1.typ=0)then (
   True/\
   bif qr g.1.parent iz then (
    bif decide (g.1.name=(⟨#[]⟩:ByteArray))then (
     bif decide (g.1.mode=0)then (
      bif decide (g.1.data=(⟨#[]⟩:ByteArray))then (
       True/\
       bif qr g.1.after iz then (
        True/\
        bif qr g.1.before iz then (
         bif decide ((g.1.lines.length:Int)=0)then (
          K (.bool (decide ((g.1.over.length:Int)=0))) [])
         else (
          K (.bool false) []))
        else (
         K (.bool false) []))
       else (
        K (.bool false) []))
      else (
       K (.bool false) []))
     else (
      K (.bool false) []))
    else (
     K (.bool false) []))
   else (
    K (.bool false) []))
  else (
   K (.bool false) []))
 else (
  K (.bool false) [])
theorem qea (g:prodL qdc) (K X:Kn) (h:qsM g K):FCalls Tryz.prog 173 (argsT qp5 qdc g) [] K X:=
 FCalls.settle0 (qw Tryz.func173 Tryz.ntmps173 Tryz.results173 qj (qx qx8 qz) [] [] (by kernel_rfl) (by kernel_rfl) h)
def qpI:Sp:=⟨qp5,qdc,fun _=>True,fun g=> .bool (vS g.1),fun _=>none⟩
theorem qaq:qpI.Ok Tryz.prog 173 true:=
 .mk (fun g K X hp h=>qea g K X (by
  have h:K (.bool (vS g.1)) []:=h;revert h;unfold qsM vS;show (fun v=>K (.bool v) []) _->_
  repeat' (first | exact id | refine qU (K:=fun v=>K (.bool v) []) ?_ ?_ | (intro h;refine ⟨trivial, ?_⟩;revert h))))
abbrev qrz:List Sh:=[.leaf,.leaf]
abbrev qdJ:List Lf:=[.int .i64,.el .atm]
def qtl (g:prodL qdJ) (K:Kn):Prop:=
 bif !decide (g.2.1.kind=1)then (
  K (.bool false) [])
 else (
  True/\
 bif QH g.1 then (
  K (.bool (decide (g.2.1.typ=1))) [])
 else (
  bif !decide (g.1=4)then (
  K (.bool true) [])
 else (
  bif decide (g.2.1.typ=2)then (
   K (.bool true) [])
  else (
   K (.bool (decide (g.2.1.typ=3))) []))))
theorem qe9 (g:prodL qdJ) (K X:Kn) (h:qtl g K):FCalls Tryz.prog 178 (argsT qrz qdJ g) [] K X:=
 FCalls.settle0 (qw Tryz.func178 Tryz.ntmps178 Tryz.results178 qj (qx qwk qz) [] [] (by kernel_rfl) (by kernel_rfl) h)
def qsn:Sp:=⟨qrz,qdJ,fun _=>True,fun g=> .bool (Qz g.1 g.2.1),fun _=>none⟩
theorem qaW:qsn.Ok Tryz.prog 178 true:=
 .mk (fun g K X hp h=>qe9 g K X (by
  have h:K (.bool (Qz g.1 g.2.1)) []:=h;unfold qtl;unfold Qz at h;revert h;cases decide (g.2.1.kind=1)
  . exact id
  . intro h;refine ⟨trivial, ?_⟩;show bif QH g.1 then _ else _
    change KBo K (bif QH g.1 then _ else _)at h
    revert h;exact qU (K:=KBo K) id (qU (K:=KBo K) id (qU (K:=KBo K) id id))))
abbrev qsa:List Sh:=[.leaf,.leaf,.leaf]
abbrev qeW:List Lf:=[.int .i64,.el .idk,.el .atm]
def qs6 (g:prodL qeW) (K:Kn):Prop:=
 True/\
 bif decide (VE g.1=0)then (
  K (.bool true) [])
 else (
  True/\
  bif decide (g.2.2.1.kind=VE g.1)then (
   K (.bool (qr g.2.2.1.file g.2.1)) [])
  else (
   K (.bool false) []))
theorem qfT (g:prodL qeW) (K X:Kn) (h:qs6 g K):FCalls Tryz.prog 182 (argsT qsa qeW g) [] K X:=
 FCalls.settle0 (qw Tryz.func182 Tryz.ntmps182 Tryz.results182 qj (qx qaI qz) [] [] (by kernel_rfl) (by kernel_rfl) h)
def qrr:Sp:=⟨qsa,qeW,fun _=>True,fun g=> .bool (J0 g.1 g.2.1 g.2.2.1),fun _=>none⟩
theorem qX6:qrr.Ok Tryz.prog 182 true:=
 .mk (fun g K X hp h=>qfT g K X (by
  have h:K (.bool (J0 g.1 g.2.1 g.2.2.1)) []:=h;revert h;unfold qs6 J0;show (fun v=>K (.bool v) []) _->_
  repeat' (first | exact id | refine qU (K:=fun v=>K (.bool v) []) ?_ ?_ | (intro h;refine ⟨trivial, ?_⟩;revert h))))
abbrev qtW:List Sh:=[.leaf,.leaf]
abbrev qfg:List Lf:=[.el .idk,.int .i64]
def qrs (g:prodL qfg) (K:Kn):Prop:=
 True/\
 bif zn g.1.patch dz then (
  bif decide (0<=g.1.n)then (
   K (.bool (decide (g.1.n<g.2.1))) [])
  else (
   K (.bool false) []))
 else (
  bif decide (0<=g.1.n)then (
  K (.bool (decide (g.1.n<100000))) [])
 else (
  K (.bool false) []))
theorem qdv (g:prodL qfg) (K X:Kn) (h:qrs g K):FCalls Tryz.prog 215 (argsT qtW qfg g) [] K X:=
 FCalls.settle0 (qw Tryz.func215 Tryz.ntmps215 Tryz.results215 qj (qx QF qz) [] [] (by kernel_rfl) (by kernel_rfl) h)
def qrX:Sp:=⟨qtW,qfg,fun _=>True,fun g=> .bool (qkO g.1 g.2.1),fun _=>none⟩
theorem qaR:qrX.Ok Tryz.prog 215 true:=
 .mk (fun g K X hp h=>qdv g K X (by
  have h:K (.bool (qkO g.1 g.2.1)) []:=h;revert h;unfold qrs qkO;show (fun v=>K (.bool v) []) _->_
  repeat' (first | exact id | refine qU (K:=fun v=>K (.bool v) []) ?_ ?_ | (intro h;refine ⟨trivial, ?_⟩;revert h))))
def qAg:List (Nat×Hint):=[(4,⟨[],[(18,.leaf)],[],[.bool]⟩)]
abbrev qtM:List Sh:=[.leaf,.leaf,.leaf]
abbrev qhw:List Lf:=[.el .idk,.sl .atm,.bool]
def WC (K:Kn) (a:Bool):Prop:=
 bif a then (
  K (.int .i64 8) [])
 else (
  K (.int .i64 0) [])
def qrW (g:prodL qhw) (K:Kn):Prop:=
 True/\
 bif !(qkO g.1 (g.2.1.length:Int))then (
  K (.int .i64 7) [])
 else (
  True/\
 bif zn g.1.patch dz then (
  WC K (!g.2.2.1))
 else (
  WC K false))
theorem qe2 (g:prodL qhw) (K X:Kn) (h:qrW g K):FCalls Tryz.prog 177 (argsT qtM qhw g) [] K X:=
 FCalls.settle0 (qw Tryz.func177 Tryz.ntmps177 Tryz.results177 qj (qx QF (qx qaR qz)) [] qAg (by kernel_rfl) (by kernel_rfl) h)
def qrO:Sp:=⟨qtM,qhw,fun _=>True,fun g=> .int .i64 (xj g.1 g.2.1 g.2.2.1),fun _=>none⟩
theorem qWg:qrO.Ok Tryz.prog 177 true:=
 .mk (fun g K X hp h=>qe2 g K X (by
  have h:K (.int .i64 (xj g.1 g.2.1 g.2.2.1)) []:=h;unfold qrW;unfold xj at h;refine ⟨trivial, ?_⟩;show bif !(qkO g.1 (g.2.1.length:Int))then _ else _
  revert h;refine qU (K:=KI K) id fun h=>⟨trivial, ?_⟩
  exact vz (J:=WC K) (f:=fun b:Bool=>bif b then (8:Int)else 0) (K:=KI K) (fun b=>by unfold WC;exact qU (K:=KI K) id id) h))
def qCq:List (Nat×Hint):=[(2,⟨[((1,[]),none),((2,[]),none)],[(1,.pt 0 0),(2,.pt 1 0),(10,.leaf)],[.el,.el],[.bool,.el .chg,.el .chg]⟩),(3,⟨[((1,[]),none),((2,[]),none)],[(1,.pt 0 0),(2,.pt 1 0)],[.el,.el],[.el .chg,.el .chg]⟩),(4,⟨[((1,[]),none),((2,[]),none)],[(1,.pt 0 0),(2,.pt 1 0),(20,.leaf)],[.el,.el],[.bool,.el .chg,.el .chg]⟩),(5,⟨[((1,[]),none),((2,[]),none)],[(1,.pt 0 0),(2,.pt 1 0)],[.el,.el],[.el .chg,.el .chg]⟩),(18,⟨[((1,[]),none),((2,[]),none)],[(1,.pt 0 0),(2,.pt 1 0)],[.el,.el],[.el .chg,.el .chg]⟩)]
abbrev qpw:List Sh:=[.leaf]
abbrev qbB:List Lf:=[.el .chg]
def kD (K:Kn) (a b:Chg):Prop:=
 K (.ag (enc .chg a)) []
def WR (K:Kn) (a b:Chg):Prop:=
 bif decide (a.kind=1)then (
  kD K (⟨a.kind,a.file,0,a.parent,a.name,a.mode,a.data,a.after,a.before,a.lines,a.over⟩:Chg) b)
 else (
  bif decide (a.kind=2)then (
   True/\
   kD K (⟨a.kind,a.file,a.typ,iz,(⟨#[]⟩:ByteArray),a.mode,a.data,a.after,a.before,a.lines,a.over⟩:Chg) b)
  else (
   bif decide (a.kind=3)then (
    kD K (⟨a.kind,a.file,a.typ,a.parent,a.name,0,a.data,a.after,a.before,a.lines,a.over⟩:Chg) b)
   else (
    bif decide (a.kind=4)then (
     kD K (⟨a.kind,a.file,a.typ,a.parent,a.name,a.mode,(⟨#[]⟩:ByteArray),a.after,a.before,a.lines,a.over⟩:Chg) b)
    else (
     bif decide (a.kind=5)then (
      True/\
      True/\
      kD K (⟨a.kind,a.file,a.typ,a.parent,a.name,a.mode,a.data,iz,iz,[],a.over⟩:Chg) b)
     else (
      bif decide (a.kind=6)then (
       True/\
       True/\
       kD K (⟨a.kind,a.file,a.typ,a.parent,a.name,a.mode,a.data,iz,iz,a.lines,a.over⟩:Chg) b)
      else (
       kD K a b))))))
def Xj (K:Kn) (c:Bool) (a b:Chg):Prop:=
 bif c then (
  WR K (⟨a.kind,a.file,a.typ,a.parent,a.name,a.mode,a.data,a.after,a.before,a.lines,[]⟩:Chg) b)
 else (
  WR K a b)
def W9 (K:Kn) (a b:Chg):Prop:=
 bif !decide (a.kind=1)then (
  Xj K (!decide (a.kind=5)) a b)
 else (
  Xj K false a b)
def JR (K:Kn) (c:Bool) (a b:Chg):Prop:=
 bif c then (
  True/\
  W9 K (⟨a.kind,iz,a.typ,a.parent,a.name,a.mode,a.data,a.after,a.before,a.lines,a.over⟩:Chg) b)
 else (
  W9 K a b)
def qtE (g:prodL qbB) (K:Kn):Prop:=
 bif decide (2<=g.1.kind)then (
  JR K (decide (g.1.kind<=6)) g.1 cz)
 else (
  JR K false g.1 cz)
theorem qfD (g:prodL qbB) (K X:Kn) (h:qtE g K):FCalls Tryz.prog 174 (argsT qpw qbB g) [] K X:=
 FCalls.settle0 (qw Tryz.func174 Tryz.ntmps174 Tryz.results174 qj (qx qx8 qz) [] qCq (by kernel_rfl) (by kernel_rfl) h)
def qCa:List (Nat×Hint):=[(2,⟨[((3,[]),none),((4,[]),none)],[(0,.leaf),(3,.pt 0 0),(4,.pt 1 0),(19,.leaf)],[.el,.el],[.sl .atm,.bool,.el .idk,.el .atm]⟩)]
abbrev qsc:List Sh:=[.leaf,.leaf]
abbrev qdP:List Lf:=[.sl .atm,.el .idk]
def Xd (K:Kn) (a:List Atm) (b:Bool) (c:Idn) (e:Atm):Prop:=
 bif b then (
  At a c.n fun d=>
  K (.ag (enc .atm d)) [])
 else (
  K (.ag (qu7 .atm az)) [])
def qmJ (g:prodL qdP) (K:Kn):Prop:=
 True/\
 bif zn g.2.1.patch dz then (
  bif decide (0<=g.2.1.n)then (
   Xd K g.1 (decide (g.2.1.n< (g.1.length:Int))) g.2.1 az)
  else (
   Xd K g.1 false g.2.1 az))
 else (
  Xd K g.1 false g.2.1 az)
theorem qem (g:prodL qdP) (K X:Kn) (h:qmJ g K):FCalls Tryz.prog 179 (argsT qsc qdP g) [] K X:=
 FCalls.settle0 (qw Tryz.func179 Tryz.ntmps179 Tryz.results179 qj (qx QF qz) [] qCa (by kernel_rfl) (by kernel_rfl) h)
end
section
open Go.RowKit
set_option maxRecDepth 100000
theorem qZh {n:Nat} (h:0<n/\n<=4294967296):IntKind.i64.wrap ((n:Int) - 1)=((n-1:Nat):Int):=by
 rw [w64 (by omega)];omega
theorem qn5 {n:Nat} (h:0<n):decide ((0:Int) < (n:Int))=true:=Jaa (by omega)
theorem Xp {cmp:Dig->Dig->Int} {l:List Dig} {n:Nat} (h:n<l.length):qWm cmp l n=bif zn l[n] dz then 1 else bif decide (0<n)then (bif decide (0<=cmp l[n-1] l[n])then 9 else 0)else 0:=by
 unfold qWm;rw [jU h,jU (show n-1<l.length by omega)]
theorem qoq {l:List Dig} {K:Kn} (h:KI K (jB xQ l)):F72 (l,()) K:=by
 unfold F72;unfold jB at h;cases c0:decide (100< (l.length:Int));rotate_left
 . rw [c0] at h;exact h
 have hl:l.length<=100:=by have:=Jad c0;omega
 rw [c0,Jaf] at h;rw [Jaf];unfold qWB;refine qy.errsN l.length (qWm xQ l) (fun n=>(l,(n:Int),())) (KI K) h rfl (fun W n hn h0 h1=> ?_) fun h W=> ?_
 . show YG K W l n
   unfold YG;rw [qu hn,Jae];rw [Xp hn] at h0 h1;refine qD hn ⟨trivial, ?_⟩;cases c1:zn l[n] dz
   . rw [c1] at h0 h1;rw [Jaf] at h0 h1 ⊢;by_cases hz:0<n
     . rw [qn5 hz,Jae];rw [Jaa hz,Jae] at h0 h1;rw [qZh (by omega)]
       refine qD (by omega) (qD hn ⟨trivial, ?_⟩)
       unfold YW;cases c2:decide (0<=xQ l[n-1] l[n])
       . rw [c2] at h0;rw [Jaf,zd hn (by omega)];exact h0 rfl
       . rw [c2] at h1;exact h1 (by decide)
     . have:n=0:=by omega
       subst this;show YW K W l 0 false
       unfold YW;rw [Jaf];have:=zd hn (show l.length<=4294967296 by omega)
       have e:IntKind.i64.wrap ((0:Int)+1)=((0+1:Nat):Int):=this;rw [e];exact h0 rfl
   . rw [c1] at h1;exact h1 (show (1:Int)≠0 by decide)
 . show YG K W l (l.length:Int)
   unfold YG;rw [qm,Jaf];exact h
def qAz:Sp:=⟨S72,L72,fun _=>True,fun g=> .int .i64 (jB xQ g.1),fun _=>none⟩
theorem qg9:qAz.Ok Tryz.prog 72 true:=
 .mk (fun g K X _ h=>qmq g K X (qoq h))
theorem ql2 {a m:ByteArray} {t:Int} {ds:List Dig} {cs:List Chg} {K:Kn} (ha:szP a) (h:KI K (jW jc a m t ds cs)):F67 (a,m,t,ds,cs,()) K:=by
 unfold F67;unfold jW at h;refine ⟨ha, ?_⟩;show bif !(xZ a)then _ else _
 cases c1:xZ a
 . rw [c1] at h;exact h
 rw [c1] at h;simp only [Jap,Jaf] at h ⊢;cases c2:decide (1000< (m.size:Int));rotate_left
 . rw [c2] at h;exact h
 rw [c2] at h;rw [Jaf] at h ⊢;have hJ: ∀b,KI K (bif b then 2 else bif !decide (jB jc ds=0)then jB jc ds else bif decide ((cs.length:Int)=0)then 1 else bif decide (400< (cs.length:Int))then 4 else 0)->Kh K b a m t ds cs:=by
  intro b h;unfold Kh;cases b;rotate_left
  . exact h
  rw [Jaf] at h ⊢;unfold jB at h;cases c0:decide (100< (ds.length:Int));rotate_left
  . rw [c0] at h;exact h
  have hl:ds.length<=100:=by have:=Jad c0;omega
  rw [c0,Jaf] at h;rw [Jaf];unfold qWS;refine qy.errsN ds.length (qWm jc ds) (fun n=>(ds,(ds.length:Int),(n:Int),a,m,t,ds,cs,())) (fun e=>KI K (bif !decide (e=0)then e else bif decide ((cs.length:Int)=0)then 1 else bif decide (400< (cs.length:Int))then 4 else 0)) h rfl (fun W n hn h0 h1=> ?_) fun h W=> ?_
  . show qqz K W ds (ds.length:Int) n a m t ds cs
    unfold qqz;rw [qu hn,Jae];rw [Xp hn] at h0 h1;refine qD hn ?_;cases c1:zn ds[n] dz
    . rw [c1] at h0 h1;rw [Jaf] at h0 h1 ⊢;by_cases hz:0<n
      . rw [qn5 hz,Jae];rw [Jaa hz,Jae] at h0 h1;rw [qZh (by omega)]
        refine qD (by omega) ⟨trivial, ?_⟩
        unfold Kk;cases c2:decide (0<=jc ds[n-1] ds[n])
        . rw [c2] at h0;rw [Jaf,zd hn (by omega)];exact h0 rfl
        . rw [c2] at h1;exact h1 (by decide)
      . have:n=0:=by omega
        subst this;show Kk K W ds ds.length 0 false a m t ds cs
        unfold Kk;rw [Jaf];have:=zd hn (show ds.length<=4294967296 by omega)
        have e:IntKind.i64.wrap ((0:Int)+1)=((0+1:Nat):Int):=this;rw [e];exact h0 rfl
    . rw [c1] at h1;exact h1 (show (1:Int)≠0 by decide)
  . show qqz K W ds (ds.length:Int) (ds.length:Int) a m t ds cs
    unfold qqz;rw [qm,Jaf];change KI K (bif decide ((cs.length:Int)=0)then 1 else bif decide (400< (cs.length:Int))then 4 else 0)at h
    revert h;exact qU (K:=KI K) id (qU (K:=KI K) id id)
 exact vz (J:=fun b=>Kh K b a m t ds cs) (f:=fun b=>bif b then 2 else bif !decide (jB jc ds=0)then jB jc ds else bif decide ((cs.length:Int)=0)then 1 else bif decide (400< (cs.length:Int))then 4 else 0) (K:=KI K) hJ h
def qWy:Sp:=⟨S67,L67,fun g=>szP g.1,fun g=> .int .i64 (jW jc g.1 g.2.1 g.2.2.1 g.2.2.2.1 g.2.2.2.2.1),fun _=>none⟩
theorem qgZ:qWy.Ok Tryz.prog 67 true:=
 .mk (fun g K X hp h=>qlI g K X (ql2 hp h))
theorem qwp {l:List ByteArray} {n:Nat} (h:n<l.length):qw8 l n=bif !(yp l[n])then 3 else 0:=by
 unfold qw8;rw [jU h]
theorem qd2 {l:List ByteArray} {K:Kn} (hs: ∀s∈l,s.size<=4194304) (h:KI K (XN l)):qoN (l,()) K:=by
 unfold qoN;revert h;unfold XN;refine qU (K:=KI K) id fun h=> ?_
 show bif decide (2000< (l.length:Int))then _ else _
 cases c0:decide (2000< (l.length:Int));rotate_left
 . rw [c0] at h;exact h
 have hl:l.length<=2000:=by have:=Jad c0;omega
 rw [c0,Jaf] at h;rw [Jaf];unfold qQf;refine qy.errsN l.length (qw8 l) (fun n=>(l,(n:Int),())) (KI K) h rfl (fun W n hn h0 h1=> ?_) fun h W=> ?_
 . show Xg K W l n
   unfold Xg;rw [qu hn,Jae];rw [qwp hn] at h0 h1;refine qD hn ⟨Jau (hs _ (Jba _)) (by omega), ?_⟩
   cases c:yp l[n]
   . rw [c] at h1;exact h1 (by decide)
   . rw [c] at h0;simp only [Jap,Jaf];rw [zd hn (by omega)];exact h0 rfl
 . show Xg K W l (l.length:Int)
   unfold Xg;rw [qm,Jaf];exact h
def qlw:Sp:=⟨quT,qfa,fun g=> ∀s∈g.1,s.size<=4194304,fun g=> .int .i64 (XN g.1),fun _=>none⟩
theorem qKx:qlw.Ok Tryz.prog 175 true:=
 .mk (fun g K X hp h=>qcZ g K X (qd2 hp h))
theorem qvc {cmp:Idn->Idn->Int} {l:List Idn} {n:Nat} (h:n+1<l.length):KH cmp l n=bif decide (0<=cmp l[n] l[n+1])then 9 else 0:=by
 unfold KH;rw [jU (show n<l.length by omega),jU h]
theorem qfI {l:List Idn} {K:Kn} (hl:V3 l.length) (h:KBo K (qkv l)):qoE (l,()) K:=by
 unfold V3 at hl;unfold qoE;unfold qkv wA at h;unfold qQu;refine qy.errsN (l.length-1) (KH idI l) (fun n=>(l,((n+1:Nat):Int),())) (fun e=>KBo K (decide (e=0))) h rfl (fun W n hn h0 h1=> ?_) fun h W=> ?_
 . show Xb K W l ((n+1:Nat):Int)
   unfold Xb;rw [qu (show n+1<l.length by omega),Jae]
   rw [qvc (by omega)] at h0 h1
   rw [qZh (by omega)]
   refine qD (show n+1-1<l.length by omega) (qD (show n+1<l.length by omega) ⟨trivial, ?_⟩)
   simp only [Nat.add_sub_cancel];cases c:decide (0<=idI l[n] l[n+1])
   . rw [c] at h0;rw [Jaf,zd (show n+1<l.length by omega) (by omega)];exact h0 rfl
   . rw [c] at h1;exact h1 (by decide)
 . show Xb K W l ((l.length-1+1:Nat):Int)
   unfold Xb;rw [Jab (by omega),Jaf];exact h
def qir:Sp:=⟨qsZ,qbC,fun g=>V3 g.1.length,fun g=> .bool (qkv g.1),fun _=>none⟩
theorem qVE:qir.Ok Tryz.prog 176 true:=
 .mk (fun g K X hp h=>qdj g K X (qfI hp h))
abbrev KC (K:Kn):Chg->Prop:=fun c=>K (.ag (enc .chg c)) []
theorem qqj {c t:Chg} {K:Kn} (h:KC K (rC9 c)):WR K c t:=by
 unfold WR;revert h;unfold rC9;exact qU (K:=KC K) id (qU (K:=KC K) (fun h=>⟨trivial,h⟩) (qU (K:=KC K) id (qU (K:=KC K) id (qU (K:=KC K) (fun h=>⟨trivial,trivial,h⟩) (qU (K:=KC K) (fun h=>⟨trivial,trivial,h⟩) id)))))
theorem qyg {b:Bool} {c t:Chg} {K:Kn} (h:KC K (rC5 b c)):Xj K b c t:=by
 unfold Xj;revert h;unfold rC5;exact qU (K:=KC K) qqj qqj
theorem Vg {c t:Chg} {K:Kn} (h:KC K (qmz c)):W9 K c t:=
 vz (J:=fun b=>Xj K b c t) (f:=fun b=>rC5 b c) (K:=KC K) (fun _ h=>qyg h) h
theorem qkJ {b:Bool} {c t:Chg} {K:Kn} (h:KC K (rC2 b c)):JR K b c t:=by
 unfold JR;revert h;unfold rC2;exact qU (K:=KC K) (fun h=>⟨trivial,Vg h⟩) Vg
theorem qfw {c:Chg} {K:Kn} (h:KC K (yE c)):qtE (c,()) K:=
 vz (J:=fun b=>JR K b c cz) (f:=fun b=>rC2 b c) (K:=KC K) (fun _ h=>qkJ h) h
def qrk:Sp:=⟨qpw,qbB,fun _=>True,fun g=> .ag (enc .chg (yE g.1)),fun _=>none⟩
theorem qWO:qrk.Ok Tryz.prog 174 false:=
 .mk (fun g K X _ h=>qfD g K X (qfw h))
def qmt:T->Bool
 | .sl b _ l=> !b&&l.isEmpty
 | _=>true
theorem qJd {e:El} {x:ty e} (h:(enc e x).all qmt=true):zl (.ag (qu7 e x)) (.ag (enc e x)):=by
 have key: ∀L:List T,L.all qmt=true->qA (L.map qs8) L:=by
  intro L;induction L with
  | nil=>intro _;exact qA.nil
  | cons y L ih=>
   intro h;rw [List.all_cons,Jaq] at h;refine qA.cons ?_ (ih h.2);cases y with
   | sl b e l=>
    have h1:(!b&&l.isEmpty)=true:=h.1;rw [Jaq,Bool.not_eq_true'] at h1;obtain ⟨rfl,h2⟩:=h1;obtain rfl:=List.isEmpty_iff.1 h2;exact zl.nil e
   | _=>exact zl.refl _
 exact zl.ag (key _ h)
theorem qoz:(enc .atm az).all qmt=true:=by kernel_rfl
theorem qbE {own:List Atm} {x:Idn} {K:Kn} (h:K (.ag (enc .atm (wx own x))) []):qmJ (own,x,()) (zI K):=by
 unfold qmJ;refine ⟨trivial, ?_⟩;have hJ: ∀b,(b=true->0<=x.n/\x.n< (own.length:Int))->K (.ag (enc .atm (bif b then own.getD x.n.toNat az else az))) []->Xd (zI K) own b x az:=by
  intro b hb h;unfold Xd;cases b
  . exact ⟨_,qJd qoz,h⟩
  . obtain ⟨b1,b2⟩:=hb rfl;have hn:x.n.toNat<own.length:=by omega
    refine ⟨b1,own[x.n.toNat],jU hn,zI.same ?_⟩;rw [Jae,Jbq,jU hn] at h;exact h
 show bif zn x.patch dz then _ else _
 unfold wx at h;cases c1:zn x.patch dz
 . rw [c1] at h;exact hJ false (by simp) h
 . rw [c1] at h;rw [Jae] at h ⊢;cases c2:decide (0<=x.n)
   . rw [c2] at h;exact hJ false (by simp) h
   . rw [c2] at h;exact hJ _ (fun e=>⟨Jac c2,Jac e⟩) h
def qss:Sp:=⟨qsc,qdP,fun _=>True,fun g=> .ag (enc .atm (wx g.1 g.2.1)),fun _=>none⟩
theorem qaF:qss.Ok Tryz.prog 179 false:=
 .mk (fun g K X _ h=>FCalls.weak (qem g (zI K) X (qbE h)))
end
end Go.Proofs.YtbglndogddddoaaGreatDoor
