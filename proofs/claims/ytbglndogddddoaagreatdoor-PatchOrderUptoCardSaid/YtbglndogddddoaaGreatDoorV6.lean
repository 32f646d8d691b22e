import Derived.Shelf.SlSortCmp.WholeK
import Derived.Shelf.RegionOpenPlain
import Derived.WalkKit
import Derived.Lib.Walk
import Derived.Lib.Bytealg
import Derived.Lib.BytesEntry
import Derived.BigCall
import Derived.BigGuard
import Derived.Deep.Draws
import Derived.Deep.QuietTactic
import Derived.BigQuiet
import Derived.Shelf.SlSortCmp.NoneTotal
import Derived.Test.YtbglndogddddoaaGreatDoorCards
import Derived.LaidLaws
import Derived.LaidHandle
import Derived.MakeChecks
import Derived.LaidMore
import Derived.OpenShut
import Derived.ProofKit
import Derived.Stop.Joined
import Derived.JoinedCond
import Derived.Test.YtbglndogddddoaaGreatDoorV5
set_option linter.unusedVariables false
set_option linter.unusedSimpArgs false
set_option linter.unusedSectionVars false
namespace Go.Proofs.YtbglndogddddoaaGreatDoor
open Go.RowKit
attribute [local irreducible] dfun dround
set_option maxRecDepth 100000
def H156 : List (Nat × Hint) := []
def J156 : List (Nat × Hint) := []
abbrev S156 : List Sh := [.leaf, .leaf]
abbrev L156 : List Lf := [.int .u32, .int .i64]
def F156 (g : prodL L156) (K : Kn) : Prop :=
 (0 : Int) <= bitsOf .and .u64 (IntKind.u64.wrap g.2.1) 31 /\
 (0 : Int) <= IntKind.u64.wrap (32 - (bitsOf .and .u64 (IntKind.u64.wrap g.2.1) 31)) /\
 K (.int .u32 (bitsOf .or .u32 (IntKind.u32.wrap (g.1 * 2 ^ (min (bitsOf .and .u64 (IntKind.u64.wrap g.2.1) 31).toNat IntKind.u32.bits))) (Int.fdiv g.1 (2 ^ (min (IntKind.u64.wrap (32 - (bitsOf .and .u64 (IntKind.u64.wrap g.2.1) 31))).toNat IntKind.u32.bits))))) []
theorem F156_eq (g : prodL L156) (K X : Kn) : F156 g K = dfun D (gamX [] []) (isRaw []) H156 J156 17 [.tmp 4] (codeOf Tryz.f156) (argsT S156 L156 g) [] (settle0 K) X := by kernel_rfl
theorem F156_ok (g : prodL L156) (K X : Kn) (h : F156 g K) : FCalls Tryz.prog 156 (argsT S156 L156 g) [] K X :=
 FCalls.settle0 (dfun_sound D_ok (gmX gm0) gamX_det rfl Tryz.func156 (c := codeOf Tryz.f156) rfl Tryz.ntmps156 Tryz.results156 (by unfold enters; rw [Tryz.func156]; kernel_rfl) (Nat.le_of_ble_eq_true (by kernel_rfl)) (c0 := 0) (Eq.mp (F156_eq g K X) h))
def sp156 : Sp := ⟨S156, L156, fun _ => True, fun g => .int .u32 (rotL g.1 g.2.1), fun _ => none⟩
theorem sp156_ok : sp156.Ok Tryz.prog 156 true :=
 ⟨fun g K X hp h => F156_ok g K X (by
  have h : K (.int .u32 (rotL g.1 g.2.1)) [] := h
  exact ⟨and_nn _ _, u64_nn _, h⟩), fun _ _ _ => rfl, fun _ => rfl, by first | exact fun _ _ => ⟨rfl, rfl⟩ | (intro h; cases h)⟩
def H114 : List (Nat × Hint) := []
def J114 : List (Nat × Hint) := []
abbrev S114 : List Sh := [.leaf, .leaf]
abbrev L114 : List Lf := [.int .u32, .int .i64]
def F114 (g : prodL L114) (K : Kn) : Prop :=
 True /\
 K (.int .u32 (rotL g.1 (IntKind.i64.wrap (0 - g.2.1)))) []
theorem F114_eq (g : prodL L114) (K X : Kn) : F114 g K = dfun D (gamX [] [(156, true, sp156)]) (isRaw []) H114 J114 9 [.tmp 4] (codeOf Tryz.f114) (argsT S114 L114 g) [] (settle0 K) X := by kernel_rfl
theorem F114_ok (g : prodL L114) (K X : Kn) (h : F114 g K) : FCalls Tryz.prog 114 (argsT S114 L114 g) [] K X :=
 FCalls.settle0 (dfun_sound (Γ := gamX [] [(156, true, sp156)]) (mu := isRaw []) (H := H114) (J := J114) D_ok (gamX_ok (rs := []) (l := [(156, true, sp156)]) (fun p hp => by cases hp) (by intro p hp; simp only [List.mem_cons, List.not_mem_nil, or_false] at hp; subst hp; exact sp156_ok)) gamX_det rfl Tryz.func114 (c := codeOf Tryz.f114) rfl Tryz.ntmps114 Tryz.results114 (by unfold enters; rw [Tryz.func114]; kernel_rfl) (Nat.le_of_ble_eq_true (by kernel_rfl)) (c0 := 0) (Eq.mp (F114_eq g K X) h))
def sp114 : Sp := ⟨S114, L114, fun _ => True, fun g => .int .u32 (rotR g.1 g.2.1), fun _ => none⟩
theorem sp114_ok : sp114.Ok Tryz.prog 114 true :=
 ⟨fun g K X hp h => F114_ok g K X (by
  have h : K (.int .u32 (rotR g.1 g.2.1)) [] := h
  exact ⟨trivial, h⟩), fun _ _ _ => rfl, fun _ => rfl, by first | exact fun _ _ => ⟨rfl, rfl⟩ | (intro h; cases h)⟩
def H113 : List (Nat × Hint) := []
def J113 : List (Nat × Hint) := []
abbrev S113 : List Sh := []
abbrev L113 : List Lf := []
def F113 (g : prodL L113) (K : Kn) : Prop :=
 Need ([1116352408, 1899447441, 3049323471, 3921009573, 961987163, 1508970993, 2453635748, 2870763221, 3624381080, 310598401, 607225278, 1426881987, 1925078388, 2162078206, 2614888103, 3248222580, 3835390401, 4022224774, 264347078, 604807628, 770255983, 1249150122, 1555081692, 1996064986, 2554220882, 2821834349, 2952996808, 3210313671, 3336571891, 3584528711, 113926993, 338241895, 666307205, 773529912, 1294757372, 1396182291, 1695183700, 1986661051, 2177026350, 2456956037, 2730485921, 2820302411, 3259730800, 3345764771, 3516065817, 3600352804, 4094571909, 275423344, 430227734, 506948616, 659060556, 883997877, 958139571, 1322822218, 1537002063, 1747873779, 1955562222, 2024104815, 2227730452, 2361852424, 2428436474, 2756734187, 3204031479, 3329325298].length * 1 = 64 /\ [1116352408, 1899447441, 3049323471, 3921009573, 961987163, 1508970993, 2453635748, 2870763221, 3624381080, 310598401, 607225278, 1426881987, 1925078388, 2162078206, 2614888103, 3248222580, 3835390401, 4022224774, 264347078, 604807628, 770255983, 1249150122, 1555081692, 1996064986, 2554220882, 2821834349, 2952996808, 3210313671, 3336571891, 3584528711, 113926993, 338241895, 666307205, 773529912, 1294757372, 1396182291, 1695183700, 1986661051, 2177026350, 2456956037, 2730485921, 2820302411, 3259730800, 3345764771, 3516065817, 3600352804, 4094571909, 275423344, 430227734, 506948616, 659060556, 883997877, 958139571, 1322822218, 1537002063, 1747873779, 1955562222, 2024104815, 2227730452, 2361852424, 2428436474, 2756734187, 3204031479, 3329325298].length = (List.replicate 64 (0 : Int)).length) (
 Need ([1116352408, 1899447441, 3049323471, 3921009573, 961987163, 1508970993, 2453635748, 2870763221, 3624381080, 310598401, 607225278, 1426881987, 1925078388, 2162078206, 2614888103, 3248222580, 3835390401, 4022224774, 264347078, 604807628, 770255983, 1249150122, 1555081692, 1996064986, 2554220882, 2821834349, 2952996808, 3210313671, 3336571891, 3584528711, 113926993, 338241895, 666307205, 773529912, 1294757372, 1396182291, 1695183700, 1986661051, 2177026350, 2456956037, 2730485921, 2820302411, 3259730800, 3345764771, 3516065817, 3600352804, 4094571909, 275423344, 430227734, 506948616, 659060556, 883997877, 958139571, 1322822218, 1537002063, 1747873779, 1955562222, 2024104815, 2227730452, 2361852424, 2428436474, 2756734187, 3204031479, 3329325298].length * 1 = 64) (
 K (.al .u32 [1116352408, 1899447441, 3049323471, 3921009573, 961987163, 1508970993, 2453635748, 2870763221, 3624381080, 310598401, 607225278, 1426881987, 1925078388, 2162078206, 2614888103, 3248222580, 3835390401, 4022224774, 264347078, 604807628, 770255983, 1249150122, 1555081692, 1996064986, 2554220882, 2821834349, 2952996808, 3210313671, 3336571891, 3584528711, 113926993, 338241895, 666307205, 773529912, 1294757372, 1396182291, 1695183700, 1986661051, 2177026350, 2456956037, 2730485921, 2820302411, 3259730800, 3345764771, 3516065817, 3600352804, 4094571909, 275423344, 430227734, 506948616, 659060556, 883997877, 958139571, 1322822218, 1537002063, 1747873779, 1955562222, 2024104815, 2227730452, 2361852424, 2428436474, 2756734187, 3204031479, 3329325298]) []))
theorem F113_eq (g : prodL L113) (K X : Kn) : F113 g K = dfun D (gamX [] []) (isRaw []) H113 J113 2 [.cell 0 138] (codeOf Tryz.f113) (argsT S113 L113 g) [] (settle0 K) X := by kernel_rfl
theorem F113_ok (g : prodL L113) (K X : Kn) (h : F113 g K) : FCalls Tryz.prog 113 (argsT S113 L113 g) [] K X :=
 FCalls.settle0 (dfun_sound D_ok (gmX gm0) gamX_det rfl Tryz.func113 (c := codeOf Tryz.f113) rfl Tryz.ntmps113 Tryz.results113 (by unfold enters; rw [Tryz.func113]; kernel_rfl) (Nat.le_of_ble_eq_true (by kernel_rfl)) (c0 := 0) (Eq.mp (F113_eq g K X) h))
def sp113 : Sp := ⟨S113, L113, fun _ => True, fun g => .al .u32 kL, fun _ => none⟩
theorem sp113_ok : sp113.Ok Tryz.prog 113 false :=
 ⟨fun g K X hp h => F113_ok g K X (by
  have h : K (.al .u32 kL) [] := h
  exact ⟨⟨rfl, rfl⟩, rfl, h⟩), fun _ _ _ => rfl, fun _ => rfl, by first | exact fun _ _ => ⟨rfl, rfl⟩ | (intro h; cases h)⟩
def H112 : List (Nat × Hint) := [(3, ⟨[((2, []), none), ((3, []), none)], [(0, .leaf), (2, .pa .u32 0), (3, .pa .u32 1), (9, .leaf)], [.arr .u32, .arr .u32], [.str, .int .i64, .sl .u32, .sl .u32]⟩), (7, ⟨[((2, []), none), ((3, []), none), ((21, []), none)], [(0, .leaf), (2, .pa .u32 0), (3, .pa .u32 1), (4, .leaf), (9, .leaf), (21, .oa .u8 2), (22, .leaf), (23, .leaf)], [.arr .u32, .arr .u32, .arr .u8], [.str, .int .i64, .int .i64, .int .i64, .int .i64, .sl .u32, .sl .u32, .sl .u8]⟩)]
def J112 : List (Nat × Hint) := [(13, ⟨[((2, []), none), ((3, []), none)], [(0, .leaf), (2, .pa .u32 0), (3, .pa .u32 1), (9, .leaf)], [.arr .u32, .arr .u32], [.str, .int .i64, .sl .u32, .sl .u32]⟩)]
abbrev S112 : List Sh := [.leaf]
abbrev L112 : List Lf := [.str]
def F112_J14 (K : Kn) (W2 : prodL [.str, .int .i64, .sl .u32, .sl .u32] -> Prop) (block_13 : ByteArray) (t_13 : Int) (t2_13 : List Int) (w_13 : List Int) : Prop :=
 W2 (block_13, IntKind.i64.wrap (t_13 + 1), t2_13, w_13, ())
def F112_B4 (K : Kn) (W2 : prodL [.str, .int .i64, .sl .u32, .sl .u32] -> Prop) (W4 : prodL [.str, .int .i64, .int .i64, .int .i64, .int .i64, .sl .u32, .sl .u32, .sl .u8] -> Prop) (block_3 : ByteArray) (t_3 t2_3 t3_3 t4_3 : Int) (t5_3 : List Int) (w_3 : List Int) (t6_3 : List Int) : Prop :=
 bif decide (t4_3 < t3_3) then (
   0 <= t4_3 /\ t4_3.toNat < t6_3.length /\
  atI t6_3 t4_3.toNat fun x5 =>
  0 <= t_3 /\ t_3.toNat < 64 /\
  atI w_3 t_3.toNat fun x6 =>
  (0 : Int) <= 8 /\
  0 <= t_3 /\ t_3.toNat < 64 /\
  atI w_3 t_3.toNat fun x7 =>
  W4 (block_3, t_3, t2_3, t3_3, IntKind.i64.wrap (t4_3 + 1), t5_3, w_3.set t_3.toNat (bitsOf .or .u32 (IntKind.u32.wrap (x6 * 2 ^ (min (8 : Int).toNat IntKind.u32.bits))) (IntKind.u32.wrap x5)), t6_3, ()))
  else (
   F112_J14 K W2 block_3 t2_3 t5_3 w_3)
def F112_L4 (K : Kn) (W2 : prodL [.str, .int .i64, .sl .u32, .sl .u32] -> Prop) (g : prodL [.str, .int .i64, .int .i64, .int .i64, .int .i64, .sl .u32, .sl .u32, .sl .u8]) : Prop :=
 LoopW (γ := prodL [.str, .int .i64, .int .i64, .int .i64, .int .i64, .sl .u32, .sl .u32, .sl .u8]) (fun V y => F112_B4 K W2 V y.1 y.2.1 y.2.2.1 y.2.2.2.1 y.2.2.2.2.1 y.2.2.2.2.2.1 y.2.2.2.2.2.2.1 y.2.2.2.2.2.2.2.1) g
def F112_B2 (K : Kn) (W2 : prodL [.str, .int .i64, .sl .u32, .sl .u32] -> Prop) (block_1 : ByteArray) (t_1 : Int) (t2_1 : List Int) (w_1 : List Int) : Prop :=
 bif decide (t_1 < 64) then (
  bif decide (t_1 < 16) then (
  (0 : Int) <= IntKind.i64.wrap (4 * t_1) /\ IntKind.i64.wrap (4 * t_1) <= IntKind.i64.wrap ((IntKind.i64.wrap (4 * t_1)) + 4) /\ IntKind.i64.wrap ((IntKind.i64.wrap (4 * t_1)) + 4) <= (block_1.size : Int) /\
  Room (block_1.extract (IntKind.i64.wrap (4 * t_1)).toNat (IntKind.i64.wrap ((IntKind.i64.wrap (4 * t_1)) + 4)).toNat).size 1 (
  F112_L4 K W2 (block_1, t_1, t_1, (((strB (block_1.extract (IntKind.i64.wrap (4 * t_1)).toNat (IntKind.i64.wrap ((IntKind.i64.wrap (4 * t_1)) + 4)).toNat)).length : Nat) : Int), 0, t2_1, w_1, strB (block_1.extract (IntKind.i64.wrap (4 * t_1)).toNat (IntKind.i64.wrap ((IntKind.i64.wrap (4 * t_1)) + 4)).toNat), ())))
 else (
  0 <= IntKind.i64.wrap (t_1 - 15) /\ (IntKind.i64.wrap (t_1 - 15)).toNat < 64 /\
 atI w_1 ((IntKind.i64.wrap (t_1 - 15)).toNat) fun x8 =>
 0 <= IntKind.i64.wrap (t_1 - 2) /\ (IntKind.i64.wrap (t_1 - 2)).toNat < 64 /\
 atI w_1 ((IntKind.i64.wrap (t_1 - 2)).toNat) fun x9 =>
 True /\
 True /\
 (0 : Int) <= 10 /\
 0 <= IntKind.i64.wrap (t_1 - 7) /\ (IntKind.i64.wrap (t_1 - 7)).toNat < 64 /\
 atI w_1 ((IntKind.i64.wrap (t_1 - 7)).toNat) fun x10 =>
 True /\
 True /\
 (0 : Int) <= 3 /\
 0 <= IntKind.i64.wrap (t_1 - 16) /\ (IntKind.i64.wrap (t_1 - 16)).toNat < 64 /\
 atI w_1 ((IntKind.i64.wrap (t_1 - 16)).toNat) fun x11 =>
 0 <= t_1 /\ t_1.toNat < 64 /\
 atI w_1 t_1.toNat fun x12 =>
 F112_J14 K W2 block_1 t_1 t2_1 (w_1.set t_1.toNat (IntKind.u32.wrap ((IntKind.u32.wrap ((IntKind.u32.wrap ((bitsOf .xor .u32 (bitsOf .xor .u32 (rotR x9 17) (rotR x9 19)) (Int.fdiv x9 (2 ^ (min (10 : Int).toNat IntKind.u32.bits)))) + x10)) + (bitsOf .xor .u32 (bitsOf .xor .u32 (rotR x8 7) (rotR x8 18)) (Int.fdiv x8 (2 ^ (min (3 : Int).toNat IntKind.u32.bits)))))) + x11)))))
 else (
  Need (w_1.length * 1 = 64) (
 Need (w_1.length * 1 = 64 /\ w_1.length = t2_1.length) (
 Need (w_1.length * 1 = 64) (
 K (.al .u32 w_1) []))))
def F112_L2 (K : Kn) (g : prodL [.str, .int .i64, .sl .u32, .sl .u32]) : Prop :=
 LoopW (γ := prodL [.str, .int .i64, .sl .u32, .sl .u32]) (fun V y => F112_B2 K V y.1 y.2.1 y.2.2.1 y.2.2.2.1) g
def F112 (g : prodL L112) (K : Kn) : Prop :=
 F112_L2 K (g.1, 0, (List.replicate 64 (0 : Int)), (List.replicate 64 (0 : Int)), ())
theorem F112_eq (g : prodL L112) (K X : Kn) : F112 g K = dfun D (gamX [] [(114, true, sp114)]) (isRaw []) H112 J112 76 [.cell 2 138] (codeOf Tryz.f112) (argsT S112 L112 g) [] (settle0 K) X := by kernel_rfl
theorem F112_ok (g : prodL L112) (K X : Kn) (h : F112 g K) : FCalls Tryz.prog 112 (argsT S112 L112 g) [] K X :=
 FCalls.settle0 (dfun_sound (Γ := gamX [] [(114, true, sp114)]) (mu := isRaw []) (H := H112) (J := J112) D_ok (gamX_ok (rs := []) (l := [(114, true, sp114)]) (fun p hp => by cases hp) (by intro p hp; simp only [List.mem_cons, List.not_mem_nil, or_false] at hp; subst hp; exact sp114_ok)) gamX_det rfl Tryz.func112 (c := codeOf Tryz.f112) rfl Tryz.ntmps112 Tryz.results112 (by unfold enters; rw [Tryz.func112]; kernel_rfl) (Nat.le_of_ble_eq_true (by kernel_rfl)) (c0 := 0) (Eq.mp (F112_eq g K X) h))
def H65 : List (Nat × Hint) := []
def J65 : List (Nat × Hint) := []
abbrev S65 : List Sh := [.leaf]
abbrev L65 : List Lf := [.str]
def F65 (g : prodL L65) (K : Kn) : Prop :=
 K (.fn 111 [] [.pr .str g.1 0]) []
theorem F65_eq (g : prodL L65) (K X : Kn) : F65 g K = dfun D (gamX [] []) (isRaw []) H65 J65 4 [.tmp 2] (codeOf Tryz.f65) (argsT S65 L65 g) [] (settle0 K) X := by kernel_rfl
theorem F65_ok (g : prodL L65) (K X : Kn) (h : F65 g K) : FCalls Tryz.prog 65 (argsT S65 L65 g) [] K X :=
 FCalls.settle0 (dfun_sound D_ok (gmX gm0) gamX_det rfl Tryz.func65 (c := codeOf Tryz.f65) rfl Tryz.ntmps65 Tryz.results65 (by unfold enters; rw [Tryz.func65]; kernel_rfl) (Nat.le_of_ble_eq_true (by kernel_rfl)) (c0 := 0) (Eq.mp (F65_eq g K X) h))
def sp65 : Sp := ⟨S65, L65, fun _ => True, fun g => .fn 111 [] [.pr .str g.1 0], fun _ => none⟩
theorem sp65_ok : sp65.Ok Tryz.prog 65 false :=
 ⟨fun g K X hp h => F65_ok g K X (by
  have h : K (.fn 111 [] [.pr .str g.1 0]) [] := h
  exact h), fun _ _ _ => rfl, fun _ => rfl, by first | exact fun _ _ => ⟨rfl, rfl⟩ | (intro h; cases h)⟩
end Go.Proofs.YtbglndogddddoaaGreatDoor
namespace Go.Proofs.YtbglndogddddoaaGreatDoor
open Go.RowKit
set_option maxRecDepth 100000
theorem atI_of {α : Type} {l : List α} {n : Nat} {K : α -> Prop} (h : n < l.length) (hK : K l[n]) : atI l n K := ⟨l[n], getQ h, hK⟩
theorem getDn {l : List Int} {n : Nat} (h : n < l.length) : l.getD n 0 = l[n] := by rw [List.getD_eq_getElem?_getD, getQ h]; rfl
theorem toN (n : Nat) : ((n : Nat) : Int).toNat = n := by omega
theorem wI {n : Int} (h : -4294967296 <= n /\ n <= 4294967296) : IntKind.i64.wrap n = n := wrap64 (by omega) (by omega)
theorem set_getD (w : List Int) (t : Nat) (h : t < w.length) : w.set t (w.getD t 0) = w := by
 rw [getDn h, List.set_getElem_self]
theorem F112_is {b : ByteArray} {K : Kn} (hb : b.size = 64) (h : K (.al .u32 (schP b)) []) : F112 (b, ()) K := by
 unfold F112
 show F112_L2 K _
 unfold F112_L2
 refine LoopW.countTo 64 (fun t => (b, (t : Int), zL, wAt b t, ())) (fun _ => True) rfl (fun t ht _ W hW => ?_) trivial
 show F112_B2 K W b t zL (wAt b t)
 have hlen := wAt_len b t
 unfold F112_B2
 by_cases hlt : t < 64
 . rw [decide_eq_true (show (t : Int) < 64 by omega), cond_true]
   have hW := hW hlt trivial
   rw [wAt_succ] at hW
   by_cases h16 : t < 16
   . rw [decide_eq_true (show (t : Int) < 16 by omega), cond_true]
     have e4 : IntKind.i64.wrap (4 * (t : Int)) = ((4 * t : Nat) : Int) := by rw [wI (by omega)]; omega
     have e5 : IntKind.i64.wrap (((4 * t : Nat) : Int) + 4) = ((4 * t + 4 : Nat) : Int) := by rw [wI (by omega)]; omega
     rw [e4, e5, toN, toN]
     refine ⟨by omega, by omega, by rw [hb]; omega, ?_⟩
     have hsz : (b.extract (4 * t) (4 * t + 4)).size = 4 := by rw [ByteArray.size_extract, hb]; omega
     refine ⟨by rw [hsz]; exact Nat.le_of_ble_eq_true rfl, ?_⟩
     have hbl : (blk4 b t).length = 4 := by unfold blk4 strB; simp; rw [hb]; omega
     unfold schA at hW
     rw [if_pos h16] at hW
     show F112_L4 K W (b, (t : Int), (t : Int), (((blk4 b t).length : Nat) : Int), 0, zL, wAt b t, blk4 b t, ())
     unfold F112_L4
     refine LoopW.countTo (blk4 b t).length (fun j => (b, (t : Int), (t : Int), (((blk4 b t).length : Nat) : Int), (j : Int), zL, (wAt b t).set t (((blk4 b t).take j).foldl orB ((wAt b t).getD t 0)), blk4 b t, ())) (fun _ => True) (by rw [List.take_zero, List.foldl_nil, set_getD _ _ (by omega)]; rfl) (fun j hj _ W4 hW4 => ?_) trivial
     show F112_B4 K W W4 b t t (((blk4 b t).length : Nat) : Int) j zL ((wAt b t).set t (((blk4 b t).take j).foldl orB ((wAt b t).getD t 0))) (blk4 b t)
     unfold F112_B4
     by_cases hjl : j < (blk4 b t).length
     . rw [lt_true hjl, cond_true]
       simp only [toN]
       have hl2 : t < ((wAt b t).set t (((blk4 b t).take j).foldl orB ((wAt b t).getD t 0))).length := by rw [List.length_set]; omega
       refine ⟨by omega, hjl, atI_of hjl ⟨by omega, by omega, atI_of hl2 ⟨by omega, by omega, by omega, atI_of hl2 ?_⟩⟩⟩
       have := hW4 hjl trivial
       rw [take_snoc hjl, List.foldl_append] at this
       rw [wrapS hjl (by omega), List.set_set, List.getElem_set_self]
       exact this
     . have : j = (blk4 b t).length := by omega
       subst this
       rw [lt_false, cond_false, List.take_length]
       unfold F112_J14
       rw [wI (by omega)]
       exact hW
   . rw [decide_eq_false (show ¬ (t : Int) < 16 by omega), cond_false]
     unfold schA at hW
     rw [if_neg h16] at hW
     have e15 : IntKind.i64.wrap ((t : Int) - 15) = ((t - 15 : Nat) : Int) := by rw [wI (by omega)]; omega
     have e2 : IntKind.i64.wrap ((t : Int) - 2) = ((t - 2 : Nat) : Int) := by rw [wI (by omega)]; omega
     have e7 : IntKind.i64.wrap ((t : Int) - 7) = ((t - 7 : Nat) : Int) := by rw [wI (by omega)]; omega
     have e16 : IntKind.i64.wrap ((t : Int) - 16) = ((t - 16 : Nat) : Int) := by rw [wI (by omega)]; omega
     rw [e15, e2, e7, e16]
     simp only [toN]
     refine ⟨by omega, by omega, atI_of (by omega) ⟨by omega, by omega, atI_of (by omega) ⟨trivial, trivial, by omega, by omega, by omega, atI_of (by omega) ⟨trivial, trivial, by omega, by omega, by omega, atI_of (by omega) ⟨by omega, by omega, atI_of (by omega) ?_⟩⟩⟩⟩⟩
     unfold F112_J14
     unfold schW at hW
     rw [getDn (show t - 2 < (wAt b t).length by omega), getDn (show t - 7 < (wAt b t).length by omega), getDn (show t - 15 < (wAt b t).length by omega), getDn (show t - 16 < (wAt b t).length by omega)] at hW
     rw [wI (by omega)]
     exact hW
 . have : t = 64 := by omega
   subst this
   rw [decide_eq_false (by omega), cond_false]
   exact ⟨by omega, ⟨by omega, by rw [hlen]; rfl⟩, by omega, h⟩
def sp112 : Sp := ⟨S112, L112, fun g => g.1.size = 64, fun g => .al .u32 (schP g.1), fun _ => none⟩
theorem sp112_ok : sp112.Ok Tryz.prog 112 false :=
 ⟨fun g K X hp h => F112_ok g K X (F112_is hp h), fun _ _ _ => rfl, fun _ => rfl, fun h => (by cases h)⟩
end Go.Proofs.YtbglndogddddoaaGreatDoor
namespace Go.Proofs.YtbglndogddddoaaGreatDoor
open Go.RowKit
attribute [local irreducible] dfun dround
set_option maxRecDepth 100000
def H66 : List (Nat × Hint) := [(4, ⟨[((2, []), none), ((4, []), none), ((5, []), none), ((6, []), none)], [(2, .pt 0 0), (4, .pt 1 0), (5, .pa .u32 2), (6, .pa .u32 3), (7, .leaf), (8, .leaf), (9, .leaf), (10, .leaf), (11, .leaf), (12, .leaf), (13, .leaf), (14, .leaf), (39, .leaf)], [.cells [.leaf, .leaf, .leaf, .leaf, .leaf, .leaf, .leaf, .leaf], .cells [.leaf, .leaf, .leaf, .leaf, .leaf, .leaf, .leaf, .leaf], .arr .u32, .arr .u32], [.int .u32, .int .u32, .int .u32, .int .u32, .int .u32, .int .u32, .int .u32, .int .u32, .int .i64, .int .u32, .int .u32, .int .u32, .int .u32, .int .u32, .int .u32, .int .u32, .int .u32, .int .u32, .int .u32, .int .u32, .int .u32, .int .u32, .int .u32, .int .u32, .int .u32, .sl .u32, .sl .u32]⟩), (11, ⟨[], [], [], []⟩), (9000011, ⟨[], [], [], []⟩)]
def J66 : List (Nat × Hint) := []
abbrev S66 : List Sh := [.ag [.leaf, .leaf, .leaf, .leaf, .leaf, .leaf, .leaf, .leaf], .leaf]
abbrev L66 : List Lf := [.int .u32, .int .u32, .int .u32, .int .u32, .int .u32, .int .u32, .int .u32, .int .u32, .str]
def F66_B2 (K : Kn) (W2 : prodL [.int .u32, .int .u32, .int .u32, .int .u32, .int .u32, .int .u32, .int .u32, .int .u32, .int .i64, .int .u32, .int .u32, .int .u32, .int .u32, .int .u32, .int .u32, .int .u32, .int .u32, .int .u32, .int .u32, .int .u32, .int .u32, .int .u32, .int .u32, .int .u32, .int .u32, .sl .u32, .sl .u32] -> Prop) (a_1 b_1 c_1 d_1 e_1 f_1 g_1 h_1 t_1 state1_1 state2_1 state3_1 state4_1 state5_1 state6_1 state7_1 state8_1 t1_1 t2_1 t3_1 t4_1 t5_1 t6_1 t7_1 t8_1 : Int) (w_1 : List Int) (k_1 : List Int) : Prop :=
 bif decide (t_1 < 64) then (
  True /\
 True /\
 True /\
 0 <= t_1 /\ t_1.toNat < 64 /\
 atI k_1 t_1.toNat fun x3 =>
 0 <= t_1 /\ t_1.toNat < 64 /\
 atI w_1 t_1.toNat fun x4 =>
 True /\
 True /\
 True /\
 W2 (IntKind.u32.wrap ((IntKind.u32.wrap ((IntKind.u32.wrap ((IntKind.u32.wrap ((IntKind.u32.wrap (h_1 + (bitsOf .xor .u32 (bitsOf .xor .u32 (rotR e_1 6) (rotR e_1 11)) (rotR e_1 25)))) + (bitsOf .xor .u32 (bitsOf .and .u32 e_1 f_1) (bitsOf .and .u32 (bitsOf .xor .u32 IntKind.u32.max e_1) g_1)))) + x3)) + x4)) + (IntKind.u32.wrap ((bitsOf .xor .u32 (bitsOf .xor .u32 (rotR a_1 2) (rotR a_1 13)) (rotR a_1 22)) + (bitsOf .xor .u32 (bitsOf .xor .u32 (bitsOf .and .u32 a_1 b_1) (bitsOf .and .u32 a_1 c_1)) (bitsOf .and .u32 b_1 c_1))))), a_1, b_1, c_1, IntKind.u32.wrap (d_1 + (IntKind.u32.wrap ((IntKind.u32.wrap ((IntKind.u32.wrap ((IntKind.u32.wrap (h_1 + (bitsOf .xor .u32 (bitsOf .xor .u32 (rotR e_1 6) (rotR e_1 11)) (rotR e_1 25)))) + (bitsOf .xor .u32 (bitsOf .and .u32 e_1 f_1) (bitsOf .and .u32 (bitsOf .xor .u32 IntKind.u32.max e_1) g_1)))) + x3)) + x4))), e_1, f_1, g_1, IntKind.i64.wrap (t_1 + 1), state1_1, state2_1, state3_1, state4_1, state5_1, state6_1, state7_1, state8_1, t1_1, t2_1, t3_1, t4_1, t5_1, t6_1, t7_1, t8_1, w_1, k_1, ()))
 else (
  (0 : Int) <= 0 /\ (0 : Int).toNat < 8 /\
 0 <= (0 : Int) /\ (0 : Int).toNat < 8 /\
 0 <= (0 : Int) /\ (0 : Int).toNat < 8 /\
 (0 : Int) <= 1 /\ (1 : Int).toNat < 8 /\
 0 <= (1 : Int) /\ (1 : Int).toNat < 8 /\
 0 <= (1 : Int) /\ (1 : Int).toNat < 8 /\
 (0 : Int) <= 2 /\ (2 : Int).toNat < 8 /\
 0 <= (2 : Int) /\ (2 : Int).toNat < 8 /\
 0 <= (2 : Int) /\ (2 : Int).toNat < 8 /\
 (0 : Int) <= 3 /\ (3 : Int).toNat < 8 /\
 0 <= (3 : Int) /\ (3 : Int).toNat < 8 /\
 0 <= (3 : Int) /\ (3 : Int).toNat < 8 /\
 (0 : Int) <= 4 /\ (4 : Int).toNat < 8 /\
 0 <= (4 : Int) /\ (4 : Int).toNat < 8 /\
 0 <= (4 : Int) /\ (4 : Int).toNat < 8 /\
 (0 : Int) <= 5 /\ (5 : Int).toNat < 8 /\
 0 <= (5 : Int) /\ (5 : Int).toNat < 8 /\
 0 <= (5 : Int) /\ (5 : Int).toNat < 8 /\
 (0 : Int) <= 6 /\ (6 : Int).toNat < 8 /\
 0 <= (6 : Int) /\ (6 : Int).toNat < 8 /\
 0 <= (6 : Int) /\ (6 : Int).toNat < 8 /\
 (0 : Int) <= 7 /\ (7 : Int).toNat < 8 /\
 0 <= (7 : Int) /\ (7 : Int).toNat < 8 /\
 0 <= (7 : Int) /\ (7 : Int).toNat < 8 /\
 K (.ag [.int .u32 (IntKind.u32.wrap (state1_1 + a_1)), .int .u32 (IntKind.u32.wrap (state2_1 + b_1)), .int .u32 (IntKind.u32.wrap (state3_1 + c_1)), .int .u32 (IntKind.u32.wrap (state4_1 + d_1)), .int .u32 (IntKind.u32.wrap (state5_1 + e_1)), .int .u32 (IntKind.u32.wrap (state6_1 + f_1)), .int .u32 (IntKind.u32.wrap (state7_1 + g_1)), .int .u32 (IntKind.u32.wrap (state8_1 + h_1))]) [])
def F66_L2 (K : Kn) (g : prodL [.int .u32, .int .u32, .int .u32, .int .u32, .int .u32, .int .u32, .int .u32, .int .u32, .int .i64, .int .u32, .int .u32, .int .u32, .int .u32, .int .u32, .int .u32, .int .u32, .int .u32, .int .u32, .int .u32, .int .u32, .int .u32, .int .u32, .int .u32, .int .u32, .int .u32, .sl .u32, .sl .u32]) : Prop :=
 LoopW (γ := prodL [.int .u32, .int .u32, .int .u32, .int .u32, .int .u32, .int .u32, .int .u32, .int .u32, .int .i64, .int .u32, .int .u32, .int .u32, .int .u32, .int .u32, .int .u32, .int .u32, .int .u32, .int .u32, .int .u32, .int .u32, .int .u32, .int .u32, .int .u32, .int .u32, .int .u32, .sl .u32, .sl .u32]) (fun V y => F66_B2 K V y.1 y.2.1 y.2.2.1 y.2.2.2.1 y.2.2.2.2.1 y.2.2.2.2.2.1 y.2.2.2.2.2.2.1 y.2.2.2.2.2.2.2.1 y.2.2.2.2.2.2.2.2.1 y.2.2.2.2.2.2.2.2.2.1 y.2.2.2.2.2.2.2.2.2.2.1 y.2.2.2.2.2.2.2.2.2.2.2.1 y.2.2.2.2.2.2.2.2.2.2.2.2.1 y.2.2.2.2.2.2.2.2.2.2.2.2.2.1 y.2.2.2.2.2.2.2.2.2.2.2.2.2.2.1 y.2.2.2.2.2.2.2.2.2.2.2.2.2.2.2.1 y.2.2.2.2.2.2.2.2.2.2.2.2.2.2.2.2.1 y.2.2.2.2.2.2.2.2.2.2.2.2.2.2.2.2.2.1 y.2.2.2.2.2.2.2.2.2.2.2.2.2.2.2.2.2.2.1 y.2.2.2.2.2.2.2.2.2.2.2.2.2.2.2.2.2.2.2.1 y.2.2.2.2.2.2.2.2.2.2.2.2.2.2.2.2.2.2.2.2.1 y.2.2.2.2.2.2.2.2.2.2.2.2.2.2.2.2.2.2.2.2.2.1 y.2.2.2.2.2.2.2.2.2.2.2.2.2.2.2.2.2.2.2.2.2.2.1 y.2.2.2.2.2.2.2.2.2.2.2.2.2.2.2.2.2.2.2.2.2.2.2.1 y.2.2.2.2.2.2.2.2.2.2.2.2.2.2.2.2.2.2.2.2.2.2.2.2.1 y.2.2.2.2.2.2.2.2.2.2.2.2.2.2.2.2.2.2.2.2.2.2.2.2.2.1 y.2.2.2.2.2.2.2.2.2.2.2.2.2.2.2.2.2.2.2.2.2.2.2.2.2.2.1) g
def F66 (g : prodL L66) (K : Kn) : Prop :=
 sp112.pre (g.2.2.2.2.2.2.2.2.1, ()) /\
 True /\
 Need ((schP g.2.2.2.2.2.2.2.2.1).length * 1 = 64 /\ (schP g.2.2.2.2.2.2.2.2.1).length = (List.replicate 64 (0 : Int)).length) (
 Need (kL.length * 1 = 64 /\ kL.length = (List.replicate 64 (0 : Int)).length) (
 0 <= (0 : Int) /\ (0 : Int).toNat < 8 /\
 0 <= (1 : Int) /\ (1 : Int).toNat < 8 /\
 0 <= (2 : Int) /\ (2 : Int).toNat < 8 /\
 0 <= (3 : Int) /\ (3 : Int).toNat < 8 /\
 0 <= (4 : Int) /\ (4 : Int).toNat < 8 /\
 0 <= (5 : Int) /\ (5 : Int).toNat < 8 /\
 0 <= (6 : Int) /\ (6 : Int).toNat < 8 /\
 0 <= (7 : Int) /\ (7 : Int).toNat < 8 /\
 F66_L2 K (g.1, g.2.1, g.2.2.1, g.2.2.2.1, g.2.2.2.2.1, g.2.2.2.2.2.1, g.2.2.2.2.2.2.1, g.2.2.2.2.2.2.2.1, 0, g.1, g.2.1, g.2.2.1, g.2.2.2.1, g.2.2.2.2.1, g.2.2.2.2.2.1, g.2.2.2.2.2.2.1, g.2.2.2.2.2.2.2.1, 0, 0, 0, 0, 0, 0, 0, 0, schP g.2.2.2.2.2.2.2.2.1, kL, ())))
theorem F66_eq (g : prodL L66) (K X : Kn) : F66 g K = dfun D (gamX [] [(112, false, sp112), (113, false, sp113), (114, true, sp114)]) (isRaw []) H66 J66 123 [.cell 4 101] (codeOf Tryz.f66) (argsT S66 L66 g) [] (settle0 K) X := by kernel_rfl
theorem F66_ok (g : prodL L66) (K X : Kn) (h : F66 g K) : FCalls Tryz.prog 66 (argsT S66 L66 g) [] K X :=
 FCalls.settle0 (dfun_sound D_ok (gmX (gmc sp112_ok (gmc sp113_ok (gmc sp114_ok gm0)))) gamX_det rfl Tryz.func66 (c := codeOf Tryz.f66) rfl Tryz.ntmps66 Tryz.results66 (by unfold enters; rw [Tryz.func66]; kernel_rfl) (Nat.le_of_ble_eq_true (by kernel_rfl)) (c0 := 0) (Eq.mp (F66_eq g K X) h))
end Go.Proofs.YtbglndogddddoaaGreatDoor
namespace Go.Proofs.YtbglndogddddoaaGreatDoor
open Go.RowKit
set_option maxRecDepth 100000
theorem addW_8 (x0 x1 x2 x3 x4 x5 x6 x7 a b c d e f g k : Int) : addW [x0, x1, x2, x3, x4, x5, x6, x7] [a, b, c, d, e, f, g, k] = [IntKind.u32.wrap (x0 + a), IntKind.u32.wrap (x1 + b), IntKind.u32.wrap (x2 + c), IntKind.u32.wrap (x3 + d), IntKind.u32.wrap (x4 + e), IntKind.u32.wrap (x5 + f), IntKind.u32.wrap (x6 + g), IntKind.u32.wrap (x7 + k)] := rfl
theorem rnd_8 (w : List Int) (t : Nat) (a b c d e f g k : Int) : rnd w [a, b, c, d, e, f, g, k] t = [IntKind.u32.wrap (rndT1 w t e f g k + rndT2 a b c), a, b, c, IntKind.u32.wrap (d + rndT1 w t e f g k), e, f, g] := rfl
theorem kL_len : kL.length = 64 := rfl
theorem vAt_zero (w s : List Int) : vAt w s 0 = s := rfl
theorem F66_B2_is {K : Kn} {W : prodL [.int .u32, .int .u32, .int .u32, .int .u32, .int .u32, .int .u32, .int .u32, .int .u32, .int .i64, .int .u32, .int .u32, .int .u32, .int .u32, .int .u32, .int .u32, .int .u32, .int .u32, .int .u32, .int .u32, .int .u32, .int .u32, .int .u32, .int .u32, .int .u32, .int .u32, .sl .u32, .sl .u32] -> Prop}
  {w : List Int} (hw : w.length = 64) {t : Nat} (ht : t < 64) {a b c d e f g k x0 x1 x2 x3 x4 x5 x6 x7 : Int}
  (h : W (IntKind.u32.wrap (rndT1 w t e f g k + rndT2 a b c), a, b, c, IntKind.u32.wrap (d + rndT1 w t e f g k), e, f, g, ((t + 1 : Nat) : Int), x0, x1, x2, x3, x4, x5, x6, x7, 0, 0, 0, 0, 0, 0, 0, 0, w, kL, ())) :
  F66_B2 K W a b c d e f g k t x0 x1 x2 x3 x4 x5 x6 x7 0 0 0 0 0 0 0 0 w kL := by
 have hk := kL_len
 unfold F66_B2
 rw [decide_eq_true (show (t : Int) < 64 by omega), cond_true]
 unfold rndT1 rndT2 at h
 rw [getDn (show t < kL.length by omega), getDn (show t < w.length by omega)] at h
 simp only [toN]
 rw [wI (by omega)]
 exact ⟨trivial, trivial, trivial, by omega, by omega, atI_of (show t < kL.length by omega) ⟨by omega, by omega, atI_of (show t < w.length by omega) ⟨trivial, trivial, trivial, h⟩⟩⟩
theorem F66_B2_end {K : Kn} {W : prodL [.int .u32, .int .u32, .int .u32, .int .u32, .int .u32, .int .u32, .int .u32, .int .u32, .int .i64, .int .u32, .int .u32, .int .u32, .int .u32, .int .u32, .int .u32, .int .u32, .int .u32, .int .u32, .int .u32, .int .u32, .int .u32, .int .u32, .int .u32, .int .u32, .int .u32, .sl .u32, .sl .u32] -> Prop}
  {w l : List Int} {a b c d e f g k x0 x1 x2 x3 x4 x5 x6 x7 : Int}
  (h : K (.ag [.int .u32 (IntKind.u32.wrap (x0 + a)), .int .u32 (IntKind.u32.wrap (x1 + b)), .int .u32 (IntKind.u32.wrap (x2 + c)), .int .u32 (IntKind.u32.wrap (x3 + d)), .int .u32 (IntKind.u32.wrap (x4 + e)), .int .u32 (IntKind.u32.wrap (x5 + f)), .int .u32 (IntKind.u32.wrap (x6 + g)), .int .u32 (IntKind.u32.wrap (x7 + k))]) []) :
  F66_B2 K W a b c d e f g k 64 x0 x1 x2 x3 x4 x5 x6 x7 0 0 0 0 0 0 0 0 w l := by
 unfold F66_B2
 rw [decide_eq_false (by omega), cond_false]
 repeat (refine And.intro (by decide) ?_)
 exact h
theorem F66_L2_is {w : List Int} (hw : w.length = 64) {x0 x1 x2 x3 x4 x5 x6 x7 : Int} {K : Kn} (h : K (.ag [.int .u32 ((addW [x0, x1, x2, x3, x4, x5, x6, x7] (vAt w [x0, x1, x2, x3, x4, x5, x6, x7] 64)).getD 0 0), .int .u32 ((addW [x0, x1, x2, x3, x4, x5, x6, x7] (vAt w [x0, x1, x2, x3, x4, x5, x6, x7] 64)).getD 1 0), .int .u32 ((addW [x0, x1, x2, x3, x4, x5, x6, x7] (vAt w [x0, x1, x2, x3, x4, x5, x6, x7] 64)).getD 2 0), .int .u32 ((addW [x0, x1, x2, x3, x4, x5, x6, x7] (vAt w [x0, x1, x2, x3, x4, x5, x6, x7] 64)).getD 3 0), .int .u32 ((addW [x0, x1, x2, x3, x4, x5, x6, x7] (vAt w [x0, x1, x2, x3, x4, x5, x6, x7] 64)).getD 4 0), .int .u32 ((addW [x0, x1, x2, x3, x4, x5, x6, x7] (vAt w [x0, x1, x2, x3, x4, x5, x6, x7] 64)).getD 5 0), .int .u32 ((addW [x0, x1, x2, x3, x4, x5, x6, x7] (vAt w [x0, x1, x2, x3, x4, x5, x6, x7] 64)).getD 6 0), .int .u32 ((addW [x0, x1, x2, x3, x4, x5, x6, x7] (vAt w [x0, x1, x2, x3, x4, x5, x6, x7] 64)).getD 7 0)]) []) :
  F66_L2 K (x0, x1, x2, x3, x4, x5, x6, x7, 0, x0, x1, x2, x3, x4, x5, x6, x7, 0, 0, 0, 0, 0, 0, 0, 0, w, kL, ()) := by
 have hs : [x0, x1, x2, x3, x4, x5, x6, x7].length = 8 := rfl
 have key : ∀ t, (vAt w [x0, x1, x2, x3, x4, x5, x6, x7] t).length = 8 := vAt_len w hs
 have hz := vAt_zero w [x0, x1, x2, x3, x4, x5, x6, x7]
 have hsu := vAt_succ w [x0, x1, x2, x3, x4, x5, x6, x7]
 generalize vAt w [x0, x1, x2, x3, x4, x5, x6, x7] = v at h key hz hsu
 unfold F66_L2
 refine LoopW.countTo 64 (fun t => ((v t).getD 0 0, (v t).getD 1 0, (v t).getD 2 0, (v t).getD 3 0, (v t).getD 4 0, (v t).getD 5 0, (v t).getD 6 0, (v t).getD 7 0, (t : Int), x0, x1, x2, x3, x4, x5, x6, x7, 0, 0, 0, 0, 0, 0, 0, 0, w, kL, ())) (fun _ => True) (by rw [hz]; rfl) (fun t ht _ W hW => ?_) trivial
 obtain ⟨a, b, c, d, e, f, g, k, hv⟩ := eight (key t)
 by_cases hlt : t < 64
 . have hW := hW hlt trivial
   rw [hsu, hv, rnd_8] at hW
   rw [hv]
   exact F66_B2_is hw hlt hW
 . have : t = 64 := by omega
   subst this
   rw [hv, addW_8] at h
   rw [hv]
   exact F66_B2_end h
theorem F66_is {x0 x1 x2 x3 x4 x5 x6 x7 : Int} {b : ByteArray} {K : Kn} (hb : b.size = 64) (h : K (.ag [.int .u32 ((compP [x0, x1, x2, x3, x4, x5, x6, x7] b).getD 0 0), .int .u32 ((compP [x0, x1, x2, x3, x4, x5, x6, x7] b).getD 1 0), .int .u32 ((compP [x0, x1, x2, x3, x4, x5, x6, x7] b).getD 2 0), .int .u32 ((compP [x0, x1, x2, x3, x4, x5, x6, x7] b).getD 3 0), .int .u32 ((compP [x0, x1, x2, x3, x4, x5, x6, x7] b).getD 4 0), .int .u32 ((compP [x0, x1, x2, x3, x4, x5, x6, x7] b).getD 5 0), .int .u32 ((compP [x0, x1, x2, x3, x4, x5, x6, x7] b).getD 6 0), .int .u32 ((compP [x0, x1, x2, x3, x4, x5, x6, x7] b).getD 7 0)]) []) : F66 (x0, x1, x2, x3, x4, x5, x6, x7, b, ()) K := by
 have hw : (schP b).length = 64 := wAt_len b 64
 unfold compP at h
 unfold F66
 refine ⟨hb, trivial, ?_⟩
 dsimp only
 generalize schP b = w at hw h ⊢
 refine ⟨⟨by omega, by rw [hw]; rfl⟩, ⟨rfl, rfl⟩, ?_⟩
 repeat (refine And.intro (by decide) ?_)
 exact F66_L2_is hw h
def sp66 : Sp := ⟨S66, L66, fun g => g.2.2.2.2.2.2.2.2.1.size = 64, fun g => .ag [.int .u32 ((compP [g.1, g.2.1, g.2.2.1, g.2.2.2.1, g.2.2.2.2.1, g.2.2.2.2.2.1, g.2.2.2.2.2.2.1, g.2.2.2.2.2.2.2.1] g.2.2.2.2.2.2.2.2.1).getD 0 0), .int .u32 ((compP [g.1, g.2.1, g.2.2.1, g.2.2.2.1, g.2.2.2.2.1, g.2.2.2.2.2.1, g.2.2.2.2.2.2.1, g.2.2.2.2.2.2.2.1] g.2.2.2.2.2.2.2.2.1).getD 1 0), .int .u32 ((compP [g.1, g.2.1, g.2.2.1, g.2.2.2.1, g.2.2.2.2.1, g.2.2.2.2.2.1, g.2.2.2.2.2.2.1, g.2.2.2.2.2.2.2.1] g.2.2.2.2.2.2.2.2.1).getD 2 0), .int .u32 ((compP [g.1, g.2.1, g.2.2.1, g.2.2.2.1, g.2.2.2.2.1, g.2.2.2.2.2.1, g.2.2.2.2.2.2.1, g.2.2.2.2.2.2.2.1] g.2.2.2.2.2.2.2.2.1).getD 3 0), .int .u32 ((compP [g.1, g.2.1, g.2.2.1, g.2.2.2.1, g.2.2.2.2.1, g.2.2.2.2.2.1, g.2.2.2.2.2.2.1, g.2.2.2.2.2.2.2.1] g.2.2.2.2.2.2.2.2.1).getD 4 0), .int .u32 ((compP [g.1, g.2.1, g.2.2.1, g.2.2.2.1, g.2.2.2.2.1, g.2.2.2.2.2.1, g.2.2.2.2.2.2.1, g.2.2.2.2.2.2.2.1] g.2.2.2.2.2.2.2.2.1).getD 5 0), .int .u32 ((compP [g.1, g.2.1, g.2.2.1, g.2.2.2.1, g.2.2.2.2.1, g.2.2.2.2.2.1, g.2.2.2.2.2.2.1, g.2.2.2.2.2.2.2.1] g.2.2.2.2.2.2.2.2.1).getD 6 0), .int .u32 ((compP [g.1, g.2.1, g.2.2.1, g.2.2.2.1, g.2.2.2.2.1, g.2.2.2.2.2.1, g.2.2.2.2.2.2.1, g.2.2.2.2.2.2.2.1] g.2.2.2.2.2.2.2.2.1).getD 7 0)], fun _ => none⟩
theorem sp66_ok : sp66.Ok Tryz.prog 66 true :=
 ⟨fun g K X hp h => F66_ok g K X (F66_is hp h), fun _ _ _ => rfl, fun _ => rfl, fun _ _ => ⟨rfl, rfl⟩⟩
end Go.Proofs.YtbglndogddddoaaGreatDoor
namespace Go.Proofs.YtbglndogddddoaaGreatDoor
open Go.RowKit
attribute [local irreducible] dfun dround
set_option maxRecDepth 100000
def H1033004 : List (Nat × Hint) := []
def J1033004 : List (Nat × Hint) := []
abbrev S1033004 : List Sh := [.leaf, .pt 0 0]
abbrev L1033004 : List Lf := [.str, .int .u32, .int .u32, .int .u32, .int .u32, .int .u32, .int .u32, .int .u32, .int .u32]
abbrev O1033004 : List ObSh := [.cells [.leaf, .leaf, .leaf, .leaf, .leaf, .leaf, .leaf, .leaf]]
def F1033004 (g : prodL L1033004) (K : Kn) : Prop :=
 sp66.pre (g.2.1, g.2.2.1, g.2.2.2.1, g.2.2.2.2.1, g.2.2.2.2.2.1, g.2.2.2.2.2.2.1, g.2.2.2.2.2.2.2.1, g.2.2.2.2.2.2.2.2.1, g.1, ()) /\
 K (.bool true) [some (.cells [.int .u32 ((compP [g.2.1, g.2.2.1, g.2.2.2.1, g.2.2.2.2.1, g.2.2.2.2.2.1, g.2.2.2.2.2.2.1, g.2.2.2.2.2.2.2.1, g.2.2.2.2.2.2.2.2.1] g.1).getD 0 0), .int .u32 ((compP [g.2.1, g.2.2.1, g.2.2.2.1, g.2.2.2.2.1, g.2.2.2.2.2.1, g.2.2.2.2.2.2.1, g.2.2.2.2.2.2.2.1, g.2.2.2.2.2.2.2.2.1] g.1).getD 1 0), .int .u32 ((compP [g.2.1, g.2.2.1, g.2.2.2.1, g.2.2.2.2.1, g.2.2.2.2.2.1, g.2.2.2.2.2.2.1, g.2.2.2.2.2.2.2.1, g.2.2.2.2.2.2.2.2.1] g.1).getD 2 0), .int .u32 ((compP [g.2.1, g.2.2.1, g.2.2.2.1, g.2.2.2.2.1, g.2.2.2.2.2.1, g.2.2.2.2.2.2.1, g.2.2.2.2.2.2.2.1, g.2.2.2.2.2.2.2.2.1] g.1).getD 3 0), .int .u32 ((compP [g.2.1, g.2.2.1, g.2.2.2.1, g.2.2.2.2.1, g.2.2.2.2.2.1, g.2.2.2.2.2.2.1, g.2.2.2.2.2.2.2.1, g.2.2.2.2.2.2.2.2.1] g.1).getD 4 0), .int .u32 ((compP [g.2.1, g.2.2.1, g.2.2.2.1, g.2.2.2.2.1, g.2.2.2.2.2.1, g.2.2.2.2.2.2.1, g.2.2.2.2.2.2.2.1, g.2.2.2.2.2.2.2.2.1] g.1).getD 5 0), .int .u32 ((compP [g.2.1, g.2.2.1, g.2.2.2.1, g.2.2.2.2.1, g.2.2.2.2.2.1, g.2.2.2.2.2.2.1, g.2.2.2.2.2.2.2.1, g.2.2.2.2.2.2.2.2.1] g.1).getD 6 0), .int .u32 ((compP [g.2.1, g.2.2.1, g.2.2.2.1, g.2.2.2.2.1, g.2.2.2.2.2.1, g.2.2.2.2.2.2.1, g.2.2.2.2.2.2.2.1, g.2.2.2.2.2.2.2.2.1] g.1).getD 7 0)])]
theorem F1033004_eq (g : prodL L1033004) (K : Kn) : F1033004 g K = dround D (gamX [] [(66, true, sp66)]) (isRaw []) H1033004 J1033004 (rdAt Tryz.prog 1033004) [3] (argsT S1033004 L1033004 g) (storeT S1033004 O1033004 L1033004 g) (settleD (storeT S1033004 O1033004 L1033004 g).length 0 K) 0 := by kernel_rfl
theorem F1033004_ok (g : prodL L1033004) (K X : Kn) (h : F1033004 g K) : FCalls Tryz.prog 1033004 (argsT S1033004 L1033004 g) (storeT S1033004 O1033004 L1033004 g) K X 0 :=
 FCalls.settleD (dround_ok (Γ := gamX [] [(66, true, sp66)]) (mu := isRaw []) (H := H1033004) (J := J1033004) D_ok (gamX_ok (rs := []) (l := [(66, true, sp66)]) (fun p hp => by cases hp) (by intro p hp; simp only [List.mem_cons, List.not_mem_nil, or_false] at hp; subst hp; exact sp66_ok)) gamX_det rfl (yi := ⟨33, 4, [3]⟩) rfl (by kernel_rfl) (by kernel_rfl) (by kernel_rfl) (by rw [F1033004_eq g K] at h; exact h))
def rw1033004 : Raw := ⟨S1033004, O1033004, L1033004, 0, fun g K _ => F1033004 g K⟩
theorem rw1033004_ok : rw1033004.Ok Tryz.prog 1033004 := fun g K X h => F1033004_ok g K X h
def H111 : List (Nat × Hint) := [(2, ⟨[], [(0, .fn 1033004 [] [.pt 0 0]), (1, .leaf), (3, .leaf), (4, .leaf)], [.cells [.leaf, .leaf, .leaf, .leaf, .leaf, .leaf, .leaf, .leaf]], [.pr .str, .int .i64, .int .i64, .int .u32, .int .u32, .int .u32, .int .u32, .int .u32, .int .u32, .int .u32, .int .u32]⟩), (6, ⟨[((5, []), none)], [(0, .fn 1033004 [] [.pt 0 0]), (1, .leaf), (5, .oa .u8 1)], [.cells [.leaf, .leaf, .leaf, .leaf, .leaf, .leaf, .leaf, .leaf], .arr .u8], [.pr .str, .int .u32, .int .u32, .int .u32, .int .u32, .int .u32, .int .u32, .int .u32, .int .u32, .sl .u8]⟩), (9, ⟨[((5, []), none)], [(0, .fn 1033004 [] [.pt 0 0]), (1, .leaf), (5, .oa .u8 1), (6, .leaf)], [.cells [.leaf, .leaf, .leaf, .leaf, .leaf, .leaf, .leaf, .leaf], .arr .u8], [.pr .str, .int .i64, .int .u32, .int .u32, .int .u32, .int .u32, .int .u32, .int .u32, .int .u32, .int .u32, .sl .u8]⟩), (13, ⟨[((5, []), none)], [(0, .fn 1033004 [] [.pt 0 0]), (5, .oa .u8 1), (7, .leaf)], [.cells [.leaf, .leaf, .leaf, .leaf, .leaf, .leaf, .leaf, .leaf], .arr .u8], [.int .i64, .int .u32, .int .u32, .int .u32, .int .u32, .int .u32, .int .u32, .int .u32, .int .u32, .sl .u8]⟩)]
def J111 : List (Nat × Hint) := []
abbrev S111 : List Sh := [.fn 1033004 [] [.pt 0 0], .leaf]
abbrev L111 : List Lf := [.pr .str, .int .u32, .int .u32, .int .u32, .int .u32, .int .u32, .int .u32, .int .u32, .int .u32]
abbrev O111 : List ObSh := [.cells [.leaf, .leaf, .leaf, .leaf, .leaf, .leaf, .leaf, .leaf]]
def F111_B9 (K : Kn) (W9 : prodL [.int .i64, .int .u32, .int .u32, .int .u32, .int .u32, .int .u32, .int .u32, .int .u32, .int .u32, .sl .u8] -> Prop) (i_8 o01_8 o02_8 o03_8 o04_8 o05_8 o06_8 o07_8 o08_8 : Int) (last_8 : List Int) : Prop :=
 bif decide (i_8 < (last_8.length : Int)) then (
  (0 : Int) <= i_8 /\ i_8 <= IntKind.i64.wrap (i_8 + 64) /\ IntKind.i64.wrap (i_8 + 64) <= (last_8.length : Int) /\
 let g10 : prodL [.str, .int .u32, .int .u32, .int .u32, .int .u32, .int .u32, .int .u32, .int .u32, .int .u32] := (bStr ((last_8.drop i_8.toNat).take ((IntKind.i64.wrap (i_8 + 64)).toNat - i_8.toNat)), o01_8, o02_8, o03_8, o04_8, o05_8, o06_8, o07_8, o08_8, ());
 sp66.pre (g10.2.1, g10.2.2.1, g10.2.2.2.1, g10.2.2.2.2.1, g10.2.2.2.2.2.1, g10.2.2.2.2.2.2.1, g10.2.2.2.2.2.2.2.1, g10.2.2.2.2.2.2.2.2.1, g10.1, ()) /\
 W9 (IntKind.i64.wrap (i_8 + 64), (compP [g10.2.1, g10.2.2.1, g10.2.2.2.1, g10.2.2.2.2.1, g10.2.2.2.2.2.1, g10.2.2.2.2.2.2.1, g10.2.2.2.2.2.2.2.1, g10.2.2.2.2.2.2.2.2.1] g10.1).getD 0 0, (compP [g10.2.1, g10.2.2.1, g10.2.2.2.1, g10.2.2.2.2.1, g10.2.2.2.2.2.1, g10.2.2.2.2.2.2.1, g10.2.2.2.2.2.2.2.1, g10.2.2.2.2.2.2.2.2.1] g10.1).getD 1 0, (compP [g10.2.1, g10.2.2.1, g10.2.2.2.1, g10.2.2.2.2.1, g10.2.2.2.2.2.1, g10.2.2.2.2.2.2.1, g10.2.2.2.2.2.2.2.1, g10.2.2.2.2.2.2.2.2.1] g10.1).getD 2 0, (compP [g10.2.1, g10.2.2.1, g10.2.2.2.1, g10.2.2.2.2.1, g10.2.2.2.2.2.1, g10.2.2.2.2.2.2.1, g10.2.2.2.2.2.2.2.1, g10.2.2.2.2.2.2.2.2.1] g10.1).getD 3 0, (compP [g10.2.1, g10.2.2.1, g10.2.2.2.1, g10.2.2.2.2.1, g10.2.2.2.2.2.1, g10.2.2.2.2.2.2.1, g10.2.2.2.2.2.2.2.1, g10.2.2.2.2.2.2.2.2.1] g10.1).getD 4 0, (compP [g10.2.1, g10.2.2.1, g10.2.2.2.1, g10.2.2.2.2.1, g10.2.2.2.2.2.1, g10.2.2.2.2.2.2.1, g10.2.2.2.2.2.2.2.1, g10.2.2.2.2.2.2.2.2.1] g10.1).getD 5 0, (compP [g10.2.1, g10.2.2.1, g10.2.2.2.1, g10.2.2.2.2.1, g10.2.2.2.2.2.1, g10.2.2.2.2.2.2.1, g10.2.2.2.2.2.2.2.1, g10.2.2.2.2.2.2.2.2.1] g10.1).getD 6 0, (compP [g10.2.1, g10.2.2.1, g10.2.2.2.1, g10.2.2.2.2.1, g10.2.2.2.2.2.1, g10.2.2.2.2.2.2.1, g10.2.2.2.2.2.2.2.1, g10.2.2.2.2.2.2.2.2.1] g10.1).getD 7 0, last_8, ()))
 else (
  K (.tu []) [some (.cells [.int .u32 o01_8, .int .u32 o02_8, .int .u32 o03_8, .int .u32 o04_8, .int .u32 o05_8, .int .u32 o06_8, .int .u32 o07_8, .int .u32 o08_8])])
def F111_L9 (K : Kn) (g : prodL [.int .i64, .int .u32, .int .u32, .int .u32, .int .u32, .int .u32, .int .u32, .int .u32, .int .u32, .sl .u8]) : Prop :=
 LoopW (γ := prodL [.int .i64, .int .u32, .int .u32, .int .u32, .int .u32, .int .u32, .int .u32, .int .u32, .int .u32, .sl .u8]) (fun V y => F111_B9 K V y.1 y.2.1 y.2.2.1 y.2.2.2.1 y.2.2.2.2.1 y.2.2.2.2.2.1 y.2.2.2.2.2.2.1 y.2.2.2.2.2.2.2.1 y.2.2.2.2.2.2.2.2.1 y.2.2.2.2.2.2.2.2.2.1) g
def F111_B7 (K : Kn) (W7 : prodL [.pr .str, .int .i64, .int .u32, .int .u32, .int .u32, .int .u32, .int .u32, .int .u32, .int .u32, .int .u32, .sl .u8] -> Prop) (t_6 : ByteArray) (i_6 o01_6 o02_6 o03_6 o04_6 o05_6 o06_6 o07_6 o08_6 : Int) (last_6 : List Int) : Prop :=
 bif decide (0 <= i_6) then (
  (0 : Int) <= i_6 /\
 Room (last_6.length + [IntKind.u8.wrap (Int.fdiv (IntKind.u64.wrap ((IntKind.u64.wrap (t_6.size : Int)) * 8)) (2 ^ (min i_6.toNat IntKind.u64.bits)))].length) 1 (
 W7 (t_6, IntKind.i64.wrap (i_6 - 8), o01_6, o02_6, o03_6, o04_6, o05_6, o06_6, o07_6, o08_6, last_6 ++ [IntKind.u8.wrap (Int.fdiv (IntKind.u64.wrap ((IntKind.u64.wrap (t_6.size : Int)) * 8)) (2 ^ (min i_6.toNat IntKind.u64.bits)))], ())))
 else (
  F111_L9 K (0, o01_6, o02_6, o03_6, o04_6, o05_6, o06_6, o07_6, o08_6, last_6, ()))
def F111_L7 (K : Kn) (g : prodL [.pr .str, .int .i64, .int .u32, .int .u32, .int .u32, .int .u32, .int .u32, .int .u32, .int .u32, .int .u32, .sl .u8]) : Prop :=
 LoopW (γ := prodL [.pr .str, .int .i64, .int .u32, .int .u32, .int .u32, .int .u32, .int .u32, .int .u32, .int .u32, .int .u32, .sl .u8]) (fun V y => F111_B7 K V y.1 y.2.1 y.2.2.1 y.2.2.2.1 y.2.2.2.2.1 y.2.2.2.2.2.1 y.2.2.2.2.2.2.1 y.2.2.2.2.2.2.2.1 y.2.2.2.2.2.2.2.2.1 y.2.2.2.2.2.2.2.2.2.1 y.2.2.2.2.2.2.2.2.2.2.1) g
def F111_B5 (K : Kn) (W5 : prodL [.pr .str, .int .u32, .int .u32, .int .u32, .int .u32, .int .u32, .int .u32, .int .u32, .int .u32, .sl .u8] -> Prop) (t_4 : ByteArray) (o01_4 o02_4 o03_4 o04_4 o05_4 o06_4 o07_4 o08_4 : Int) (last_4 : List Int) : Prop :=
 ¬ 64 = (0 : Int) /\
 bif !decide (Int.tmod (last_4.length : Int) 64 = 56) then (
  Room (last_4.length + [0].length) 1 (
 W5 (t_4, o01_4, o02_4, o03_4, o04_4, o05_4, o06_4, o07_4, o08_4, last_4 ++ [0], ())))
 else (
  F111_L7 K (t_4, 56, o01_4, o02_4, o03_4, o04_4, o05_4, o06_4, o07_4, o08_4, last_4, ()))
def F111_L5 (K : Kn) (g : prodL [.pr .str, .int .u32, .int .u32, .int .u32, .int .u32, .int .u32, .int .u32, .int .u32, .int .u32, .sl .u8]) : Prop :=
 LoopW (γ := prodL [.pr .str, .int .u32, .int .u32, .int .u32, .int .u32, .int .u32, .int .u32, .int .u32, .int .u32, .sl .u8]) (fun V y => F111_B5 K V y.1 y.2.1 y.2.2.1 y.2.2.2.1 y.2.2.2.2.1 y.2.2.2.2.2.1 y.2.2.2.2.2.2.1 y.2.2.2.2.2.2.2.1 y.2.2.2.2.2.2.2.2.1 y.2.2.2.2.2.2.2.2.2.1) g
def F111_B2 (K : Kn) (W2 : prodL [.pr .str, .int .i64, .int .i64, .int .u32, .int .u32, .int .u32, .int .u32, .int .u32, .int .u32, .int .u32, .int .u32] -> Prop) (t_1 : ByteArray) (whole_1 i_1 o01_1 o02_1 o03_1 o04_1 o05_1 o06_1 o07_1 o08_1 : Int) : Prop :=
 bif decide (i_1 < whole_1) then (
  (0 : Int) <= i_1 /\ i_1 <= IntKind.i64.wrap (i_1 + 64) /\ IntKind.i64.wrap (i_1 + 64) <= (t_1.size : Int) /\
 let g3 : prodL [.str, .int .u32, .int .u32, .int .u32, .int .u32, .int .u32, .int .u32, .int .u32, .int .u32] := (t_1.extract i_1.toNat (IntKind.i64.wrap (i_1 + 64)).toNat, o01_1, o02_1, o03_1, o04_1, o05_1, o06_1, o07_1, o08_1, ());
 sp66.pre (g3.2.1, g3.2.2.1, g3.2.2.2.1, g3.2.2.2.2.1, g3.2.2.2.2.2.1, g3.2.2.2.2.2.2.1, g3.2.2.2.2.2.2.2.1, g3.2.2.2.2.2.2.2.2.1, g3.1, ()) /\
 W2 (t_1, whole_1, IntKind.i64.wrap (i_1 + 64), (compP [g3.2.1, g3.2.2.1, g3.2.2.2.1, g3.2.2.2.2.1, g3.2.2.2.2.2.1, g3.2.2.2.2.2.2.1, g3.2.2.2.2.2.2.2.1, g3.2.2.2.2.2.2.2.2.1] g3.1).getD 0 0, (compP [g3.2.1, g3.2.2.1, g3.2.2.2.1, g3.2.2.2.2.1, g3.2.2.2.2.2.1, g3.2.2.2.2.2.2.1, g3.2.2.2.2.2.2.2.1, g3.2.2.2.2.2.2.2.2.1] g3.1).getD 1 0, (compP [g3.2.1, g3.2.2.1, g3.2.2.2.1, g3.2.2.2.2.1, g3.2.2.2.2.2.1, g3.2.2.2.2.2.2.1, g3.2.2.2.2.2.2.2.1, g3.2.2.2.2.2.2.2.2.1] g3.1).getD 2 0, (compP [g3.2.1, g3.2.2.1, g3.2.2.2.1, g3.2.2.2.2.1, g3.2.2.2.2.2.1, g3.2.2.2.2.2.2.1, g3.2.2.2.2.2.2.2.1, g3.2.2.2.2.2.2.2.2.1] g3.1).getD 3 0, (compP [g3.2.1, g3.2.2.1, g3.2.2.2.1, g3.2.2.2.2.1, g3.2.2.2.2.2.1, g3.2.2.2.2.2.2.1, g3.2.2.2.2.2.2.2.1, g3.2.2.2.2.2.2.2.2.1] g3.1).getD 4 0, (compP [g3.2.1, g3.2.2.1, g3.2.2.2.1, g3.2.2.2.2.1, g3.2.2.2.2.2.1, g3.2.2.2.2.2.2.1, g3.2.2.2.2.2.2.2.1, g3.2.2.2.2.2.2.2.2.1] g3.1).getD 5 0, (compP [g3.2.1, g3.2.2.1, g3.2.2.2.1, g3.2.2.2.2.1, g3.2.2.2.2.2.1, g3.2.2.2.2.2.2.1, g3.2.2.2.2.2.2.2.1, g3.2.2.2.2.2.2.2.2.1] g3.1).getD 6 0, (compP [g3.2.1, g3.2.2.1, g3.2.2.2.1, g3.2.2.2.2.1, g3.2.2.2.2.2.1, g3.2.2.2.2.2.2.1, g3.2.2.2.2.2.2.2.1, g3.2.2.2.2.2.2.2.2.1] g3.1).getD 7 0, ()))
 else (
  (0 : Int) <= whole_1 /\ whole_1 <= (t_1.size : Int) /\ (t_1.size : Int) <= (t_1.size : Int) /\
 Room (t_1.extract whole_1.toNat (t_1.size : Int).toNat).size 1 (
 Room ((strB (t_1.extract whole_1.toNat (t_1.size : Int).toNat)).length + [128].length) 1 (
 F111_L5 K (t_1, o01_1, o02_1, o03_1, o04_1, o05_1, o06_1, o07_1, o08_1, (strB (t_1.extract whole_1.toNat (t_1.size : Int).toNat)) ++ [128], ()))))
def F111_L2 (K : Kn) (g : prodL [.pr .str, .int .i64, .int .i64, .int .u32, .int .u32, .int .u32, .int .u32, .int .u32, .int .u32, .int .u32, .int .u32]) : Prop :=
 LoopW (γ := prodL [.pr .str, .int .i64, .int .i64, .int .u32, .int .u32, .int .u32, .int .u32, .int .u32, .int .u32, .int .u32, .int .u32]) (fun V y => F111_B2 K V y.1 y.2.1 y.2.2.1 y.2.2.2.1 y.2.2.2.2.1 y.2.2.2.2.2.1 y.2.2.2.2.2.2.1 y.2.2.2.2.2.2.2.1 y.2.2.2.2.2.2.2.2.1 y.2.2.2.2.2.2.2.2.2.1 y.2.2.2.2.2.2.2.2.2.2.1) g
def F111 (g : prodL L111) (K : Kn) : Prop :=
 ¬ 64 = (0 : Int) /\
 F111_L2 K (g.1, IntKind.i64.wrap ((IntKind.i64.wrap (Int.tdiv (g.1.size : Int) 64)) * 64), 0, g.2.1, g.2.2.1, g.2.2.2.1, g.2.2.2.2.1, g.2.2.2.2.2.1, g.2.2.2.2.2.2.1, g.2.2.2.2.2.2.2.1, g.2.2.2.2.2.2.2.2.1, ())
theorem F111_eq (g : prodL L111) (K X : Kn) : F111 g K = dfun D (gamX [(1033004, rw1033004)] []) (isRaw [(1033004, rw1033004)]) H111 J111 67 [] (codeOf Tryz.f111) (argsT S111 L111 g) (storeT S111 O111 L111 g) (settleD (storeT S111 O111 L111 g).length 0 K) X 0 := by kernel_rfl
theorem F111_ok (g : prodL L111) (K X : Kn) (h : F111 g K) : FCalls Tryz.prog 111 (argsT S111 L111 g) (storeT S111 O111 L111 g) K X 0 :=
 FCalls.settleD (dfun_sound (Γ := gamX [(1033004, rw1033004)] []) (mu := isRaw [(1033004, rw1033004)]) (H := H111) (J := J111) D_ok (gamX_ok (rs := [(1033004, rw1033004)]) (l := []) (by intro p hp; simp only [List.mem_cons, List.not_mem_nil, or_false] at hp; subst hp; exact rw1033004_ok) (fun p hp => by cases hp)) gamX_det rfl Tryz.func111 (c := codeOf Tryz.f111) rfl Tryz.ntmps111 (rs := []) Tryz.results111 (by unfold enters; rw [Tryz.func111]; kernel_rfl) (Nat.le_of_ble_eq_true (by kernel_rfl)) (X := X) (c0 := 0) (Eq.mp (F111_eq g K X) h))
end Go.Proofs.YtbglndogddddoaaGreatDoor
namespace Go.Proofs.YtbglndogddddoaaGreatDoor
open Go.RowKit
set_option maxRecDepth 100000
def vA (st : List Int) (l : List ByteArray) (n : Nat) : List Int := (l.take n).foldl compP st
theorem vA_zero (st : List Int) (l : List ByteArray) : vA st l 0 = st := by simp [vA]
theorem vA_succ (st : List Int) {l : List ByteArray} {n : Nat} (h : n < l.length) : vA st l (n + 1) = compP (vA st l n) l[n] := by
 unfold vA
 rw [take_snoc h, List.foldl_append]; rfl
theorem vA_len {st : List Int} (h : st.length = 8) (l : List ByteArray) (n : Nat) : (vA st l n).length = 8 := foldl_len h
theorem vA_all (st : List Int) (l : List ByteArray) : vA st l l.length = l.foldl compP st := by unfold vA; rw [List.take_length]
theorem bStr_size (l : List Int) : (bStr l).size = l.length := by
 show (l.map fun n => UInt8.ofNat n.toNat).toArray.size = _
 simp
theorem strB_cut (s : ByteArray) (a b : Nat) (hb : b <= s.size) : (strB (s.extract a b)).length = b - a := by
 rw [strB_len, ByteArray.size_extract]; omega
theorem endL_len (s : ByteArray) : (endL s).length = s.size % 64 + 1 := by
 unfold endL
 rw [List.length_append, strB_cut _ _ _ (Nat.le_refl _), List.length_singleton]; omega
theorem padL_len (s : ByteArray) : (padL s).length % 64 = 56 /\ (padL s).length <= 130 := by
 unfold padL
 rw [List.length_append, List.length_replicate, endL_len]
 unfold padN
 omega
theorem lastL_len (s : ByteArray) : (lastL s).length % 64 = 0 /\ (lastL s).length <= 138 := by
 have := padL_len s
 unfold lastL
 rw [List.length_append, List.length_map, List.length_range]
 omega
theorem F111_L9_is {x0 x1 x2 x3 x4 x5 x6 x7 : Int} {last : List Int} {K : Kn} (h1 : last.length % 64 = 0) (h2 : last.length <= 1000) (h : K (.tu []) [some (.cells [.int .u32 ((((List.range (last.length / 64)).map (blkZ last)).foldl compP [x0, x1, x2, x3, x4, x5, x6, x7]).getD 0 0), .int .u32 ((((List.range (last.length / 64)).map (blkZ last)).foldl compP [x0, x1, x2, x3, x4, x5, x6, x7]).getD 1 0), .int .u32 ((((List.range (last.length / 64)).map (blkZ last)).foldl compP [x0, x1, x2, x3, x4, x5, x6, x7]).getD 2 0), .int .u32 ((((List.range (last.length / 64)).map (blkZ last)).foldl compP [x0, x1, x2, x3, x4, x5, x6, x7]).getD 3 0), .int .u32 ((((List.range (last.length / 64)).map (blkZ last)).foldl compP [x0, x1, x2, x3, x4, x5, x6, x7]).getD 4 0), .int .u32 ((((List.range (last.length / 64)).map (blkZ last)).foldl compP [x0, x1, x2, x3, x4, x5, x6, x7]).getD 5 0), .int .u32 ((((List.range (last.length / 64)).map (blkZ last)).foldl compP [x0, x1, x2, x3, x4, x5, x6, x7]).getD 6 0), .int .u32 ((((List.range (last.length / 64)).map (blkZ last)).foldl compP [x0, x1, x2, x3, x4, x5, x6, x7]).getD 7 0)])]) : F111_L9 K (0, x0, x1, x2, x3, x4, x5, x6, x7, last, ()) := by
 have hN : ((List.range (last.length / 64)).map (blkZ last)).length = last.length / 64 := by simp
 have hg : ∀ n (hn : n < ((List.range (last.length / 64)).map (blkZ last)).length), ((List.range (last.length / 64)).map (blkZ last))[n] = blkZ last n := fun n hn => by simp
 rw [<- vA_all, hN] at h
 have hz := vA_zero [x0, x1, x2, x3, x4, x5, x6, x7] ((List.range (last.length / 64)).map (blkZ last))
 have hs : ∀ n, n < last.length / 64 -> vA [x0, x1, x2, x3, x4, x5, x6, x7] ((List.range (last.length / 64)).map (blkZ last)) (n + 1) = compP (vA [x0, x1, x2, x3, x4, x5, x6, x7] ((List.range (last.length / 64)).map (blkZ last)) n) (blkZ last n) := fun n hn => by
  rw [vA_succ _ (by rw [hN]; exact hn), hg]
 have hl := vA_len (st := [x0, x1, x2, x3, x4, x5, x6, x7]) rfl ((List.range (last.length / 64)).map (blkZ last))
 generalize vA [x0, x1, x2, x3, x4, x5, x6, x7] ((List.range (last.length / 64)).map (blkZ last)) = v at h hz hs hl
 unfold F111_L9
 refine LoopW.countTo (last.length / 64) (fun n => (((64 * n : Nat) : Int), (v n).getD 0 0, (v n).getD 1 0, (v n).getD 2 0, (v n).getD 3 0, (v n).getD 4 0, (v n).getD 5 0, (v n).getD 6 0, (v n).getD 7 0, last, ())) (fun _ => True) (by rw [hz]; rfl) (fun n hn _ W hW => ?_) trivial
 show F111_B9 K W ((64 * n : Nat) : Int) ((v n).getD 0 0) ((v n).getD 1 0) ((v n).getD 2 0) ((v n).getD 3 0) ((v n).getD 4 0) ((v n).getD 5 0) ((v n).getD 6 0) ((v n).getD 7 0) last
 unfold F111_B9
 by_cases hlt : n < last.length / 64
 . rw [decide_eq_true (by omega), cond_true]
   have e : IntKind.i64.wrap (((64 * n : Nat) : Int) + 64) = ((64 * n + 64 : Nat) : Int) := by rw [wI (by omega)]; omega
   have hb : (last.drop ((64 * n : Nat) : Int).toNat).take (((64 * n + 64 : Nat) : Int).toNat - ((64 * n : Nat) : Int).toNat) = (last.drop (64 * n)).take 64 := by
    rw [toN, toN, show 64 * n + 64 - 64 * n = 64 by omega]
   rw [e, hb]
   have hW := hW hlt trivial
   rw [hs n hlt] at hW
   obtain ⟨a, b, c, d, e, f, g, k, hv⟩ := eight (hl n)
   rw [hv] at hW ⊢
   refine ⟨by omega, by omega, by omega, ?_, ?_⟩
   . show (bStr ((last.drop (64 * n)).take 64)).size = 64
     rw [bStr_size, List.length_take, List.length_drop]; omega
   . exact hW
 . have : n = last.length / 64 := by omega
   subst this
   rw [decide_eq_false (by omega), cond_false]
   exact h
theorem F111_L7_is {s : ByteArray} {x0 x1 x2 x3 x4 x5 x6 x7 : Int} {K : Kn} (hs : s.size <= 4194304) (h : F111_L9 K (0, x0, x1, x2, x3, x4, x5, x6, x7, lastL s, ())) : F111_L7 K (s, 56, x0, x1, x2, x3, x4, x5, x6, x7, padL s, ()) := by
 have hp := padL_len s
 unfold F111_L7
 refine LoopW.mapN 8 (lenB s) (fun n out => (s, 56 - 8 * (n : Int), x0, x1, x2, x3, x4, x5, x6, x7, padL s ++ out, ())) (by rw [List.append_nil]; rfl) (fun W n hn out ho hW => ?_) fun W => ?_
 . show F111_B7 K W s (56 - 8 * (n : Int)) x0 x1 x2 x3 x4 x5 x6 x7 (padL s ++ out)
   unfold F111_B7
   rw [decide_eq_true (by omega), cond_true]
   refine ⟨by omega, by simp only [List.length_append, List.length_singleton, ho]; omega, ?_⟩
   rw [<- List.append_assoc] at hW
   rw [wI (by omega), show (56 : Int) - 8 * (n : Int) - 8 = 56 - 8 * ((n + 1 : Nat) : Int) by omega]
   exact hW
 . show F111_B7 K W s (56 - 8 * ((8 : Nat) : Int)) x0 x1 x2 x3 x4 x5 x6 x7 (lastL s)
   unfold F111_B7
   rw [decide_eq_false (by omega), cond_false]
   exact h
theorem F111_L5_is {s : ByteArray} {x0 x1 x2 x3 x4 x5 x6 x7 : Int} {K : Kn} (h : F111_L7 K (s, 56, x0, x1, x2, x3, x4, x5, x6, x7, padL s, ())) : F111_L5 K (s, x0, x1, x2, x3, x4, x5, x6, x7, endL s, ()) := by
 have he := endL_len s
 unfold F111_L5
 refine LoopW.countTo (padN (endL s).length) (fun n => (s, x0, x1, x2, x3, x4, x5, x6, x7, endL s ++ List.replicate n 0, ())) (fun _ => True) (by simp) (fun n hn _ W hW => ?_) trivial
 show F111_B5 K W s x0 x1 x2 x3 x4 x5 x6 x7 (endL s ++ List.replicate n 0)
 unfold F111_B5
 refine ⟨by omega, ?_⟩
 have hlen : (endL s ++ List.replicate n 0).length = s.size % 64 + 1 + n := by rw [List.length_append, List.length_replicate, he]
 rw [hlen, Int.tmod_eq_emod_of_nonneg (Int.natCast_nonneg _)]
 have hp : padN (endL s).length = (120 - (s.size % 64 + 1) % 64) % 64 := by unfold padN; rw [he]
 by_cases hlt : n < padN (endL s).length
 . rw [decide_eq_false (show ¬ ((s.size % 64 + 1 + n : Nat) : Int) % 64 = 56 by omega), Bool.not_false, cond_true]
   refine ⟨by simp only [List.length_singleton]; omega, ?_⟩
   have := hW hlt trivial
   rw [List.replicate_succ', <- List.append_assoc] at this
   exact this
 . have e : n = padN (endL s).length := by omega
   rw [decide_eq_true (show ((s.size % 64 + 1 + n : Nat) : Int) % 64 = 56 by omega), Bool.not_true, cond_false]
   rw [e]; exact h
theorem F111_is {s : ByteArray} {x0 x1 x2 x3 x4 x5 x6 x7 : Int} {K : Kn} (hsz : s.size <= 4194304) (h : K (.tu []) [some (.cells [.int .u32 ((blkP [x0, x1, x2, x3, x4, x5, x6, x7] s).getD 0 0), .int .u32 ((blkP [x0, x1, x2, x3, x4, x5, x6, x7] s).getD 1 0), .int .u32 ((blkP [x0, x1, x2, x3, x4, x5, x6, x7] s).getD 2 0), .int .u32 ((blkP [x0, x1, x2, x3, x4, x5, x6, x7] s).getD 3 0), .int .u32 ((blkP [x0, x1, x2, x3, x4, x5, x6, x7] s).getD 4 0), .int .u32 ((blkP [x0, x1, x2, x3, x4, x5, x6, x7] s).getD 5 0), .int .u32 ((blkP [x0, x1, x2, x3, x4, x5, x6, x7] s).getD 6 0), .int .u32 ((blkP [x0, x1, x2, x3, x4, x5, x6, x7] s).getD 7 0)])]) : F111 (s, x0, x1, x2, x3, x4, x5, x6, x7, ()) K := by
 unfold F111
 refine ⟨by omega, ?_⟩
 have hw : IntKind.i64.wrap (IntKind.i64.wrap (Int.tdiv (s.size : Int) 64) * 64) = ((s.size / 64 * 64 : Nat) : Int) := by
  rw [Int.tdiv_eq_ediv_of_nonneg (Int.natCast_nonneg _), wI (n := (s.size : Int) / 64) (by omega), wI (by omega)]; omega
 show F111_L2 K (s, IntKind.i64.wrap (IntKind.i64.wrap (Int.tdiv (s.size : Int) 64) * 64), 0, x0, x1, x2, x3, x4, x5, x6, x7, ())
 rw [hw]
 unfold blkP at h
 rw [List.foldl_append] at h
 have hN : (blkA s).length = s.size / 64 := by simp [blkA]
 have hg : ∀ n (hn : n < (blkA s).length), (blkA s)[n] = blkW s n := fun n hn => by simp [blkA]
 rw [<- vA_all [x0, x1, x2, x3, x4, x5, x6, x7] (blkA s), hN] at h
 have hz := vA_zero [x0, x1, x2, x3, x4, x5, x6, x7] (blkA s)
 have hs : ∀ n, n < s.size / 64 -> vA [x0, x1, x2, x3, x4, x5, x6, x7] (blkA s) (n + 1) = compP (vA [x0, x1, x2, x3, x4, x5, x6, x7] (blkA s) n) (blkW s n) := fun n hn => by
  rw [vA_succ _ (by rw [hN]; exact hn), hg]
 have hl := vA_len (st := [x0, x1, x2, x3, x4, x5, x6, x7]) rfl (blkA s)
 generalize vA [x0, x1, x2, x3, x4, x5, x6, x7] (blkA s) = v at h hz hs hl
 unfold F111_L2
 refine LoopW.countTo (s.size / 64) (fun n => (s, ((s.size / 64 * 64 : Nat) : Int), ((64 * n : Nat) : Int), (v n).getD 0 0, (v n).getD 1 0, (v n).getD 2 0, (v n).getD 3 0, (v n).getD 4 0, (v n).getD 5 0, (v n).getD 6 0, (v n).getD 7 0, ())) (fun _ => True) (by rw [hz]; rfl) (fun n hn _ W hW => ?_) trivial
 show F111_B2 K W s ((s.size / 64 * 64 : Nat) : Int) ((64 * n : Nat) : Int) ((v n).getD 0 0) ((v n).getD 1 0) ((v n).getD 2 0) ((v n).getD 3 0) ((v n).getD 4 0) ((v n).getD 5 0) ((v n).getD 6 0) ((v n).getD 7 0)
 unfold F111_B2
 by_cases hlt : n < s.size / 64
 . rw [decide_eq_true (by omega), cond_true]
   have e : IntKind.i64.wrap (((64 * n : Nat) : Int) + 64) = ((64 * n + 64 : Nat) : Int) := by rw [wI (by omega)]; omega
   rw [e, toN, toN]
   have hW := hW hlt trivial
   rw [hs n hlt] at hW
   obtain ⟨a, b, c, d, e, f, g, k, hv⟩ := eight (hl n)
   rw [hv] at hW ⊢
   refine ⟨by omega, by omega, by omega, ?_, ?_⟩
   . show (s.extract (64 * n) (64 * n + 64)).size = 64
     rw [ByteArray.size_extract]; omega
   . exact hW
 . have : n = s.size / 64 := by omega
   subst this
   rw [decide_eq_false (by omega), cond_false]
   obtain ⟨a, b, c, d, e, f, g, k, hv⟩ := eight (hl (s.size / 64))
   rw [hv] at h ⊢
   rw [toN, toN]
   have hx := strB_cut s (s.size / 64 * 64) s.size (Nat.le_refl _)
   refine ⟨by omega, by omega, by omega, by rw [ByteArray.size_extract]; omega, by rw [hx, List.length_singleton]; omega, ?_⟩
   have hla := lastL_len s
   exact F111_L5_is (F111_L7_is hsz (F111_L9_is hla.1 (by omega) h))
def rw111 : Raw := ⟨S111, O111, L111, 0, fun g K _ => pre111 g /\ K (.tu []) [some (.cells [.int .u32 ((blkP [g.2.1, g.2.2.1, g.2.2.2.1, g.2.2.2.2.1, g.2.2.2.2.2.1, g.2.2.2.2.2.2.1, g.2.2.2.2.2.2.2.1, g.2.2.2.2.2.2.2.2.1] g.1).getD 0 0), .int .u32 ((blkP [g.2.1, g.2.2.1, g.2.2.2.1, g.2.2.2.2.1, g.2.2.2.2.2.1, g.2.2.2.2.2.2.1, g.2.2.2.2.2.2.2.1, g.2.2.2.2.2.2.2.2.1] g.1).getD 1 0), .int .u32 ((blkP [g.2.1, g.2.2.1, g.2.2.2.1, g.2.2.2.2.1, g.2.2.2.2.2.1, g.2.2.2.2.2.2.1, g.2.2.2.2.2.2.2.1, g.2.2.2.2.2.2.2.2.1] g.1).getD 2 0), .int .u32 ((blkP [g.2.1, g.2.2.1, g.2.2.2.1, g.2.2.2.2.1, g.2.2.2.2.2.1, g.2.2.2.2.2.2.1, g.2.2.2.2.2.2.2.1, g.2.2.2.2.2.2.2.2.1] g.1).getD 3 0), .int .u32 ((blkP [g.2.1, g.2.2.1, g.2.2.2.1, g.2.2.2.2.1, g.2.2.2.2.2.1, g.2.2.2.2.2.2.1, g.2.2.2.2.2.2.2.1, g.2.2.2.2.2.2.2.2.1] g.1).getD 4 0), .int .u32 ((blkP [g.2.1, g.2.2.1, g.2.2.2.1, g.2.2.2.2.1, g.2.2.2.2.2.1, g.2.2.2.2.2.2.1, g.2.2.2.2.2.2.2.1, g.2.2.2.2.2.2.2.2.1] g.1).getD 5 0), .int .u32 ((blkP [g.2.1, g.2.2.1, g.2.2.2.1, g.2.2.2.2.1, g.2.2.2.2.2.1, g.2.2.2.2.2.2.1, g.2.2.2.2.2.2.2.1, g.2.2.2.2.2.2.2.2.1] g.1).getD 6 0), .int .u32 ((blkP [g.2.1, g.2.2.1, g.2.2.2.1, g.2.2.2.2.1, g.2.2.2.2.2.1, g.2.2.2.2.2.2.1, g.2.2.2.2.2.2.2.1, g.2.2.2.2.2.2.2.2.1] g.1).getD 7 0)])]⟩
theorem rw111_ok : rw111.Ok Tryz.prog 111 := fun g K X h => F111_ok g K X (F111_is h.1 h.2)
end Go.Proofs.YtbglndogddddoaaGreatDoor
namespace Go.Proofs.YtbglndogddddoaaGreatDoor
open Go.RowKit
attribute [local irreducible] dfun dround
set_option maxRecDepth 100000
def H33 : List (Nat × Hint) := [(7, ⟨[], [], [], []⟩), (10, ⟨[], [], [], []⟩), (5000010, ⟨[], [], [], []⟩), (9000007, ⟨[], [], [], []⟩)]
def J33 : List (Nat × Hint) := []
abbrev S33 : List Sh := [.leaf]
abbrev L33 : List Lf := [.str]
def F33 (g : prodL L33) (K : Kn) : Prop :=
 True /\
 True /\
 pre111 (g.1, 1779033703, 3144134277, 1013904242, 2773480762, 1359893119, 2600822924, 528734635, 1541459225, ()) /\
 (0 : Int) <= 0 /\ (0 : Int).toNat < 8 /\
 (0 : Int) <= 24 /\
 0 <= (0 : Int) /\ (0 : Int).toNat < 32 /\
 (0 : Int) <= 16 /\
 0 <= (1 : Int) /\ (1 : Int).toNat < 32 /\
 (0 : Int) <= 8 /\
 0 <= (2 : Int) /\ (2 : Int).toNat < 32 /\
 (0 : Int) <= 0 /\
 0 <= (3 : Int) /\ (3 : Int).toNat < 32 /\
 (0 : Int) <= 1 /\ (1 : Int).toNat < 8 /\
 (0 : Int) <= 24 /\
 0 <= (4 : Int) /\ (4 : Int).toNat < 32 /\
 (0 : Int) <= 16 /\
 0 <= (5 : Int) /\ (5 : Int).toNat < 32 /\
 (0 : Int) <= 8 /\
 0 <= (6 : Int) /\ (6 : Int).toNat < 32 /\
 (0 : Int) <= 0 /\
 0 <= (7 : Int) /\ (7 : Int).toNat < 32 /\
 (0 : Int) <= 2 /\ (2 : Int).toNat < 8 /\
 (0 : Int) <= 24 /\
 0 <= (8 : Int) /\ (8 : Int).toNat < 32 /\
 (0 : Int) <= 16 /\
 0 <= (9 : Int) /\ (9 : Int).toNat < 32 /\
 (0 : Int) <= 8 /\
 0 <= (10 : Int) /\ (10 : Int).toNat < 32 /\
 (0 : Int) <= 0 /\
 0 <= (11 : Int) /\ (11 : Int).toNat < 32 /\
 (0 : Int) <= 3 /\ (3 : Int).toNat < 8 /\
 (0 : Int) <= 24 /\
 0 <= (12 : Int) /\ (12 : Int).toNat < 32 /\
 (0 : Int) <= 16 /\
 0 <= (13 : Int) /\ (13 : Int).toNat < 32 /\
 (0 : Int) <= 8 /\
 0 <= (14 : Int) /\ (14 : Int).toNat < 32 /\
 (0 : Int) <= 0 /\
 0 <= (15 : Int) /\ (15 : Int).toNat < 32 /\
 (0 : Int) <= 4 /\ (4 : Int).toNat < 8 /\
 (0 : Int) <= 24 /\
 0 <= (16 : Int) /\ (16 : Int).toNat < 32 /\
 (0 : Int) <= 16 /\
 0 <= (17 : Int) /\ (17 : Int).toNat < 32 /\
 (0 : Int) <= 8 /\
 0 <= (18 : Int) /\ (18 : Int).toNat < 32 /\
 (0 : Int) <= 0 /\
 0 <= (19 : Int) /\ (19 : Int).toNat < 32 /\
 (0 : Int) <= 5 /\ (5 : Int).toNat < 8 /\
 (0 : Int) <= 24 /\
 0 <= (20 : Int) /\ (20 : Int).toNat < 32 /\
 (0 : Int) <= 16 /\
 0 <= (21 : Int) /\ (21 : Int).toNat < 32 /\
 (0 : Int) <= 8 /\
 0 <= (22 : Int) /\ (22 : Int).toNat < 32 /\
 (0 : Int) <= 0 /\
 0 <= (23 : Int) /\ (23 : Int).toNat < 32 /\
 (0 : Int) <= 6 /\ (6 : Int).toNat < 8 /\
 (0 : Int) <= 24 /\
 0 <= (24 : Int) /\ (24 : Int).toNat < 32 /\
 (0 : Int) <= 16 /\
 0 <= (25 : Int) /\ (25 : Int).toNat < 32 /\
 (0 : Int) <= 8 /\
 0 <= (26 : Int) /\ (26 : Int).toNat < 32 /\
 (0 : Int) <= 0 /\
 0 <= (27 : Int) /\ (27 : Int).toNat < 32 /\
 (0 : Int) <= 7 /\ (7 : Int).toNat < 8 /\
 (0 : Int) <= 24 /\
 0 <= (28 : Int) /\ (28 : Int).toNat < 32 /\
 (0 : Int) <= 16 /\
 0 <= (29 : Int) /\ (29 : Int).toNat < 32 /\
 (0 : Int) <= 8 /\
 0 <= (30 : Int) /\ (30 : Int).toNat < 32 /\
 (0 : Int) <= 0 /\
 0 <= (31 : Int) /\ (31 : Int).toNat < 32 /\
 K (.ag (enc .dig (⟨IntKind.u8.wrap (Int.fdiv ((blkP [1779033703, 3144134277, 1013904242, 2773480762, 1359893119, 2600822924, 528734635, 1541459225] g.1).getD 0 0) (2 ^ (min (24 : Int).toNat IntKind.u32.bits))), IntKind.u8.wrap (Int.fdiv ((blkP [1779033703, 3144134277, 1013904242, 2773480762, 1359893119, 2600822924, 528734635, 1541459225] g.1).getD 0 0) (2 ^ (min (16 : Int).toNat IntKind.u32.bits))), IntKind.u8.wrap (Int.fdiv ((blkP [1779033703, 3144134277, 1013904242, 2773480762, 1359893119, 2600822924, 528734635, 1541459225] g.1).getD 0 0) (2 ^ (min (8 : Int).toNat IntKind.u32.bits))), IntKind.u8.wrap (Int.fdiv ((blkP [1779033703, 3144134277, 1013904242, 2773480762, 1359893119, 2600822924, 528734635, 1541459225] g.1).getD 0 0) (2 ^ (min (0 : Int).toNat IntKind.u32.bits))), IntKind.u8.wrap (Int.fdiv ((blkP [1779033703, 3144134277, 1013904242, 2773480762, 1359893119, 2600822924, 528734635, 1541459225] g.1).getD 1 0) (2 ^ (min (24 : Int).toNat IntKind.u32.bits))), IntKind.u8.wrap (Int.fdiv ((blkP [1779033703, 3144134277, 1013904242, 2773480762, 1359893119, 2600822924, 528734635, 1541459225] g.1).getD 1 0) (2 ^ (min (16 : Int).toNat IntKind.u32.bits))), IntKind.u8.wrap (Int.fdiv ((blkP [1779033703, 3144134277, 1013904242, 2773480762, 1359893119, 2600822924, 528734635, 1541459225] g.1).getD 1 0) (2 ^ (min (8 : Int).toNat IntKind.u32.bits))), IntKind.u8.wrap (Int.fdiv ((blkP [1779033703, 3144134277, 1013904242, 2773480762, 1359893119, 2600822924, 528734635, 1541459225] g.1).getD 1 0) (2 ^ (min (0 : Int).toNat IntKind.u32.bits))), IntKind.u8.wrap (Int.fdiv ((blkP [1779033703, 3144134277, 1013904242, 2773480762, 1359893119, 2600822924, 528734635, 1541459225] g.1).getD 2 0) (2 ^ (min (24 : Int).toNat IntKind.u32.bits))), IntKind.u8.wrap (Int.fdiv ((blkP [1779033703, 3144134277, 1013904242, 2773480762, 1359893119, 2600822924, 528734635, 1541459225] g.1).getD 2 0) (2 ^ (min (16 : Int).toNat IntKind.u32.bits))), IntKind.u8.wrap (Int.fdiv ((blkP [1779033703, 3144134277, 1013904242, 2773480762, 1359893119, 2600822924, 528734635, 1541459225] g.1).getD 2 0) (2 ^ (min (8 : Int).toNat IntKind.u32.bits))), IntKind.u8.wrap (Int.fdiv ((blkP [1779033703, 3144134277, 1013904242, 2773480762, 1359893119, 2600822924, 528734635, 1541459225] g.1).getD 2 0) (2 ^ (min (0 : Int).toNat IntKind.u32.bits))), IntKind.u8.wrap (Int.fdiv ((blkP [1779033703, 3144134277, 1013904242, 2773480762, 1359893119, 2600822924, 528734635, 1541459225] g.1).getD 3 0) (2 ^ (min (24 : Int).toNat IntKind.u32.bits))), IntKind.u8.wrap (Int.fdiv ((blkP [1779033703, 3144134277, 1013904242, 2773480762, 1359893119, 2600822924, 528734635, 1541459225] g.1).getD 3 0) (2 ^ (min (16 : Int).toNat IntKind.u32.bits))), IntKind.u8.wrap (Int.fdiv ((blkP [1779033703, 3144134277, 1013904242, 2773480762, 1359893119, 2600822924, 528734635, 1541459225] g.1).getD 3 0) (2 ^ (min (8 : Int).toNat IntKind.u32.bits))), IntKind.u8.wrap (Int.fdiv ((blkP [1779033703, 3144134277, 1013904242, 2773480762, 1359893119, 2600822924, 528734635, 1541459225] g.1).getD 3 0) (2 ^ (min (0 : Int).toNat IntKind.u32.bits))), IntKind.u8.wrap (Int.fdiv ((blkP [1779033703, 3144134277, 1013904242, 2773480762, 1359893119, 2600822924, 528734635, 1541459225] g.1).getD 4 0) (2 ^ (min (24 : Int).toNat IntKind.u32.bits))), IntKind.u8.wrap (Int.fdiv ((blkP [1779033703, 3144134277, 1013904242, 2773480762, 1359893119, 2600822924, 528734635, 1541459225] g.1).getD 4 0) (2 ^ (min (16 : Int).toNat IntKind.u32.bits))), IntKind.u8.wrap (Int.fdiv ((blkP [1779033703, 3144134277, 1013904242, 2773480762, 1359893119, 2600822924, 528734635, 1541459225] g.1).getD 4 0) (2 ^ (min (8 : Int).toNat IntKind.u32.bits))), IntKind.u8.wrap (Int.fdiv ((blkP [1779033703, 3144134277, 1013904242, 2773480762, 1359893119, 2600822924, 528734635, 1541459225] g.1).getD 4 0) (2 ^ (min (0 : Int).toNat IntKind.u32.bits))), IntKind.u8.wrap (Int.fdiv ((blkP [1779033703, 3144134277, 1013904242, 2773480762, 1359893119, 2600822924, 528734635, 1541459225] g.1).getD 5 0) (2 ^ (min (24 : Int).toNat IntKind.u32.bits))), IntKind.u8.wrap (Int.fdiv ((blkP [1779033703, 3144134277, 1013904242, 2773480762, 1359893119, 2600822924, 528734635, 1541459225] g.1).getD 5 0) (2 ^ (min (16 : Int).toNat IntKind.u32.bits))), IntKind.u8.wrap (Int.fdiv ((blkP [1779033703, 3144134277, 1013904242, 2773480762, 1359893119, 2600822924, 528734635, 1541459225] g.1).getD 5 0) (2 ^ (min (8 : Int).toNat IntKind.u32.bits))), IntKind.u8.wrap (Int.fdiv ((blkP [1779033703, 3144134277, 1013904242, 2773480762, 1359893119, 2600822924, 528734635, 1541459225] g.1).getD 5 0) (2 ^ (min (0 : Int).toNat IntKind.u32.bits))), IntKind.u8.wrap (Int.fdiv ((blkP [1779033703, 3144134277, 1013904242, 2773480762, 1359893119, 2600822924, 528734635, 1541459225] g.1).getD 6 0) (2 ^ (min (24 : Int).toNat IntKind.u32.bits))), IntKind.u8.wrap (Int.fdiv ((blkP [1779033703, 3144134277, 1013904242, 2773480762, 1359893119, 2600822924, 528734635, 1541459225] g.1).getD 6 0) (2 ^ (min (16 : Int).toNat IntKind.u32.bits))), IntKind.u8.wrap (Int.fdiv ((blkP [1779033703, 3144134277, 1013904242, 2773480762, 1359893119, 2600822924, 528734635, 1541459225] g.1).getD 6 0) (2 ^ (min (8 : Int).toNat IntKind.u32.bits))), IntKind.u8.wrap (Int.fdiv ((blkP [1779033703, 3144134277, 1013904242, 2773480762, 1359893119, 2600822924, 528734635, 1541459225] g.1).getD 6 0) (2 ^ (min (0 : Int).toNat IntKind.u32.bits))), IntKind.u8.wrap (Int.fdiv ((blkP [1779033703, 3144134277, 1013904242, 2773480762, 1359893119, 2600822924, 528734635, 1541459225] g.1).getD 7 0) (2 ^ (min (24 : Int).toNat IntKind.u32.bits))), IntKind.u8.wrap (Int.fdiv ((blkP [1779033703, 3144134277, 1013904242, 2773480762, 1359893119, 2600822924, 528734635, 1541459225] g.1).getD 7 0) (2 ^ (min (16 : Int).toNat IntKind.u32.bits))), IntKind.u8.wrap (Int.fdiv ((blkP [1779033703, 3144134277, 1013904242, 2773480762, 1359893119, 2600822924, 528734635, 1541459225] g.1).getD 7 0) (2 ^ (min (8 : Int).toNat IntKind.u32.bits))), IntKind.u8.wrap (Int.fdiv ((blkP [1779033703, 3144134277, 1013904242, 2773480762, 1359893119, 2600822924, 528734635, 1541459225] g.1).getD 7 0) (2 ^ (min (0 : Int).toNat IntKind.u32.bits)))⟩ : Dig))) []
theorem F33_eq (g : prodL L33) (K X : Kn) : F33 g K = dfun D (gamX [(111, rw111)] [(64, false, sp64), (65, false, sp65)]) (isRaw [(111, rw111)]) H33 J33 38 [.cell 2 32] (codeOf Tryz.f33) (argsT S33 L33 g) [] (settle0 K) X 0 1033000 := by kernel_rfl
theorem F33_ok (g : prodL L33) (K X : Kn) (h : F33 g K) : FCalls Tryz.prog 33 (argsT S33 L33 g) [] K X :=
 FCalls.settle0 (dfun_sound (Γ := gamX [(111, rw111)] [(64, false, sp64), (65, false, sp65)]) (mu := isRaw [(111, rw111)]) (H := H33) (J := J33) D_ok (gamX_ok (rs := [(111, rw111)]) (l := [(64, false, sp64), (65, false, sp65)]) (by intro p hp; simp only [List.mem_cons, List.not_mem_nil, or_false] at hp; subst hp; exact rw111_ok) (by intro p hp; simp only [List.mem_cons, List.not_mem_nil, or_false] at hp; rcases hp with rfl | rfl <;> first | exact sp64_ok | exact sp65_ok)) gamX_det rfl Tryz.func33 (c := codeOf Tryz.f33) rfl Tryz.ntmps33 Tryz.results33 (by unfold enters; rw [Tryz.func33]; kernel_rfl) (Nat.le_of_ble_eq_true (by kernel_rfl)) (c0 := 0) (Eq.mp (F33_eq g K X) h) (yOk_of_keys [4] (by kernel_rfl) (by kernel_rfl)))
end Go.Proofs.YtbglndogddddoaaGreatDoor
namespace Go.Proofs.YtbglndogddddoaaGreatDoor
open Go.RowKit
set_option maxRecDepth 100000
theorem F33_is {s : ByteArray} {K : Kn} (hs : s.size <= 4194304) (h : K (.ag (enc .dig (shaP s))) []) : F33 (s, ()) K := by
 unfold F33
 refine ⟨trivial, trivial, hs, ?_⟩
 repeat (refine And.intro (by decide) ?_)
 unfold shaP at h
 show K (.ag (enc .dig (digW (blkP st0 s)))) []
 exact h
def sp33 : Sp := ⟨S33, L33, fun g => g.1.size <= 4194304, fun g => .ag (enc .dig (shaP g.1)), fun _ => none⟩
theorem sp33_ok : sp33.Ok Tryz.prog 33 true :=
 ⟨fun g K X hp h => F33_ok g K X (F33_is hp h), fun _ _ _ => rfl, fun _ => rfl, fun _ _ => ⟨rfl, rfl⟩⟩
end Go.Proofs.YtbglndogddddoaaGreatDoor
namespace Go.Proofs.YtbglndogddddoaaGreatDoor
open Go.RowKit Go.Shelf Go.Lib
set_option maxRecDepth 100000
theorem cb_refl : ∀ l : List UInt8, Lib.compareBytes l l = 0
 | [] => rfl
 | a :: l => by
  unfold Lib.compareBytes
  simp [cb_refl l]
theorem cb_anti : ∀ l m : List UInt8, Lib.compareBytes l m = - Lib.compareBytes m l
 | [], [] => rfl
 | [], _ :: _ => rfl
 | _ :: _, [] => rfl
 | a :: l, b :: m => by
  have := cb_anti l m
  unfold Lib.compareBytes
  have h : ∀ x y : UInt8, x < y ↔ x.toNat < y.toNat := fun x y => Iff.rfl
  by_cases h1 : a < b
  . have h2 : ¬ b < a := by rw [h] at h1 ⊢; omega
    simp [h1, h2]
  . by_cases h2 : b < a
    . simp [h1, h2]
    . simp [h1, h2, this]
theorem cb_trans : ∀ l m n : List UInt8, Lib.compareBytes l m <= 0 -> Lib.compareBytes m n <= 0 -> Lib.compareBytes l n <= 0 /\ (Lib.compareBytes l n = 0 -> Lib.compareBytes l m = 0 /\ Lib.compareBytes m n = 0)
 | [], [], [], _, _ => ⟨Int.le_refl 0, fun _ => ⟨rfl, rfl⟩⟩
 | [], [], _ :: _, _, _ => ⟨show (-1 : Int) <= 0 by decide, fun h => absurd h (show ¬ (-1 : Int) = 0 by decide)⟩
 | [], _ :: _, [], _, h => absurd h (show ¬ (1 : Int) <= 0 by decide)
 | [], _ :: _, _ :: _, _, _ => ⟨show (-1 : Int) <= 0 by decide, fun h => absurd h (show ¬ (-1 : Int) = 0 by decide)⟩
 | _ :: _, [], _, h, _ => absurd h (show ¬ (1 : Int) <= 0 by decide)
 | _ :: _, _ :: _, [], _, h => absurd h (show ¬ (1 : Int) <= 0 by decide)
 | a :: l, b :: m, c :: n, h1, h2 => by
  have ih := cb_trans l m n
  unfold Lib.compareBytes at h1 h2 ⊢
  have h : ∀ x y : UInt8, x < y ↔ x.toNat < y.toNat := fun x y => Iff.rfl
  by_cases a1 : a < b
  . by_cases b1 : b < c
    . have : a < c := by rw [h] at a1 b1 ⊢; omega
      simp [this]
    . by_cases b2 : c < b
      . simp [b1, b2] at h2
      . have : a < c := by rw [h] at a1 b1 b2 ⊢; omega
        simp [this]
  . by_cases a2 : b < a
    . simp [a1, a2] at h1
    . have e : a = b := by rw [h] at a1 a2; exact UInt8.toNat_inj.1 (by omega)
      subst e
      simp only [a1, if_false] at h1
      by_cases b1 : a < c
      . simp [b1]
      . by_cases b2 : c < a
        . simp [b1, b2] at h2
        . simp only [b1, b2, if_false] at h2 ⊢
          simp only [a1, if_false]
          exact ih h1 h2
theorem idC_lt (a b : Idn) : (idC a b < 0) ↔ (digC a.patch b.patch < 0 ∨ (digC a.patch b.patch = 0 /\ a.n < b.n)) := by
 unfold idC
 by_cases z : digC a.patch b.patch = 0
 . rw [decide_eq_true z, Bool.not_true, cond_false]
   unfold cmpN
   by_cases h1 : a.n < b.n
   . rw [decide_eq_true h1, cond_true]; exact ⟨fun _ => .inr ⟨z, h1⟩, fun _ => by decide⟩
   . rw [decide_eq_false h1, cond_false]
     by_cases h2 : b.n < a.n
     . rw [decide_eq_true h2, cond_true]; exact ⟨fun h => absurd h (by decide), fun h => by omega⟩
     . rw [decide_eq_false h2, cond_false]; exact ⟨fun h => absurd h (by decide), fun h => by omega⟩
 . rw [decide_eq_false z, Bool.not_false, cond_true]
   exact ⟨.inl, fun h => by omega⟩
theorem digC_anti (a b : Dig) : digC a b = - digC b a := cb_anti _ _
theorem digC_trans {a b c : Dig} (h1 : digC a b <= 0) (h2 : digC b c <= 0) : digC a c <= 0 /\ (digC a c = 0 -> digC a b = 0 /\ digC b c = 0) := cb_trans _ _ _ h1 h2
theorem digC_refl (a : Dig) : digC a a = 0 := cb_refl _
theorem swo_id : Go.Sort.SWO (ltOf idC) where
 irrefl x := by
  unfold ltOf
  rw [decide_eq_false_iff_not, idC_lt, digC_refl]; omega
 trans x y z h1 h2 := by
  unfold ltOf at *
  rw [decide_eq_true_eq, idC_lt] at *
  have := digC_trans (a := x.patch) (b := y.patch) (c := z.patch)
  omega
 ntrans x y z h1 h2 := by
  unfold ltOf at *
  rw [decide_eq_false_iff_not, idC_lt] at *
  have := digC_trans (a := z.patch) (b := y.patch) (c := x.patch)
  have e1 := digC_anti x.patch y.patch
  have e2 := digC_anti y.patch z.patch
  have e3 := digC_anti x.patch z.patch
  omega
instance : Inhabited Idn := ⟨iz⟩
instance : Inhabited Dig := ⟨dz⟩
def sortI (l : List Idn) : List Idn := (Go.Sort.pdq (ltOf idC) l.toArray 0 l.toArray.size (Lib.bitLen l.toArray.size) true true).toList
def idP (a m : ByteArray) (t : Int) (ds : List Dig) (cs : List Chg) : Dig × Int := bif !decide ((exP a m t ds cs).2.2 = 0) then (dz, (exP a m t ds cs).2.2) else (shaP (exP a m t ds cs).2.1, 0)
def fullI (d : Dig) (x : Idn) : Idn := bif (bif ownB x then decide (0 <= x.n) else false) then ⟨d, x.n⟩ else x
def aJ17 (d : Dig) (x : Atm) : Atm := ⟨x.id, x.kind, x.file, x.typ, x.parent, x.name, x.mode, x.data, x.text, x.frm, x.til, sortI (x.over.map (fullI d))⟩
def aJ18 (d : Dig) (x : Atm) : Atm := bif decide (x.kind = 6) then aJ17 d ⟨x.id, x.kind, x.file, x.typ, x.parent, x.name, x.mode, x.data, x.text, fullI d x.frm, fullI d x.til, x.over⟩ else aJ17 d x
def aJ19 (d : Dig) (x : Atm) : Atm := bif decide (x.kind = 2) then aJ18 d ⟨x.id, x.kind, x.file, x.typ, fullI d x.parent, x.name, x.mode, x.data, x.text, x.frm, x.til, x.over⟩ else aJ18 d x
def cmpA (d : Dig) (x : Atm) : Atm := bif !decide (x.kind = 7) then aJ19 d ⟨fullI d x.id, x.kind, fullI d x.file, x.typ, x.parent, x.name, x.mode, x.data, x.text, x.frm, x.til, x.over⟩ else aJ19 d ⟨fullI d x.id, x.kind, x.file, x.typ, x.parent, x.name, x.mode, x.data, x.text, x.frm, x.til, x.over⟩
def atmP (a m : ByteArray) (t : Int) (ds : List Dig) (cs : List Chg) : List Atm × Int :=
 bif !decide ((exP a m t ds cs).2.2 = 0) then ([], (exP a m t ds cs).2.2) else bif !decide ((idP a m t ds cs).2 = 0) then ([], (idP a m t ds cs).2) else ((exP a m t ds cs).1.map (cmpA (idP a m t ds cs).1), 0)
def pre87 (g : prodL [.sl .idk]) : Prop := g.1.length <= 4194304
end Go.Proofs.YtbglndogddddoaaGreatDoor
namespace Go.Proofs.YtbglndogddddoaaGreatDoor
open Go.RowKit Go.Lib Go.Shelf Go.Sort
theorem bytes_of {P : Program} {w : World} {b off : Nat} {l : List Int} (hc : ∀ (j : Nat) (y : Int), l[j]? = some y -> w.cell? ((⟨b, off, none⟩ : Addr).add j) = some (.int .u8 y)) (c : Nat) :
  (Extern.Bytes.bytesOf (.slice (some ⟨b, off, none⟩) l.length c)).run P w = .ok ⟨(bs l).toArray⟩ w := by
 have hl := run_loadBytesX (P := P) w l ⟨b, off, none⟩ .empty hc
 show (Extern.Bytes.loadBytes ⟨b, off, none⟩ l.length .empty).run P w = _
 rw [hl]
 congr 1
 apply ByteArray.ext
 show (#[] : Array UInt8) ++ (Lib.bytesOf l).toArray = (bs l).toArray
 rw [Array.empty_append]
 rfl
set_option maxHeartbeats 1000000 in
set_option maxRecDepth 100000 in
theorem nan83 (x : Int) (W : World) : Calls Tryz.prog 83 #[.int .i64 x] W fun e w' => e = .returned (.bool false) /\ w' = W := by
 go_enter Tryz.func83, Tryz.ntmps83
 go_wp2
 go_ret
 exact ⟨rfl, rfl⟩
set_option maxHeartbeats 1000000 in
set_option maxRecDepth 100000 in
theorem cmp41 (x y : Int) (W : World) : Calls Tryz.prog 41 #[.int .i64 x, .int .i64 y] W fun e w' => e = .returned (.int .i64 (cmpN x y)) /\ w' = W := by
 have hn := fun x W => nan83 x W
 go_enter Tryz.func41, Tryz.ntmps41
 go_wp2_with (go_at_call 83; refine (hn _ _).mono ?_; rintro e w' ⟨rfl, rfl⟩)
 . have e : cmpN x y = -1 := by unfold cmpN; rw [decide_eq_true (by assumption)]; rfl
   rw [e]; go_ret; exact ⟨rfl, rfl⟩
 . have e : cmpN x y = 1 := by unfold cmpN; rw [decide_eq_false (by omega), cond_false, decide_eq_true (by assumption)]; rfl
   rw [e]; go_ret; exact ⟨rfl, rfl⟩
 . have e : cmpN x y = 0 := by unfold cmpN; rw [decide_eq_false (by omega), cond_false, decide_eq_false (by omega)]; rfl
   rw [e]; go_ret; exact ⟨rfl, rfl⟩
def encIv (x : Idn) : List Value := [.int .u8 x.patch.b0, .int .u8 x.patch.b1, .int .u8 x.patch.b2, .int .u8 x.patch.b3, .int .u8 x.patch.b4, .int .u8 x.patch.b5, .int .u8 x.patch.b6, .int .u8 x.patch.b7, .int .u8 x.patch.b8, .int .u8 x.patch.b9, .int .u8 x.patch.b10, .int .u8 x.patch.b11, .int .u8 x.patch.b12, .int .u8 x.patch.b13, .int .u8 x.patch.b14, .int .u8 x.patch.b15, .int .u8 x.patch.b16, .int .u8 x.patch.b17, .int .u8 x.patch.b18, .int .u8 x.patch.b19, .int .u8 x.patch.b20, .int .u8 x.patch.b21, .int .u8 x.patch.b22, .int .u8 x.patch.b23, .int .u8 x.patch.b24, .int .u8 x.patch.b25, .int .u8 x.patch.b26, .int .u8 x.patch.b27, .int .u8 x.patch.b28, .int .u8 x.patch.b29, .int .u8 x.patch.b30, .int .u8 x.patch.b31, .int .i64 x.n]
set_option maxHeartbeats 1000000 in
set_option maxRecDepth 100000 in
theorem cmp17a (x y : Idn) (W : World) (r r2 : Int) (h3 : ∀ q, Calls Tryz.prog 40 #[.slice (some ⟨W.heap.size, 0, none⟩) 32 32, .slice (some ⟨W.heap.size + 1, 0, none⟩) 32 32] ((((W.alloc (.cells (encIv x).toArray 36)).alloc (.cells (encIv y).toArray 36))).drewN q) fun e w' => e = .returned (.int .i64 r) /\ w' = ((((W.alloc (.cells (encIv x).toArray 36)).alloc (.cells (encIv y).toArray 36))).drewN q))
  (h41 : ∀ W : World, Calls Tryz.prog 41 #[.int .i64 x.n, .int .i64 y.n] W fun e w' => e = .returned (.int .i64 r2) /\ w' = W) :
  Calls Tryz.prog 17 #[.agg (encIv x).toArray, .agg (encIv y).toArray] W fun e w' => e = .returned (.int .i64 (bif !decide (r = 0) then r else r2)) /\ ∃ q os', w' = grow (W.drewN q) os' := by
 unfold encIv at h3 ⊢
 go_enter Tryz.func17, Tryz.ntmps17
 go_wp2
 go_quiet (first | (go_at_call 40; refine Calls.quiet_of_same (h3 _)))
 go_wp2_with (go_at_call 41; refine (h41 _).mono ?_; rintro e w' ⟨rfl, rfl⟩)
 . rename_i hh
   rw [show (bif !decide (r = 0) then r else r2) = r by rw [decide_eq_false (by simpa using hh)]; rfl]
   go_ret
   refine ⟨by kernel_rfl, ?_⟩
   exact ⟨_, _, by rw [alloc_eq_grow, alloc_eq_grow, grow_grow]; rfl⟩
 . rename_i hh
   rw [show (bif !decide (r = 0) then r else r2) = r2 by rw [decide_eq_true (by simpa using hh)]; rfl]
   go_ret
   refine ⟨by kernel_rfl, ?_⟩
   exact ⟨_, _, by rw [alloc_eq_grow, alloc_eq_grow, grow_grow]; rfl⟩
theorem cmp17 (x y : Idn) (W : World) : Calls Tryz.prog 17 #[.agg (encIv x).toArray, .agg (encIv y).toArray] W fun e w' => e = .returned (.int .i64 (idC x y)) /\ ∃ q os', w' = grow (W.drewN q) os' := by
 have hb : ∀ (d : Idn) (n : Nat) (w : World), w.heap[n]? = some (.cells (encIv d).toArray 36 (0, 0)) -> (Extern.Bytes.bytesOf (.slice (some ⟨n, 0, none⟩) 32 32)).run Tryz.prog w = .ok ⟨(bs (digL d.patch)).toArray⟩ w := fun d n w hw => bytes_of (l := digL d.patch) (fun j z hz => by
  have : (encIv d)[j]? = some (.int .u8 z) := by
   have e : encIv d = (digL d.patch).map (Value.int .u8) ++ [.int .i64 d.n] := rfl
   have hj : j < ((digL d.patch).map (Value.int .u8)).length := by
    rw [List.length_map]; exact (List.getElem?_eq_some_iff.1 hz).1
   rw [e, List.getElem?_append_left hj, List.getElem?_map, hz]; rfl
  simp only [Addr.add_lit, World.cell?, hw]
  simpa using this) 32
 have h1 : ∀ q, (Extern.Bytes.bytesOf (.slice (some ⟨W.heap.size, 0, none⟩) 32 32)).run Tryz.prog ((((W.alloc (.cells (encIv x).toArray 36)).alloc (.cells (encIv y).toArray 36))).drewN q) = .ok ⟨(bs (digL x.patch)).toArray⟩ _ := fun q => hb x _ _ (by show ((W.heap.push _).push _)[W.heap.size]? = _; simp [Array.getElem?_push])
 have h2 : ∀ q, (Extern.Bytes.bytesOf (.slice (some ⟨W.heap.size + 1, 0, none⟩) 32 32)).run Tryz.prog ((((W.alloc (.cells (encIv x).toArray 36)).alloc (.cells (encIv y).toArray 36))).drewN q) = .ok ⟨(bs (digL y.patch)).toArray⟩ _ := fun q => hb y _ _ (by show ((W.heap.push (.cells (encIv x).toArray 36 (0, 0))).push _)[W.heap.size + 1]? = _; rw [show W.heap.size + 1 = (W.heap.push (.cells (encIv x).toArray 36 (0, 0))).size by simp, Array.getElem?_push_size])
 have h3 : ∀ q, Calls Tryz.prog 40 #[.slice (some ⟨W.heap.size, 0, none⟩) 32 32, .slice (some ⟨W.heap.size + 1, 0, none⟩) 32 32] ((((W.alloc (.cells (encIv x).toArray 36)).alloc (.cells (encIv y).toArray 36))).drewN q) fun e w' => e = .returned (.int .i64 (digC x.patch y.patch)) /\ w' = _ := fun q => cmp_calls (h1 q) (h2 q)
 exact cmp17a x y W _ _ h3 fun W => cmp41 x.n y.n W
set_option maxRecDepth 100000
def laysSortI_ren : Go.Shelf.Ren := ⟨fun | 6 => 87 | 15 => 97 | 14 => 138 | 28 => 147 | 29 => 148 | 20 => 186 | 21 => 187 | 22 => 188 | 23 => 189 | 24 => 190 | 25 => 191 | 26 => 192 | 27 => 193 | 46 => 217 | 47 => 195 | 48 => 196 | 49 => 218 | 50 => 219 | 57 => 231 | n => n, fun | 22 => 48 | 24 => 36 | 25 => 37 | 3 => 3 | 39 => 118 | 0 => 0 | 53 => 100 | 55 => 137 | 4 => 4 | 46 => 161 | 45 => 160 | 50 => 165 | 5 => 5 | 9 => 9 | 66 => 205 | 70 => 209 | 76 => 226 | 77 => 227 | n => n, fun | n => n⟩
theorem laysSortI : Go.Proofs.SlLaysF0.n6 Tryz.prog laysSortI_ren := {
 mixed := by kernel_rfl
 f6 := ⟨Tryz.f87.name, by decide, Tryz.func87.trans (congrArg some (by kernel_rfl))⟩
 f14 := ⟨Tryz.f138.name, by decide, Tryz.func138.trans (congrArg some (by kernel_rfl))⟩
 f15 := Tryz.func97.trans (congrArg some (by kernel_rfl))
 f20 := ⟨Tryz.f186.name, by decide, Tryz.func186.trans (congrArg some (by kernel_rfl))⟩
 f21 := ⟨Tryz.f187.name, by decide, Tryz.func187.trans (congrArg some (by kernel_rfl))⟩
 f22 := ⟨Tryz.f188.name, by decide, Tryz.func188.trans (congrArg some (by kernel_rfl))⟩
 f23 := ⟨Tryz.f189.name, by decide, Tryz.func189.trans (congrArg some (by kernel_rfl))⟩
 f24 := ⟨Tryz.f190.name, by decide, Tryz.func190.trans (congrArg some (by kernel_rfl))⟩
 f25 := ⟨Tryz.f191.name, by decide, Tryz.func191.trans (congrArg some (by kernel_rfl))⟩
 f26 := ⟨Tryz.f192.name, by decide, Tryz.func192.trans (congrArg some (by kernel_rfl))⟩
 f27 := ⟨Tryz.f193.name, by decide, Tryz.func193.trans (congrArg some (by kernel_rfl))⟩
 f28 := Tryz.func147.trans (congrArg some (by kernel_rfl))
 f29 := Tryz.func148.trans (congrArg some (by kernel_rfl))
 f46 := ⟨Tryz.f217.name, by decide, Tryz.func217.trans (congrArg some (by kernel_rfl))⟩
 f47 := Tryz.func195.trans (congrArg some (by kernel_rfl))
 f48 := Tryz.func196.trans (congrArg some (by kernel_rfl))
 f49 := ⟨Tryz.f218.name, by decide, Tryz.func218.trans (congrArg some (by kernel_rfl))⟩
 f50 := ⟨Tryz.f219.name, by decide, Tryz.func219.trans (congrArg some (by kernel_rfl))⟩
 f57 := ⟨Tryz.f231.name, by decide, Tryz.func231.trans (congrArg some (by kernel_rfl))⟩
 t0 := Tryz.underlying0
 a0 := Tryz.isAgg0
 z0 := Tryz.sizeOf0
 v0 := Tryz.zeroValue0
 t3 := Tryz.underlying3
 a3 := Tryz.isAgg3
 z3 := Tryz.sizeOf3
 v3 := Tryz.zeroValue3
 t4 := Tryz.underlying4
 a4 := Tryz.isAgg4
 z4 := Tryz.sizeOf4
 v4 := Tryz.zeroValue4
 t5 := Tryz.underlying5
 a5 := Tryz.isAgg5
 z5 := Tryz.sizeOf5
 v5 := Tryz.zeroValue5
 t9 := Tryz.underlying9
 a9 := Tryz.isAgg9
 z9 := Tryz.sizeOf9
 v9 := Tryz.zeroValue9
 t22 := Tryz.underlying48
 a22 := Tryz.isAgg48
 z22 := Tryz.sizeOf48
 v22 := Tryz.zeroValue48
 t25 := Tryz.underlying37
 a25 := Tryz.isAgg37
 z25 := Tryz.sizeOf37
 v25 := Tryz.zeroValue37
 t39 := Tryz.underlying118
 a39 := Tryz.isAgg118
 z39 := Tryz.sizeOf118
 v39 := Tryz.zeroValue118
 t45 := Tryz.underlying160
 a45 := Tryz.isAgg160
 z45 := Tryz.sizeOf160
 v45 := Tryz.zeroValue160
 t46 := Tryz.underlying161
 a46 := Tryz.isAgg161
 z46 := Tryz.sizeOf161
 v46 := Tryz.zeroValue161
 t50 := Tryz.underlying165
 a50 := Tryz.isAgg165
 z50 := Tryz.sizeOf165
 v50 := Tryz.zeroValue165
 t53 := Tryz.underlying100
 a53 := Tryz.isAgg100
 z53 := Tryz.sizeOf100
 v53 := Tryz.zeroValue100
 t55 := Tryz.underlying137
 a55 := Tryz.isAgg137
 z55 := Tryz.sizeOf137
 v55 := Tryz.zeroValue137
 t66 := Tryz.underlying205
 a66 := Tryz.isAgg205
 z66 := Tryz.sizeOf205
 v66 := Tryz.zeroValue205
 t70 := Tryz.underlying209
 a70 := Tryz.isAgg209
 z70 := Tryz.sizeOf209
 v70 := Tryz.zeroValue209
 t76 := Tryz.underlying226
 a76 := Tryz.isAgg226
 z76 := Tryz.sizeOf226
 v76 := Tryz.zeroValue226
 t77 := Tryz.underlying227
 a77 := Tryz.isAgg227
 z77 := Tryz.sizeOf227
 v77 := Tryz.zeroValue227 }
def encVs (e : El) (x : ty e) : List Value := (enc e x).map tv
theorem flat_at {e : El} [Inhabited (ty e)] (l : List (ty e)) (j : Nat) (hj : j < l.length * sz e) : ∃ u, (encs e l)[j]? = some u /\ (flatK (encVs e) (sz e) l.toArray)[j]! = tv u := by
 have hk : 0 < sz e := by
  rcases Nat.eq_zero_or_pos (sz e) with h | h
  . rw [h] at hj; simp at hj
  . exact h
 have hi : j / sz e < l.length := by rw [Nat.div_lt_iff_lt_mul hk]; exact hj
 have hr : j % sz e < sz e := Nat.mod_lt _ hk
 have he : (encs e l)[j]? = (enc e l[j / sz e])[j % sz e]? := by
  have := encs_get (l := l) (i := j / sz e) (getQ hi) hr
  rwa [Nat.mul_comm, Nat.div_add_mod] at this
 have hlen : j % sz e < (enc e l[j / sz e]).length := by rw [enc_len]; exact hr
 refine ⟨(enc e l[j / sz e])[j % sz e], by rw [he, getQ hlen], ?_⟩
 rw [get_flatK _ _ _ _ (by simpa using hj)]
 have h1 : l.toArray[j / sz e]! = l[j / sz e] := by rw [getElem!_pos l.toArray _ (by simpa using hi)]; simp
 rw [h1]
 unfold encVs
 rw [List.getElem!_eq_getElem?_getD, List.getElem?_map, getQ hlen]; rfl
theorem sort_ok {e : El} [Inhabited (ty e)] (hI : ∀ x : ty e, ∀ u ∈ enc e x, ∃ k n, u = T.int k n) {f c : FuncId} {srt : List (ty e) -> List (ty e)} (he : enters Tryz.prog f = true) (hc : ytab c = none)
  (h0 : ∀ (p : Option Addr) (cap : Nat) (fv : Value) (w : World), Calls Tryz.prog f #[.slice p 0 cap, fv] w fun e w' => e = .returned (.tuple #[]) /\ w' = w)
  (h1 : ∀ (b cap : Nat) (l : List (ty e)) (w : World), HoldsK (encVs e) (sz e) w b 0 l.toArray -> b < w.heap.size -> l.length <= 16777216 -> Calls Tryz.prog f #[.slice (some ⟨b, 0, none⟩) l.length cap, .func (.func c) #[] #[]] w fun r w' => r = .returned (.tuple #[]) /\ ∃ n os, w' = sortWorldK (encVs e) (sz e) w b 0 n (srt l).toArray os)
  (hs : ∀ l, (srt l).length = l.length) {l : List (ty e)} (hl : l.length <= 16777216) {K X : Kn} (hK : K (.tu []) [some (.arr 0 e (srt l))]) : FCalls Tryz.prog f [.oa e 0 0, .fn c [] []] [some (.arr 0 e l)] K X 1 := by
 intro g w hg
 refine Atc.of he fun args hr => ?_
 obtain ⟨x, y, rfl, hx, hy⟩ := rl_two hr
 have hy' : y = .func (.func c) #[] #[] := by
  cases hy with
  | fn _ _ _ xs ys _ a1 a2 _ _ =>
   have e1 : xs = #[] := Array.eq_empty_of_size_eq_zero a1.symm
   have e2 : ys = #[] := Array.eq_empty_of_size_eq_zero a2.symm
   rw [e1, e2]
  | yl _ _ yi _ _ a1 => rw [hc] at a1; cases a1
 subst hy'
 obtain ⟨oi, o1, fits, row⟩ := hg.obj 0 (.arr 0 e l) rfl
 have o1 : g.ob 0 0 = some oi := o1
 obtain ⟨f1, f2, f3⟩ := fits
 cases hx with
 | oa _ _ _ oi' A b1 b2 b3 b4 =>
  rw [o1] at b1
  obtain rfl := Option.some.inj b1
  by_cases hz : oi.cap = 0
  . have hl0 : l = [] := List.length_eq_zero_iff.1 (by omega)
    subst hl0
    have hs0 : srt [] = [] := List.length_eq_zero_iff.1 (by rw [hs]; rfl)
    rw [show oi.len = 0 by simpa using f1]
    refine (h0 _ _ _ w).mono ?_
    rintro r w' ⟨rfl, rfl⟩
    exact ⟨g, _, hg, Step.refl, .tu [], by rw [hs0] at hK; exact hK, .tu [] #[] rfl fun i c x hc => by simp at hc⟩
  . obtain rfl := b2 hz
    rcases row with ⟨_, r0⟩ | ⟨r1, blk, E, fr, r2, r3, r4, r5⟩
    . exact absurd r0 hz
    have r2 : w.heap[oi.b]? = some (.cells blk E fr) := r2
    have hb : oi.b < w.heap.size := view_lt (m := false) r2
    have hle : l.length * sz e <= blk.size := by have := r4.le; rwa [show obCells (.arr 0 e l) = encs e l from rfl, encs_len] at this
    have hH : HoldsK (encVs e) (sz e) w oi.b 0 l.toArray := by
     intro j hj
     have hj : j < l.length * sz e := by simpa using hj
     obtain ⟨u, u1, u2⟩ := flat_at l j hj
     obtain ⟨x, x1, x2, x3⟩ := r4.at_ j u u1
     have hu : ∃ k n, u = T.int k n := by
      have := List.mem_of_getElem? u1
      simp only [encs, List.mem_flatten, List.mem_map] at this
      obtain ⟨_, ⟨z, _, rfl⟩, hz⟩ := this
      exact hI z u hz
     obtain ⟨k, n, rfl⟩ := hu
     cases x3
     refine ⟨?_, ?_⟩
     . rw [u2, Nat.zero_add]
       simp only [World.cell?, r2]
       have x1' : blk[j]? = some (tv (.int k n)) := x1
       simpa using x1'
     . rw [Nat.zero_add]
       have := r3 j (by omega)
       simp only [World.frozen?, r2]
       simp
       omega
    rw [f1]
    refine (h1 oi.b oi.cap l w hH hb hl).mono ?_
    rintro r w' ⟨rfl, n, os, rfl⟩
    have hF : (flatK (encVs e) (sz e) (srt l).toArray).size = l.length * sz e := by rw [size_flatK]; simp [hs]
    have hheap : (sortWorldK (encVs e) (sz e) w oi.b 0 n (srt l).toArray os).heap = w.heap.modify oi.b (onCells (putCells id 0 (flatK (encVs e) (sz e) (srt l).toArray))) ++ os := rfl
    have hat : (sortWorldK (encVs e) (sz e) w oi.b 0 n (srt l).toArray os).heap[oi.b]? = some (.cells (putCells id 0 (flatK (encVs e) (sz e) (srt l).toArray) blk) E fr) := by
     rw [hheap, Array.getElem?_append_left (by simpa using hb), Array.getElem?_modify, if_pos rfl, r2]; rfl
    have hps : (putCells id 0 (flatK (encVs e) (sz e) (srt l).toArray) blk).size = blk.size := by simp [putCells]
    obtain ⟨k1, k2, k3⟩ := good_put (st' := [some (.arr 0 e (srt l))]) (k := 0) (v := 0) (o' := .arr 0 e (srt l)) (oi := oi) (w' := sortWorldK (encVs e) (sz e) w oi.b 0 n (srt l).toArray os) hg
     (fun i => by cases i <;> simp) (Nat.zero_le _) (Nat.le_refl _) rfl (.inr o1) (fun u oi' hu => (hg.old 0 u oi' hu).2 _ rfl) ⟨by rw [hs]; exact f1, f2, f3⟩
     (fun _ => .inr ⟨_, rfl, by unfold obBlk; rw [show g.ob 0 (obVer (.arr 0 e l)) = some oi from o1]; simp [hz]⟩) rfl rfl rfl (by rw [hheap]; simp)
     (fun b hbs hbn => by
      have hne : oi.b ≠ b := fun h => hbn _ rfl (by unfold obBlk; rw [show g.ob 0 (obVer (.arr 0 e l)) = some oi from o1]; simp [hz, h])
      rw [hheap, Array.getElem?_append_left (by simpa using hbs), Array.getElem?_modify, if_neg hne])
     (fun _ => ⟨_, E, fr, hat, by rw [hps]; exact r3, ⟨by rw [hps]; show (encs e (srt l)).length <= _; rw [encs_len, hs]; exact hle, fun j u hj => by
      have hj' : j < l.length * sz e := by
       have := (List.getElem?_eq_some_iff.1 hj).1
       rwa [show obCells (.arr 0 e (srt l)) = encs e (srt l) from rfl, encs_len, hs] at this
      obtain ⟨u', u1, u2⟩ := flat_at (srt l) j (by rw [hs]; exact hj')
      have : u' = u := by
       have hj : (encs e (srt l))[j]? = some u := hj
       rw [u1] at hj; exact Option.some.inj hj
      subst this
      have hu : ∃ k n, u' = T.int k n := by
       have := List.mem_of_getElem? u1
       simp only [encs, List.mem_flatten, List.mem_map] at this
       obtain ⟨_, ⟨z, _, rfl⟩, hz⟩ := this
       exact hI z u' hz
      obtain ⟨k, n, rfl⟩ := hu
      refine ⟨.int k n, ?_, rfl, .int k n⟩
      unfold putCells
      have hjb : j < blk.size := by omega
      rw [Array.getElem?_mapIdx, Array.getElem?_eq_getElem hjb]
      simp only [Option.map_some, Nat.zero_le, true_and, Nat.zero_add, Nat.sub_zero]
      rw [if_pos (by rw [hF]; exact hj'), u2]; rfl⟩, by rw [hps]; exact r5⟩)
     (fun o ho => by
      have : o = .arr 0 e l := by simpa using ho.symm
      subst this
      exact ⟨0, srt l, rfl⟩)
    exact ⟨_, _, k1, k2 _, .tu [], hK, .tu [] #[] rfl fun i c x hc => by simp at hc⟩
theorem int_idk (x : Idn) : ∀ u ∈ enc .idk x, ∃ k n, u = T.int k n := by
 intro u hu
 have : ((enc .idk x).all fun u => match u with | .int _ _ => true | _ => false) = true := by kernel_rfl
 have := List.all_eq_true.1 this u hu
 cases u <;> first | exact ⟨_, _, rfl⟩ | cases this
theorem len_pdq {α : Type} [Inhabited α] {lt : α -> α -> Bool} (hO : SWO lt) (d : Array α) : (pdq lt d 0 d.size (Lib.bitLen d.size) true true).size = d.size :=
 (pdq_sorts lt hO d 0 d.size (Lib.bitLen d.size) true true (Nat.zero_le _) (Nat.le_refl _) (Or.inl rfl)).1.1
theorem sortI_len (l : List Idn) : (sortI l).length = l.length := by
 have := len_pdq swo_id l.toArray
 unfold sortI
 simpa using this
theorem agg36 : ∀ w, (isAgg 36).run Tryz.prog w = .ok true w := fun w => by
 unfold isAgg underlying
 simp only [Sem.run_bind, show Tryz.prog.underlying 36 = _ from Tryz.underlying36]
 rfl
end Go.Proofs.YtbglndogddddoaaGreatDoor
namespace Go.Proofs.YtbglndogddddoaaGreatDoor
open Go.RowKit
attribute [local irreducible] dfun dround
set_option maxRecDepth 100000
def H15 : List (Nat × Hint) := []
def J15 : List (Nat × Hint) := []
abbrev S15 : List Sh := [.ag [.leaf, .leaf, .leaf, .leaf, .leaf]]
abbrev L15 : List Lf := [.str, .str, .int .i64, .sl .dig, .sl .chg]
def F15 (g : prodL L15) (K : Kn) : Prop :=
 sp13.pre (g.1, g.2.1, g.2.2.1, g.2.2.2.1, g.2.2.2.2.1, ()) /\
 bif !decide ((exP g.1 g.2.1 g.2.2.1 g.2.2.2.1 g.2.2.2.2.1).2.2 = 0) then (
  K (.tu [.ag (enc .dig dz), .int .i64 ((exP g.1 g.2.1 g.2.2.1 g.2.2.2.1 g.2.2.2.2.1).2.2)]) [])
 else (
  sp33.pre ((exP g.1 g.2.1 g.2.2.1 g.2.2.2.1 g.2.2.2.2.1).2.1, ()) /\
 K (.tu [.ag (enc .dig (shaP ((exP g.1 g.2.1 g.2.2.1 g.2.2.2.1 g.2.2.2.2.1).2.1))), .int .i64 0]) [])
theorem F15_eq (g : prodL L15) (K X : Kn) : F15 g K = dfun D (gamX [] [(13, true, sp13), (33, true, sp33)]) (isRaw []) H15 J15 17 [.cell 2 32, .tmp 3] (codeOf Tryz.f15) (argsT S15 L15 g) [] (settle0 K) X := by kernel_rfl
theorem F15_ok (g : prodL L15) (K X : Kn) (h : F15 g K) : FCalls Tryz.prog 15 (argsT S15 L15 g) [] K X :=
 FCalls.settle0 (dfun_sound D_ok (gmX (gmc sp13_ok (gmc sp33_ok gm0))) gamX_det rfl Tryz.func15 (c := codeOf Tryz.f15) rfl Tryz.ntmps15 Tryz.results15 (by unfold enters; rw [Tryz.func15]; kernel_rfl) (Nat.le_of_ble_eq_true (by kernel_rfl)) (c0 := 0) (Eq.mp (F15_eq g K X) h))
def H86 : List (Nat × Hint) := []
def J86 : List (Nat × Hint) := [(2, ⟨[((2, []), none), ((3, []), none)], [(1, .leaf), (2, .pt 0 0), (3, .pt 1 0), (10, .leaf)], [.el, .el], [.pr .dig, .bool, .el .idk, .el .idk]⟩), (3, ⟨[((2, []), none), ((3, []), none)], [(2, .pt 0 0), (3, .pt 1 0)], [.el, .el], [.el .idk, .el .idk]⟩)]
abbrev S86 : List Sh := [.leaf, .leaf]
abbrev L86 : List Lf := [.el .idk, .pr .dig]
def F86_J4 (K : Kn) (x_3 t_3 : Idn) : Prop :=
 K (.ag (enc .idk x_3)) []
def F86_J2 (K : Kn) (t_1 : Dig) (t2_1 : Bool) (x_1 t3_1 : Idn) : Prop :=
 bif t2_1 then (
  F86_J4 K (⟨t_1, x_1.n⟩ : Idn) t3_1)
 else (
  F86_J4 K x_1 t3_1)
def F86 (g : prodL L86) (K : Kn) : Prop :=
 True /\
 bif ownB g.1 then (
  F86_J2 K g.2.1 (decide (0 <= g.1.n)) g.1 iz)
 else (
  F86_J2 K g.2.1 false g.1 iz)
theorem F86_eq (g : prodL L86) (K X : Kn) : F86 g K = dfun D (gamX [] [(47, true, sp47)]) (isRaw []) H86 J86 14 [.cell 3 36] (codeOf Tryz.f86) (argsT S86 L86 g) [] (settle0 K) X := by kernel_rfl
theorem F86_ok (g : prodL L86) (K X : Kn) (h : F86 g K) : FCalls Tryz.prog 86 (argsT S86 L86 g) [] K X :=
 FCalls.settle0 (dfun_sound (Γ := gamX [] [(47, true, sp47)]) (mu := isRaw []) (H := H86) (J := J86) D_ok (gamX_ok (rs := []) (l := [(47, true, sp47)]) (fun p hp => by cases hp) (by intro p hp; simp only [List.mem_cons, List.not_mem_nil, or_false] at hp; subst hp; exact sp47_ok)) gamX_det rfl Tryz.func86 (c := codeOf Tryz.f86) rfl Tryz.ntmps86 Tryz.results86 (by unfold enters; rw [Tryz.func86]; kernel_rfl) (Nat.le_of_ble_eq_true (by kernel_rfl)) (c0 := 0) (Eq.mp (F86_eq g K X) h))
def sp86 : Sp := ⟨S86, L86, fun _ => True, fun g => .ag (enc .idk (fullI g.2.1 g.1)), fun _ => none⟩
theorem sp86_ok : sp86.Ok Tryz.prog 86 false :=
 ⟨fun g K X hp h => F86_ok g K X (by
  have h : K (.ag (enc .idk (fullI g.2.1 g.1))) [] := h
  refine ⟨trivial, ?_⟩
  unfold fullI at h
  exact bifJ (J := fun b => F86_J2 K g.2.1 b g.1 iz) (f := fun b => bif b then (⟨g.2.1, g.1.n⟩ : Idn) else g.1) (K := fun x => K (.ag (enc .idk x)) []) (fun b h => by unfold F86_J2; cases b <;> exact h) h), fun _ _ _ => rfl, fun _ => rfl, by first | exact fun _ _ => ⟨rfl, rfl⟩ | (intro h; cases h)⟩
end Go.Proofs.YtbglndogddddoaaGreatDoor
namespace Go.Proofs.YtbglndogddddoaaGreatDoor
open Go.RowKit Go.Lib Go.Shelf Go.Sort
set_option maxRecDepth 100000
theorem size36 : ∀ w, (Go.sizeOf 36).run Tryz.prog w = .ok 33 w := fun w => quiet_run (by rw [quiet_size, show Tryz.prog.info? 36 = some Tryz.t36 from Tryz.type36]; rfl) w
theorem encVs_one {e : El} (x : ty e) (hI : ∀ u ∈ enc e x, ∃ k n, u = T.int k n) : ∀ v ∈ encVs e x, v.oneCell' = true := fun v hv => by
 obtain ⟨u, hu, rfl⟩ := List.mem_map.1 hv
 obtain ⟨k, n, rfl⟩ := hI u hu
 rfl
theorem F87_ok {l : List Idn} {K X : Kn} (hl : l.length <= 4194304) (h : K (.tu []) [some (.arr 0 .idk (sortI l))]) : FCalls Tryz.prog 87 [.oa .idk 0 0, .fn 17 [] []] [some (.arr 0 .idk l)] K X 1 :=
 sort_ok (e := .idk) int_idk (srt := sortI) (by kernel_rfl) (by rfl)
  (fun p cap fv w => AnyF.slices_SortFunc_none laysSortI p cap fv w)
  (fun b cap l w hH hb hs => by
   have eg : ∀ args w, (callFunc 17 args).run Tryz.prog w = .ok (.enter 17 args) w := enters_of Tryz.func17 (by kernel_rfl) rfl
   have := AnyQ.slices_SortFunc_eq laysSortI 33 agg36 size36 (encVs .idk) (fun x => rfl) (fun x => encVs_one x (int_idk x)) idC swo_id 17 #[] b 0 cap l.toArray w eg (fun m os dk hk x y => cmp17 x y _) hH hb (by show l.length < _; omega)
   exact this.mono fun r w' ⟨e1, n, os, e2⟩ => ⟨e1, n, os, by rw [e2]; rfl⟩)
  sortI_len (by omega) h
abbrev S87 : List Sh := [.oa .idk 0, .fn 17 [] []]
abbrev O87 : List ObSh := [.arr .idk]
abbrev L87 : List Lf := [.sl .idk]
def rw87 : Raw := ⟨S87, O87, L87, 1, fun g K _ => pre87 g /\ K (.tu []) [some (.arr 0 .idk (sortI g.1))]⟩
theorem rw87_ok : rw87.Ok Tryz.prog 87 := fun g K X h => F87_ok h.1 h.2
theorem exP_size {a m : ByteArray} {t : Int} {ds : List Dig} {cs : List Chg} : (exP a m t ds cs).2.1.size <= 65536 := by
 by_cases z : (exP a m t ds cs).2.2 = 0
 . have h := exP_ok z
   rw [exP_eq z]
   show (enT (patX a m t (patD ds) cs)).1.size <= 65536
   omega
 . have e0 : (⟨#[]⟩ : ByteArray).size = 0 := rfl
   have : (exP a m t ds cs).2.1 = ⟨#[]⟩ := by
    unfold exP at z ⊢
    cases h1 : decide (headB digC a m t ds cs = 0)
    . rfl
    . rw [h1] at z
      simp only [Bool.not_true, cond_false] at z ⊢
      unfold exEnd at z ⊢
      cases h2 : decide ((chgsP cs).2 = 0)
      . rfl
      . rw [h2] at z
        simp only [Bool.not_true, cond_false] at z ⊢
        unfold exP5 at z ⊢
        revert z
        generalize (bif !decide ((enT (patX a m t (patD ds) cs)).2 = 0) then true else decide (65536 < ((enT (patX a m t (patD ds) cs)).1.size : Int))) = b
        intro z
        cases b
        . exact absurd rfl z
        . rfl
   rw [this, e0]; omega
theorem F15_is {a m : ByteArray} {t : Int} {ds : List Dig} {cs : List Chg} {K : Kn} (hp : xP a m t ds cs) (h : K (.tu [.ag (enc .dig (idP a m t ds cs).1), .int .i64 (idP a m t ds cs).2]) []) : F15 (a, m, t, ds, cs, ()) K := by
 unfold F15
 refine ⟨hp, ?_⟩
 unfold idP at h
 show bif !decide ((exP a m t ds cs).2.2 = 0) then _ else _
 by_cases z : (exP a m t ds cs).2.2 = 0
 . rw [decide_eq_true z] at h ⊢
   exact ⟨Nat.le_trans exP_size (by omega), h⟩
 . rw [decide_eq_false z] at h ⊢
   exact h
def sp15 : Sp := ⟨S15, L15, fun g => xP g.1 g.2.1 g.2.2.1 g.2.2.2.1 g.2.2.2.2.1, fun g => .tu [.ag (enc .dig (idP g.1 g.2.1 g.2.2.1 g.2.2.2.1 g.2.2.2.2.1).1), .int .i64 (idP g.1 g.2.1 g.2.2.1 g.2.2.2.1 g.2.2.2.2.1).2], fun _ => none⟩
theorem sp15_ok : sp15.Ok Tryz.prog 15 true :=
 ⟨fun g K X hp h => F15_ok g K X (F15_is hp h), fun _ _ _ => rfl, fun _ => rfl, fun _ _ => ⟨rfl, rfl⟩⟩
end Go.Proofs.YtbglndogddddoaaGreatDoor
namespace Go.Proofs.YtbglndogddddoaaGreatDoor
open Go.RowKit
attribute [local irreducible] dfun dround
set_option maxRecDepth 100000
def H44 : List (Nat × Hint) := [(9, ⟨[((4, []), none)], [(4, .oa .atm 0), (8, .fn 86 [] [.leaf]), (32, .oa .atm 0), (33, .leaf), (34, .leaf)], [.arr .atm], [.pr .dig, .int .i64, .int .i64, .sl .atm]⟩), (20, ⟨[((4, []), none), ((10, []), none), ((11, []), some .idk)], [(4, .oa .atm 0), (8, .fn 86 [] [.leaf]), (9, .leaf), (10, .pt 1 0), (11, .oa .idk 2), (32, .oa .atm 0), (33, .leaf), (34, .leaf), (74, .leaf), (75, .leaf), (76, .leaf)], [.arr .atm, .el, .arr .idk], [.pr .dig, .int .i64, .int .i64, .int .i64, .sl .idk, .int .i64, .int .i64, .sl .atm, .el .atm, .sl .idk]⟩)]
def J44 : List (Nat × Hint) := [(7, ⟨[((4, []), none)], [(4, .oa .atm 0), (7, .leaf)], [.arr .atm], [.pr .dig, .sl .atm]⟩), (14, ⟨[((4, []), none), ((10, []), none)], [(4, .oa .atm 0), (8, .fn 86 [] [.leaf]), (9, .leaf), (10, .pt 1 0), (32, .oa .atm 0), (33, .leaf), (34, .leaf)], [.arr .atm, .el], [.pr .dig, .int .i64, .int .i64, .int .i64, .sl .atm, .el .atm]⟩), (16, ⟨[((4, []), none), ((10, []), none)], [(4, .oa .atm 0), (8, .fn 86 [] [.leaf]), (9, .leaf), (10, .pt 1 0), (32, .oa .atm 0), (33, .leaf), (34, .leaf)], [.arr .atm, .el], [.pr .dig, .int .i64, .int .i64, .int .i64, .sl .atm, .el .atm]⟩), (18, ⟨[((4, []), none), ((10, []), none)], [(4, .oa .atm 0), (8, .fn 86 [] [.leaf]), (9, .leaf), (10, .pt 1 0), (32, .oa .atm 0), (33, .leaf), (34, .leaf)], [.arr .atm, .el], [.pr .dig, .int .i64, .int .i64, .int .i64, .sl .atm, .el .atm]⟩), (25, ⟨[((4, []), none), ((10, []), none)], [(4, .oa .atm 0), (8, .fn 86 [] [.leaf]), (9, .leaf), (10, .pt 1 0), (11, .leaf), (32, .oa .atm 0), (33, .leaf), (34, .leaf)], [.arr .atm, .el], [.pr .dig, .int .i64, .sl .idk, .int .i64, .int .i64, .sl .atm, .el .atm]⟩)]
abbrev S44 : List Sh := [.ag [.leaf, .leaf, .leaf, .leaf, .leaf]]
abbrev L44 : List Lf := [.str, .str, .int .i64, .sl .dig, .sl .chg]
def F44_J16 (K : Kn) (W3 : prodL [.pr .dig, .int .i64, .int .i64, .sl .atm] -> Prop) (full_14 : Dig) (i_14 : Int) (over_14 : List Idn) (t_14 t2_14 : Int) (l_14 : List Atm) (x_14 : Atm) : Prop :=
 0 <= i_14 /\ i_14.toNat < l_14.length /\
 atI l_14 i_14.toNat fun x15 =>
 W3 (full_14, t_14, IntKind.i64.wrap (t2_14 + 1), l_14.set i_14.toNat (⟨x_14.id, x_14.kind, x_14.file, x_14.typ, x_14.parent, x_14.name, x_14.mode, x_14.data, x_14.text, x_14.frm, x_14.til, over_14⟩ : Atm), ())
def F44_B12 (K : Kn) (W3 : prodL [.pr .dig, .int .i64, .int .i64, .sl .atm] -> Prop) (W12 : prodL [.pr .dig, .int .i64, .int .i64, .int .i64, .sl .idk, .int .i64, .int .i64, .sl .atm, .el .atm, .sl .idk] -> Prop) (full_11 : Dig) (i_11 t_11 t2_11 : Int) (t3_11 : List Idn) (t4_11 t5_11 : Int) (l_11 : List Atm) (x_11 : Atm) (over_11 : List Idn) : Prop :=
 bif decide (t5_11 < t4_11) then (
  At t3_11 t5_11 fun u13 =>
 True /\
 Room (over_11.length + [(fullI full_11 u13)].length) 40 (
 W12 (full_11, i_11, t_11, t2_11, t3_11, t4_11, IntKind.i64.wrap (t5_11 + 1), l_11, x_11, over_11 ++ [(fullI full_11 u13)], ())))
 else (
  pre87 (over_11, ()) /\
 F44_J16 K W3 full_11 i_11 (sortI over_11) t_11 t2_11 l_11 x_11)
def F44_L12 (K : Kn) (W3 : prodL [.pr .dig, .int .i64, .int .i64, .sl .atm] -> Prop) (g : prodL [.pr .dig, .int .i64, .int .i64, .int .i64, .sl .idk, .int .i64, .int .i64, .sl .atm, .el .atm, .sl .idk]) : Prop :=
 LoopW (γ := prodL [.pr .dig, .int .i64, .int .i64, .int .i64, .sl .idk, .int .i64, .int .i64, .sl .atm, .el .atm, .sl .idk]) (fun V y => F44_B12 K W3 V y.1 y.2.1 y.2.2.1 y.2.2.2.1 y.2.2.2.2.1 y.2.2.2.2.2.1 y.2.2.2.2.2.2.1 y.2.2.2.2.2.2.2.1 y.2.2.2.2.2.2.2.2.1 y.2.2.2.2.2.2.2.2.2.1) g
def F44_J17 (K : Kn) (W3 : prodL [.pr .dig, .int .i64, .int .i64, .sl .atm] -> Prop) (full_7 : Dig) (i_7 t_7 t2_7 : Int) (l_7 : List Atm) (x_7 : Atm) : Prop :=
 F44_L12 K W3 (full_7, i_7, t_7, t2_7, x_7.over, (x_7.over.length : Int), 0, l_7, x_7, [], ())
def F44_J18 (K : Kn) (W3 : prodL [.pr .dig, .int .i64, .int .i64, .sl .atm] -> Prop) (full_6 : Dig) (i_6 t_6 t2_6 : Int) (l_6 : List Atm) (x_6 : Atm) : Prop :=
 bif decide (x_6.kind = 6) then (
  True /\
  True /\
  F44_J17 K W3 full_6 i_6 t_6 t2_6 l_6 (⟨x_6.id, x_6.kind, x_6.file, x_6.typ, x_6.parent, x_6.name, x_6.mode, x_6.data, x_6.text, fullI full_6 x_6.frm, fullI full_6 x_6.til, x_6.over⟩ : Atm))
 else (
  F44_J17 K W3 full_6 i_6 t_6 t2_6 l_6 x_6)
def F44_J19 (K : Kn) (W3 : prodL [.pr .dig, .int .i64, .int .i64, .sl .atm] -> Prop) (full_5 : Dig) (i_5 t_5 t2_5 : Int) (l_5 : List Atm) (x_5 : Atm) : Prop :=
 bif decide (x_5.kind = 2) then (
  True /\
  F44_J18 K W3 full_5 i_5 t_5 t2_5 l_5 (⟨x_5.id, x_5.kind, x_5.file, x_5.typ, fullI full_5 x_5.parent, x_5.name, x_5.mode, x_5.data, x_5.text, x_5.frm, x_5.til, x_5.over⟩ : Atm))
 else (
  F44_J18 K W3 full_5 i_5 t_5 t2_5 l_5 x_5)
def F44_B3 (K : Kn) (W3 : prodL [.pr .dig, .int .i64, .int .i64, .sl .atm] -> Prop) (full_2 : Dig) (t_2 t2_2 : Int) (l_2 : List Atm) : Prop :=
 bif decide (t2_2 < t_2) then (
  0 <= t2_2 /\ t2_2.toNat < l_2.length /\
 atI l_2 t2_2.toNat fun x4 =>
 True /\
 bif !decide (x4.kind = 7) then (
  True /\
  F44_J19 K W3 full_2 t2_2 t_2 t2_2 l_2 (⟨fullI full_2 x4.id, x4.kind, fullI full_2 x4.file, x4.typ, x4.parent, x4.name, x4.mode, x4.data, x4.text, x4.frm, x4.til, x4.over⟩ : Atm))
 else (
  F44_J19 K W3 full_2 t2_2 t_2 t2_2 l_2 (⟨fullI full_2 x4.id, x4.kind, x4.file, x4.typ, x4.parent, x4.name, x4.mode, x4.data, x4.text, x4.frm, x4.til, x4.over⟩ : Atm)))
 else (
  K (.tu [.sl false .atm l_2, .int .i64 0]) [])
def F44_L3 (K : Kn) (g : prodL [.pr .dig, .int .i64, .int .i64, .sl .atm]) : Prop :=
 LoopW (γ := prodL [.pr .dig, .int .i64, .int .i64, .sl .atm]) (fun V y => F44_B3 K V y.1 y.2.1 y.2.2.1 y.2.2.2.1) g
def F44_J20 (K : Kn) (patch_1 : Dig) (l_1 : List Atm) : Prop :=
 F44_L3 K (patch_1, (l_1.length : Int), 0, l_1, ())
def F44 (g : prodL L44) (K : Kn) : Prop :=
 sp36.pre (g.1, g.2.1, g.2.2.1, g.2.2.2.1, g.2.2.2.2.1, ()) /\
 bif !decide ((exP g.1 g.2.1 g.2.2.1 g.2.2.2.1 g.2.2.2.2.1).2.2 = 0) then (
  K (.tu [.nil, .int .i64 ((exP g.1 g.2.1 g.2.2.1 g.2.2.2.1 g.2.2.2.2.1).2.2)]) [])
 else (
  sp15.pre (g.1, g.2.1, g.2.2.1, g.2.2.2.1, g.2.2.2.2.1, ()) /\
 bif !decide ((idP g.1 g.2.1 g.2.2.1 g.2.2.2.1 g.2.2.2.2.1).2 = 0) then (
  K (.tu [.nil, .int .i64 ((idP g.1 g.2.1 g.2.2.1 g.2.2.2.1 g.2.2.2.2.1).2)]) [])
 else (
  F44_J20 K ((idP g.1 g.2.1 g.2.2.1 g.2.2.2.1 g.2.2.2.2.1).1) ((exP g.1 g.2.1 g.2.2.1 g.2.2.2.1 g.2.2.2.2.1).1)))
theorem F44_eq (g : prodL L44) (K X : Kn) : F44 g K = dfun D (gamX [(87, rw87)] [(15, true, sp15), (36, false, sp36), (86, false, sp86)]) (isRaw [(87, rw87)]) H44 J44 97 [.tmp 2, .tmp 3] (codeOf Tryz.f44) (argsT S44 L44 g) [] (settle0 K) X := by kernel_rfl
theorem F44_ok (g : prodL L44) (K X : Kn) (h : F44 g K) : FCalls Tryz.prog 44 (argsT S44 L44 g) [] K X :=
 FCalls.settle0 (dfun_sound (Γ := gamX [(87, rw87)] [(15, true, sp15), (36, false, sp36), (86, false, sp86)]) (mu := isRaw [(87, rw87)]) (H := H44) (J := J44) D_ok (gamX_ok (rs := [(87, rw87)]) (l := [(15, true, sp15), (36, false, sp36), (86, false, sp86)]) (by intro p hp; simp only [List.mem_cons, List.not_mem_nil, or_false] at hp; subst hp; exact rw87_ok) (by intro p hp; simp only [List.mem_cons, List.not_mem_nil, or_false] at hp; rcases hp with rfl | rfl | rfl <;> first | exact sp15_ok | exact sp36_ok | exact sp86_ok)) gamX_det rfl Tryz.func44 (c := codeOf Tryz.f44) rfl Tryz.ntmps44 Tryz.results44 (by unfold enters; rw [Tryz.func44]; kernel_rfl) (Nat.le_of_ble_eq_true (by kernel_rfl)) (c0 := 0) (Eq.mp (F44_eq g K X) h))
end Go.Proofs.YtbglndogddddoaaGreatDoor
namespace Go.Proofs.YtbglndogddddoaaGreatDoor
open Go.RowKit
set_option maxRecDepth 100000
def lAt (d : Dig) (l : List Atm) (n : Nat) : List Atm := (l.take n).map (cmpA d) ++ l.drop n
theorem lAt_len (d : Dig) (l : List Atm) (n : Nat) : (lAt d l n).length = l.length := by
 unfold lAt
 rw [List.length_append, List.length_map, List.length_take, List.length_drop]; omega
theorem lAt_get (d : Dig) {l : List Atm} {n : Nat} (h : n < l.length) : (lAt d l n)[n]'(by rw [lAt_len]; exact h) = l[n] := by
 unfold lAt
 rw [List.getElem_append_right (by simp; omega)]
 simp [List.length_take, Nat.min_eq_left (Nat.le_of_lt h)]
theorem lAt_set (d : Dig) {l : List Atm} {n : Nat} (h : n < l.length) : (lAt d l n).set n (cmpA d l[n]) = lAt d l (n + 1) := by
 unfold lAt
 rw [List.set_append_right _ _ (by simp; omega)]
 simp only [List.length_map, List.length_take, Nat.min_eq_left (Nat.le_of_lt h), Nat.sub_self]
 rw [List.drop_eq_getElem_cons h, List.set_cons_zero, take_snoc h, List.map_append]
 simp
theorem F44_J17_is {K : Kn} {W : prodL [.pr .dig, .int .i64, .int .i64, .sl .atm] -> Prop} {d : Dig} {i t t2 : Int} {l : List Atm} {x : Atm} (hx : x.over.length <= 4194304) (hi : 0 <= i /\ i.toNat < l.length)
  (h : W (d, t, IntKind.i64.wrap (t2 + 1), l.set i.toNat (aJ17 d x), ())) : F44_J17 K W d i t t2 l x := by
 unfold F44_J17 F44_L12
 refine LoopW.map x.over (fullI d) (fun n out => (d, i, t, t2, x.over, (x.over.length : Int), n, l, x, out, ())) (by omega) rfl (fun V n hn out ho hV => ?_) fun V => ?_
 . show F44_B12 K W V d i t t2 x.over x.over.length n l x out
   unfold F44_B12
   rw [lt_true hn, cond_true]
   exact At_of hn ⟨trivial, by simp only [List.length_singleton, ho]; omega, hV⟩
 . show F44_B12 K W V d i t t2 x.over x.over.length x.over.length l x (x.over.map (fullI d))
   unfold F44_B12
   rw [lt_false, cond_false]
   refine ⟨by show (x.over.map (fullI d)).length <= _; rw [List.length_map]; exact hx, ?_⟩
   unfold F44_J16
   exact ⟨hi.1, hi.2, l[i.toNat], getQ hi.2, h⟩
theorem F44_J18_is {K : Kn} {W : prodL [.pr .dig, .int .i64, .int .i64, .sl .atm] -> Prop} {d : Dig} {i t t2 : Int} {l : List Atm} {x : Atm} (hx : x.over.length <= 4194304) (hi : 0 <= i /\ i.toNat < l.length)
  (h : W (d, t, IntKind.i64.wrap (t2 + 1), l.set i.toNat (aJ18 d x), ())) : F44_J18 K W d i t t2 l x := by
 unfold F44_J18
 unfold aJ18 at h
 cases e : decide (x.kind = 6)
 . rw [e] at h; exact F44_J17_is hx hi h
 . rw [e] at h; exact ⟨trivial, trivial, F44_J17_is (by exact hx) hi h⟩
theorem F44_J19_is {K : Kn} {W : prodL [.pr .dig, .int .i64, .int .i64, .sl .atm] -> Prop} {d : Dig} {i t t2 : Int} {l : List Atm} {x : Atm} (hx : x.over.length <= 4194304) (hi : 0 <= i /\ i.toNat < l.length)
  (h : W (d, t, IntKind.i64.wrap (t2 + 1), l.set i.toNat (aJ19 d x), ())) : F44_J19 K W d i t t2 l x := by
 unfold F44_J19
 unfold aJ19 at h
 cases e : decide (x.kind = 2)
 . rw [e] at h; exact F44_J18_is hx hi h
 . rw [e] at h; exact ⟨trivial, F44_J18_is (by exact hx) hi h⟩
theorem F44_L3_is {K : Kn} {d : Dig} {l : List Atm} (hl : l.length <= 16777216) (hx : ∀ x ∈ l, x.over.length <= 4194304) (h : K2 K (l.map (cmpA d), 0)) : F44_L3 K (d, (l.length : Int), 0, l, ()) := by
 unfold F44_L3
 refine LoopW.countTo l.length (fun n => (d, (l.length : Int), (n : Int), lAt d l n, ())) (fun _ => True) (by simp [lAt]) (fun n hn _ W hW => ?_) trivial
 show F44_B3 K W d l.length n (lAt d l n)
 unfold F44_B3
 have hlen := lAt_len d l n
 by_cases hlt : n < l.length
 . rw [lt_true hlt, cond_true]
   have hn' : ((n : Nat) : Int).toNat < (lAt d l n).length := by omega
   refine ⟨by omega, hn', ?_⟩
   have hW := hW hlt trivial
   rw [<- lAt_set d hlt, <- wrapS hlt (by omega)] at hW
   refine ⟨l[n], by rw [toN, getQ (show n < (lAt d l n).length by omega), lAt_get d hlt], trivial, ?_⟩
   have hxo := hx l[n] (List.getElem_mem _)
   generalize l[n] = x at hW hxo
   show bif !decide (x.kind = 7) then _ else _
   unfold cmpA at hW
   cases e : decide (x.kind = 7)
   . rw [e] at hW
     exact ⟨trivial, F44_J19_is (by exact hxo) ⟨by omega, hn'⟩ (by rw [toN]; exact hW)⟩
   . rw [e] at hW
     exact F44_J19_is (by exact hxo) ⟨by omega, hn'⟩ (by rw [toN]; exact hW)
 . have : n = l.length := by omega
   subst this
   rw [lt_false, cond_false]
   have : lAt d l l.length = l.map (cmpA d) := by unfold lAt; simp
   rw [this]; exact h
theorem madeL_over {c : Chg} {n : Int} {x : Atm} (hx : x ∈ madeL c n) : x.over = c.over ∨ x.over = [] := by
 unfold madeL madK at hx
 split at hx
 case h_5 =>
  rcases List.mem_append.1 hx with hx | hx
  . obtain ⟨i, _, rfl⟩ := List.mem_map.1 hx; exact .inr rfl
  . obtain ⟨i, _, rfl⟩ := List.mem_map.1 hx; exact .inr rfl
 case h_8 => cases hx
 all_goals (rw [List.mem_singleton.1 hx]; first | exact .inl rfl | exact .inr rfl)
theorem chgsG_over {f : Chg -> Int} {r : Chg -> List Atm -> Int} {Q : List Idn -> Prop} (h0 : Q []) : ∀ {cs : List Chg} {own : List Atm}, (∀ c ∈ cs, Q c.over) -> (∀ x ∈ own, Q x.over) -> ∀ x ∈ (chgsG f r cs own).1, Q x.over
 | [], own, _, h, x, hx => h x hx
 | c :: l, own, hc, h, x, hx => by
  rw [chgsG] at hx
  cases e1 : decide (f c = 0)
  . rw [e1] at hx; cases hx
  rw [e1] at hx
  cases e2 : decide (r c own = 0)
  . rw [e2] at hx; cases hx
  rw [e2] at hx
  refine chgsG_over h0 (fun d hd => hc d (List.mem_cons_of_mem _ hd)) (fun y hy => ?_) x hx
  rcases List.mem_append.1 hy with hy | hy
  . exact h y hy
  . rcases madeL_over hy with e | e
    . rw [e]; exact hc c (List.mem_cons_self ..)
    . rw [e]; exact h0
theorem chgsG_len {f : Chg -> Int} {r : Chg -> List Atm -> Int} (hk : ∀ c, f c = 0 -> kindP c) : ∀ {cs : List Chg} {own : List Atm}, (chgsG f r cs own).1.length <= own.length + 2 * (cs.map bk_chg).sum
 | [], own => by simp [chgsG]
 | c :: l, own => by
  rw [chgsG]
  cases e1 : decide (f c = 0)
  . simp
  cases e2 : decide (r c own = 0)
  . simp
  simp only [Bool.not_true, cond_false]
  have h1 := chgsG_len (r := r) hk (cs := l) (own := own ++ madeL c own.length)
  have h2 := madeL_le (n := (own.length : Int)) (hk c (of_decide_eq_true e1))
  rw [List.length_append] at h1
  simp only [List.map_cons, List.sum_cons]
  omega
theorem exP_atoms {a m : ByteArray} {t : Int} {ds : List Dig} {cs : List Chg} : (exP a m t ds cs).1 = (chgsP cs).1 ∨ (exP a m t ds cs).1 = [] := by
 unfold exP
 cases decide (headB digC a m t ds cs = 0)
 . exact .inr rfl
 . simp only [Bool.not_true, cond_false]
   unfold exEnd
   cases decide ((chgsP cs).2 = 0)
   . exact .inr rfl
   . simp only [Bool.not_true, cond_false]
     unfold exP5
     generalize (bif !decide ((enT (patX a m t (patD ds) cs)).2 = 0) then true else decide (65536 < ((enT (patX a m t (patD ds) cs)).1.size : Int))) = b
     cases b
     . exact .inl rfl
     . exact .inr rfl
theorem exP_lens {a m : ByteArray} {t : Int} {ds : List Dig} {cs : List Chg} (hp : xP a m t ds cs) : (exP a m t ds cs).1.length <= 16777216 /\ ∀ x ∈ (exP a m t ds cs).1, x.over.length <= 4194304 := by
 have h5 := hp.2.2.2.2.1
 rcases exP_atoms (a := a) (m := m) (t := t) (ds := ds) (cs := cs) with e | e
 . rw [e]
   refine ⟨?_, ?_⟩
   . have := chgsG_len (f := fieldsP) (r := refsP) (fun c => kind_of_fieldsP) (cs := cs) (own := [])
     unfold chgsP
     simp only [List.length_nil] at this
     omega
   . exact chgsG_over (Q := fun l => l.length <= 4194304) (by simp) (fun c hc => (chP_parts (chP_of h5 hc)).2.2.2.2) (fun x hx => by cases hx)
 . rw [e]
   exact ⟨by simp, fun x hx => by cases hx⟩
theorem F44_is {a m : ByteArray} {t : Int} {ds : List Dig} {cs : List Chg} {K : Kn} (hp : xP a m t ds cs) (h : K2 K (atmP a m t ds cs)) : F44 (a, m, t, ds, cs, ()) (wkK K) := by
 have hl := exP_lens hp
 unfold F44
 unfold atmP at h
 refine ⟨hp, ?_⟩
 show bif !decide ((exP a m t ds cs).2.2 = 0) then _ else _
 cases e1 : decide ((exP a m t ds cs).2.2 = 0)
 . rw [e1] at h; exact wkK_nilT h
 rw [e1] at h
 rw [Bool.not_true, cond_false] at h ⊢
 refine ⟨hp, ?_⟩
 show bif !decide ((idP a m t ds cs).2 = 0) then _ else _
 cases e2 : decide ((idP a m t ds cs).2 = 0)
 . rw [e2] at h; exact wkK_nilT h
 rw [e2] at h
 exact F44_L3_is hl.1 hl.2 (wkK.same h)
def sp44 : Sp := ⟨S44, L44, fun g => xP g.1 g.2.1 g.2.2.1 g.2.2.2.1 g.2.2.2.2.1, fun g => .tu [.sl false .atm (atmP g.1 g.2.1 g.2.2.1 g.2.2.2.1 g.2.2.2.2.1).1, .int .i64 (atmP g.1 g.2.1 g.2.2.1 g.2.2.2.1 g.2.2.2.2.1).2], fun _ => none⟩
theorem sp44_ok : sp44.Ok Tryz.prog 44 false :=
 ⟨fun g K X hp h => FCalls.weak (F44_ok g (wkK K) X (F44_is hp h)), fun _ _ _ => rfl, fun _ => rfl, fun h => (by cases h)⟩
set_option maxRecDepth 100000
def smallL : List Chg := [⟨1, iz, 1, iz, ⟨#[]⟩, 0, ⟨#[]⟩, iz, iz, [], []⟩, ⟨2, iz, 0, ⟨dz, -1⟩, ⟨#[102]⟩, 0, ⟨#[]⟩, iz, iz, [], []⟩, ⟨5, iz, 0, iz, ⟨#[]⟩, 0, ⟨#[]⟩, iz, iz, [⟨#[120]⟩], []⟩]
def annS : ByteArray := ⟨#[97, 110, 110]⟩
end Go.Proofs.YtbglndogddddoaaGreatDoor
namespace Go.Proofs.YtbglndogddddoaaGreatDoor
open Go.RowKit
attribute [local irreducible] dfun dround
set_option maxRecDepth 100000
def H25 : List (Nat × Hint) := []
def J25 : List (Nat × Hint) := []
abbrev S25 : List Sh := [.ag [.leaf, .leaf, .leaf, .leaf, .leaf]]
abbrev L25 : List Lf := [.str, .str, .int .i64, .sl .dig, .sl .chg]
def F25 (g : prodL L25) (K : Kn) : Prop :=
 sp44.pre (g.1, g.2.1, g.2.2.1, g.2.2.2.1, g.2.2.2.2.1, ()) /\
 K (.tu [.sl false .atm ((atmP g.1 g.2.1 g.2.2.1 g.2.2.2.1 g.2.2.2.2.1).1), .int .i64 ((atmP g.1 g.2.1 g.2.2.1 g.2.2.2.1 g.2.2.2.2.1).2)]) []
theorem F25_eq (g : prodL L25) (K X : Kn) : F25 g K = dfun D (gamX [] [(44, false, sp44)]) (isRaw []) H25 J25 13 [.tmp 2, .tmp 3] (codeOf Tryz.f25) (argsT S25 L25 g) [] (settle0 K) X := by kernel_rfl
theorem F25_ok (g : prodL L25) (K X : Kn) (h : F25 g K) : FCalls Tryz.prog 25 (argsT S25 L25 g) [] K X :=
 FCalls.settle0 (dfun_sound (Γ := gamX [] [(44, false, sp44)]) (mu := isRaw []) (H := H25) (J := J25) D_ok (gamX_ok (rs := []) (l := [(44, false, sp44)]) (fun p hp => by cases hp) (by intro p hp; simp only [List.mem_cons, List.not_mem_nil, or_false] at hp; subst hp; exact sp44_ok)) gamX_det rfl Tryz.func25 (c := codeOf Tryz.f25) rfl Tryz.ntmps25 Tryz.results25 (by unfold enters; rw [Tryz.func25]; kernel_rfl) (Nat.le_of_ble_eq_true (by kernel_rfl)) (c0 := 0) (Eq.mp (F25_eq g K X) h))
def sp25 : Sp := ⟨S25, L25, fun g => sp44.pre g, fun g => .tu [.sl false .atm ((atmP g.1 g.2.1 g.2.2.1 g.2.2.2.1 g.2.2.2.2.1).1), .int .i64 ((atmP g.1 g.2.1 g.2.2.1 g.2.2.2.1 g.2.2.2.2.1).2)], fun _ => none⟩
theorem sp25_ok : sp25.Ok Tryz.prog 25 false :=
 ⟨fun g K X hp h => F25_ok g K X (by
  have h : K (.tu [.sl false .atm ((atmP g.1 g.2.1 g.2.2.1 g.2.2.2.1 g.2.2.2.2.1).1), .int .i64 ((atmP g.1 g.2.1 g.2.2.1 g.2.2.2.1 g.2.2.2.2.1).2)]) [] := h
  exact ⟨hp, h⟩), fun _ _ _ => rfl, fun _ => rfl, by first | exact fun _ _ => ⟨rfl, rfl⟩ | (intro h; cases h)⟩
def H35 : List (Nat × Hint) := []
def J35 : List (Nat × Hint) := []
abbrev S35 : List Sh := []
abbrev L35 : List Lf := []
def F35 (g : prodL L35) (K : Kn) : Prop :=
 True /\
 K (.ag [.str (⟨#[97, 110, 110]⟩ : ByteArray), .str (⟨#[]⟩ : ByteArray), .int .i64 5, .nil, .sl true .chg [(⟨1, iz, 1, iz, (⟨#[]⟩ : ByteArray), 0, (⟨#[]⟩ : ByteArray), iz, iz, [], []⟩ : Chg), (⟨2, iz, 0, ⟨dz, -1⟩, (⟨#[102]⟩ : ByteArray), 0, (⟨#[]⟩ : ByteArray), iz, iz, [], []⟩ : Chg), (⟨5, iz, 0, iz, (⟨#[]⟩ : ByteArray), 0, (⟨#[]⟩ : ByteArray), iz, iz, [(⟨#[120]⟩ : ByteArray)], []⟩ : Chg)]]) []
theorem F35_eq (g : prodL L35) (K X : Kn) : F35 g K = dfun D (gamX [] [(28, false, sp28)]) (isRaw []) H35 J35 8 [.cell 0 25] (codeOf Tryz.f35) (argsT S35 L35 g) [] (settle0 K) X := by kernel_rfl
theorem F35_ok (g : prodL L35) (K X : Kn) (h : F35 g K) : FCalls Tryz.prog 35 (argsT S35 L35 g) [] K X :=
 FCalls.settle0 (dfun_sound (Γ := gamX [] [(28, false, sp28)]) (mu := isRaw []) (H := H35) (J := J35) D_ok (gamX_ok (rs := []) (l := [(28, false, sp28)]) (fun p hp => by cases hp) (by intro p hp; simp only [List.mem_cons, List.not_mem_nil, or_false] at hp; subst hp; exact sp28_ok)) gamX_det rfl Tryz.func35 (c := codeOf Tryz.f35) rfl Tryz.ntmps35 Tryz.results35 (by unfold enters; rw [Tryz.func35]; kernel_rfl) (Nat.le_of_ble_eq_true (by kernel_rfl)) (c0 := 0) (Eq.mp (F35_eq g K X) h))
end Go.Proofs.YtbglndogddddoaaGreatDoor
namespace Go.Proofs.YtbglndogddddoaaGreatDoor
open Go.RowKit
set_option maxRecDepth 100000
def sp35 : Sp := ⟨S35, L35, fun _ => True, fun _ => .ag [.str ⟨#[97, 110, 110]⟩, .str ⟨#[]⟩, .int .i64 5, .sl false .dig [], .sl false .chg smallL], fun _ => none⟩
theorem sp35_ok : sp35.Ok Tryz.prog 35 false :=
 ⟨fun g K X _ h => FCalls.weak (F35_ok g (wkK K) X ⟨trivial, _, Weak.ag (WeakL.cons (Weak.refl _) (WeakL.cons (Weak.refl _) (WeakL.cons (Weak.refl _) (WeakL.cons (Weak.nil .dig) (WeakL.cons (Weak.sl true .chg _) WeakL.nil))))), h⟩), fun _ _ _ => rfl, fun _ => rfl, fun h => (by cases h)⟩
theorem chgsS : chgsP smallL = ([⟨idO 0, 1, idO 0, 1, iz, ⟨#[]⟩, 0, ⟨#[]⟩, ⟨#[]⟩, iz, iz, []⟩, ⟨idO 1, 2, iz, 0, ⟨dz, -1⟩, ⟨#[102]⟩, 0, ⟨#[]⟩, ⟨#[]⟩, iz, iz, []⟩,
 ⟨idO 2, 5, iz, 0, iz, ⟨#[]⟩, 0, ⟨#[]⟩, ⟨#[120]⟩, iz, iz, []⟩, ⟨idO 3, 6, iz, 0, iz, ⟨#[]⟩, 0, ⟨#[]⟩, ⟨#[]⟩, iz, idO 2, []⟩, ⟨idO 4, 6, iz, 0, iz, ⟨#[]⟩, 0, ⟨#[]⟩, ⟨#[]⟩, idO 2, iz, []⟩], 0) := by kernel_rfl
theorem headS : headB digC annS ⟨#[]⟩ 5 [] smallL = 0 := by kernel_rfl
theorem num1 {n : Nat} (h : n < 10) : numX (n : Int) = atomX ⟨#[UInt8.ofNat (48 + n)]⟩ := by
 unfold numX intB
 rw [if_neg (by omega), decB_one h]; rfl
theorem numM : numX (-1) = atomX ⟨#[45, 49]⟩ := by
 unfold numX intB
 rw [if_neg (by omega)]
 show (⟨false, decB (-1), []⟩ : Sx) = _
 have : decB (-1) = ⟨#[45, 49]⟩ := by
  unfold decB Lib.itoa
  rw [if_pos (by omega), show (-1 : Int).natAbs = 1 from rfl, Lib.decDigits_one (by omega)]; rfl
 rw [this]; rfl
def smallX : Sx := listX [atomX quiltS, atomX annS, atomX ⟨#[]⟩, atomX ⟨#[53]⟩, listX [], listX [
 listX [atomX ⟨#[49]⟩, atomX ⟨#[49]⟩],
 listX [atomX ⟨#[50]⟩, listX [atomX ⟨#[]⟩, atomX ⟨#[48]⟩], listX [atomX ⟨#[]⟩, atomX ⟨#[45, 49]⟩], atomX ⟨#[102]⟩, listX []],
 listX [atomX ⟨#[53]⟩, listX [atomX ⟨#[]⟩, atomX ⟨#[48]⟩], listX [atomX ⟨#[]⟩, atomX ⟨#[48]⟩], listX [atomX ⟨#[]⟩, atomX ⟨#[48]⟩], listX [atomX ⟨#[120]⟩]]]]
theorem patS : patX annS ⟨#[]⟩ 5 (patD []) smallL = smallX := by
 have n0 := num1 (n := 0) (by omega)
 have n1 := num1 (n := 1) (by omega)
 have n2 := num1 (n := 2) (by omega)
 have n5 := num1 (n := 5) (by omega)
 have hz : digX dz = atomX ⟨#[]⟩ := by kernel_rfl
 have i0 : idX iz = listX [atomX ⟨#[]⟩, atomX ⟨#[48]⟩] := by
  show listX [digX dz, numX ((0 : Nat) : Int)] = _
  rw [hz, n0]; rfl
 have iM : idX ⟨dz, -1⟩ = listX [atomX ⟨#[]⟩, atomX ⟨#[45, 49]⟩] := by
  show listX [digX dz, numX (-1)] = _
  rw [hz, numM]
 have e : patX annS ⟨#[]⟩ 5 (patD []) smallL = listX [atomX quiltS, atomX annS, atomX ⟨#[]⟩, numX ((5 : Nat) : Int), listX [], listX [
  listX [numX ((1 : Nat) : Int), numX ((1 : Nat) : Int)],
  listX [numX ((2 : Nat) : Int), idX iz, idX ⟨dz, -1⟩, atomX ⟨#[102]⟩, listX []],
  listX [numX ((5 : Nat) : Int), idX iz, idX iz, idX iz, listX [atomX ⟨#[120]⟩]]]] := rfl
 rw [e, n1, n2, n5, i0, iM]; rfl
theorem enc_atom {s : ByteArray} (n : Nat) (hs : s.size = n) (hn : n < 10) : encB (atomX s) = ⟨#[UInt8.ofNat (48 + n)]⟩ ++ ⟨#[58]⟩ ++ s := by
 unfold atomX
 rw [encB, if_pos rfl, hs, decB_one hn]
theorem enc_list (l : List Sx) : encB (listX l) = encBs l ⟨#[40]⟩ ++ ⟨#[41]⟩ := by
 unfold listX
 rw [encB, if_neg (by simp)]
def smallS : ByteArray := ⟨#[40, 54, 58, 113, 117, 105, 108, 116, 49, 51, 58, 97, 110, 110, 48, 58, 49, 58, 53, 40, 41, 40, 40, 49, 58, 49, 49, 58, 49, 41, 40, 49, 58, 50, 40, 48, 58, 49, 58, 48, 41, 40, 48, 58, 50, 58, 45, 49, 41, 49, 58, 102, 40, 41, 41, 40, 49, 58, 53, 40, 48, 58, 49, 58, 48, 41, 40, 48, 58, 49, 58, 48, 41, 40, 48, 58, 49, 58, 48, 41, 40, 49, 58, 120, 41, 41, 41, 41]⟩
theorem encS : encB smallX = smallS := by
 unfold smallX
 simp only [enc_list, encBs, enc_atom (s := quiltS) 6 rfl (by omega), enc_atom (s := annS) 3 rfl (by omega), enc_atom (s := ⟨#[]⟩) 0 rfl (by omega), enc_atom (s := ⟨#[48]⟩) 1 rfl (by omega), enc_atom (s := ⟨#[49]⟩) 1 rfl (by omega), enc_atom (s := ⟨#[50]⟩) 1 rfl (by omega), enc_atom (s := ⟨#[53]⟩) 1 rfl (by omega), enc_atom (s := ⟨#[102]⟩) 1 rfl (by omega), enc_atom (s := ⟨#[120]⟩) 1 rfl (by omega), enc_atom (s := ⟨#[45, 49]⟩) 2 rfl (by omega)]
 rfl
theorem enTS : enT (patX annS ⟨#[]⟩ 5 (patD []) smallL) = (smallS, 0) := by
 rw [patS]
 have h : ckG smallX = 0 := by kernel_rfl
 unfold enT
 rw [if_pos h, encS]
end Go.Proofs.YtbglndogddddoaaGreatDoor
namespace Go.Proofs.YtbglndogddddoaaGreatDoor
open Go.RowKit
attribute [local irreducible] dfun dround
set_option maxRecDepth 100000
def H12 : List (Nat × Hint) := [(6, ⟨[], [(3, .leaf), (32, .leaf), (33, .leaf), (34, .leaf)], [], [.sl .atm, .sl .i64, .int .i64, .int .i64]⟩)]
def J12 : List (Nat × Hint) := [(4, ⟨[], [(3, .leaf), (31, .leaf)], [], [.sl .atm, .bool]⟩), (9, ⟨[], [(3, .leaf), (32, .leaf), (33, .leaf), (34, .leaf), (55, .leaf)], [], [.sl .atm, .sl .i64, .int .i64, .int .i64, .bool]⟩)]
abbrev S12 : List Sh := []
abbrev L12 : List Lf := []
def F12_J9 (K : Kn) (W4 : prodL [.sl .atm, .sl .i64, .int .i64, .int .i64] -> Prop) (l_8 : List Atm) (t_8 : List Int) (t2_8 t3_8 : Int) (t4_8 : Bool) : Prop :=
 bif t4_8 then (
  K (.bool false) [])
 else (
  W4 (l_8, t_8, t2_8, IntKind.i64.wrap (t3_8 + 1), ()))
def F12_B4 (K : Kn) (W4 : prodL [.sl .atm, .sl .i64, .int .i64, .int .i64] -> Prop) (l_3 : List Atm) (t_3 : List Int) (t2_3 t3_3 : Int) : Prop :=
 bif decide (t3_3 < t2_3) then (
  At t_3 t3_3 fun u5 =>
 At l_3 t3_3 fun u6 =>
 bif !decide (u6.kind = u5) then (
  F12_J9 K W4 l_3 t_3 t2_3 t3_3 true)
 else (
  At l_3 t3_3 fun u7 =>
  F12_J9 K W4 l_3 t_3 t2_3 t3_3 (!decide (u7.id.n = t3_3))))
 else (
  At l_3 3 fun u10 =>
 At l_3 0 fun u11 =>
 bif idEq u10.frm u11.id then (
  At l_3 3 fun u12 =>
  At l_3 2 fun u13 =>
  bif idEq u12.til u13.id then (
   At l_3 4 fun u14 =>
   At l_3 2 fun u15 =>
   bif idEq u14.frm u15.id then (
    At l_3 4 fun u16 =>
    At l_3 0 fun u17 =>
    K (.bool (idEq u16.til u17.id)) [])
   else (
    K (.bool false) []))
  else (
   K (.bool false) []))
 else (
  K (.bool false) []))
def F12_L4 (K : Kn) (g : prodL [.sl .atm, .sl .i64, .int .i64, .int .i64]) : Prop :=
 LoopW (γ := prodL [.sl .atm, .sl .i64, .int .i64, .int .i64]) (fun V y => F12_B4 K V y.1 y.2.1 y.2.2.1 y.2.2.2.1) g
def F12_J2 (K : Kn) (l_1 : List Atm) (t_1 : Bool) : Prop :=
 bif t_1 then (
  K (.bool false) [])
 else (
  F12_L4 K (l_1, [1, 2, 5, 6, 6], (([1, 2, 5, 6, 6].length : Nat) : Int), 0, ()))
def F12 (g : prodL L12) (K : Kn) : Prop :=
 True /\
 sp13.pre ((⟨#[97, 110, 110]⟩ : ByteArray), (⟨#[]⟩ : ByteArray), 5, [], smallL, ()) /\
 True /\
 sp25.pre ((⟨#[97, 110, 110]⟩ : ByteArray), (⟨#[]⟩ : ByteArray), 5, [], smallL, ()) /\
 bif !decide ((exP (⟨#[97, 110, 110]⟩ : ByteArray) (⟨#[]⟩ : ByteArray) 5 [] smallL).2.2 = 0) then (
  F12_J2 K ((atmP (⟨#[97, 110, 110]⟩ : ByteArray) (⟨#[]⟩ : ByteArray) 5 [] smallL).1) true)
 else (
  bif !decide ((atmP (⟨#[97, 110, 110]⟩ : ByteArray) (⟨#[]⟩ : ByteArray) 5 [] smallL).2 = 0) then (
   F12_J2 K ((atmP (⟨#[97, 110, 110]⟩ : ByteArray) (⟨#[]⟩ : ByteArray) 5 [] smallL).1) true)
  else (
   bif !decide ((exP (⟨#[97, 110, 110]⟩ : ByteArray) (⟨#[]⟩ : ByteArray) 5 [] smallL).2.1 = (⟨#[40, 54, 58, 113, 117, 105, 108, 116, 49, 51, 58, 97, 110, 110, 48, 58, 49, 58, 53, 40, 41, 40, 40, 49, 58, 49, 49, 58, 49, 41, 40, 49, 58, 50, 40, 48, 58, 49, 58, 48, 41, 40, 48, 58, 50, 58, 45, 49, 41, 49, 58, 102, 40, 41, 41, 40, 49, 58, 53, 40, 48, 58, 49, 58, 48, 41, 40, 48, 58, 49, 58, 48, 41, 40, 48, 58, 49, 58, 48, 41, 40, 49, 58, 120, 41, 41, 41, 41]⟩ : ByteArray)) then (
    F12_J2 K ((atmP (⟨#[97, 110, 110]⟩ : ByteArray) (⟨#[]⟩ : ByteArray) 5 [] smallL).1) true)
   else (
    F12_J2 K ((atmP (⟨#[97, 110, 110]⟩ : ByteArray) (⟨#[]⟩ : ByteArray) 5 [] smallL).1) (!decide (((((atmP (⟨#[97, 110, 110]⟩ : ByteArray) (⟨#[]⟩ : ByteArray) 5 [] smallL).1).length : Nat) : Int) = 5)))))
theorem F12_eq (g : prodL L12) (K X : Kn) : F12 g K = dfun D (gamX [] [(13, true, sp13), (25, false, sp25), (35, false, sp35)]) (isRaw []) H12 J12 99 [.tmp 0] (codeOf Tryz.f12) (argsT S12 L12 g) [] (settle0 K) X := by kernel_rfl
theorem F12_ok (g : prodL L12) (K X : Kn) (h : F12 g K) : FCalls Tryz.prog 12 (argsT S12 L12 g) [] K X :=
 FCalls.settle0 (dfun_sound D_ok (gmX (gmc sp13_ok (gmc sp25_ok (gmc sp35_ok gm0)))) gamX_det rfl Tryz.func12 (c := codeOf Tryz.f12) rfl Tryz.ntmps12 Tryz.results12 (by unfold enters; rw [Tryz.func12]; kernel_rfl) (Nat.le_of_ble_eq_true (by kernel_rfl)) (c0 := 0) (Eq.mp (F12_eq g K X) h))
end Go.Proofs.YtbglndogddddoaaGreatDoor
namespace Go.Proofs.YtbglndogddddoaaGreatDoor
open Go.RowKit
set_option maxRecDepth 100000
def atS : List Atm := [⟨idO 0, 1, idO 0, 1, iz, ⟨#[]⟩, 0, ⟨#[]⟩, ⟨#[]⟩, iz, iz, []⟩, ⟨idO 1, 2, iz, 0, ⟨dz, -1⟩, ⟨#[102]⟩, 0, ⟨#[]⟩, ⟨#[]⟩, iz, iz, []⟩,
 ⟨idO 2, 5, iz, 0, iz, ⟨#[]⟩, 0, ⟨#[]⟩, ⟨#[120]⟩, iz, iz, []⟩, ⟨idO 3, 6, iz, 0, iz, ⟨#[]⟩, 0, ⟨#[]⟩, ⟨#[]⟩, iz, idO 2, []⟩, ⟨idO 4, 6, iz, 0, iz, ⟨#[]⟩, 0, ⟨#[]⟩, ⟨#[]⟩, idO 2, iz, []⟩]
def lS (d : Dig) : List Atm := atS.map (cmpA d)
theorem exS : exP annS ⟨#[]⟩ 5 [] smallL = (atS, smallS, 0) := by
 unfold exP
 rw [headS, chgsS, enTS]
 rfl
theorem atmS : atmP annS ⟨#[]⟩ 5 [] smallL = (lS (shaP smallS), 0) := by
 unfold atmP idP
 rw [exS]
 rfl
theorem xS : xP annS ⟨#[]⟩ 5 [] smallL := by
 have i : ∀ n : Int, -10 <= n /\ n <= 100 -> intP n := fun n h => ⟨by omega, by omega⟩
 refine ⟨i 5 (by omega), Nat.le_of_ble_eq_true rfl, Nat.le_of_ble_eq_true rfl, Nat.le_of_ble_eq_true rfl, Nat.le_of_ble_eq_true rfl, fun c hc => ?_⟩
 simp only [smallL, List.mem_cons, List.not_mem_nil, or_false] at hc
 rcases hc with rfl | rfl | rfl <;> exact ⟨i _ (by decide), i _ (by decide), i _ (by decide), i _ (by decide), i _ (by decide), i _ (by decide), fun x hx => by cases hx⟩
theorem kS (d : Dig) : (lS d).map Atm.kind = [1, 2, 5, 6, 6] := by kernel_rfl
theorem nS (d : Dig) : (lS d).map (fun x => x.id.n) = [0, 1, 2, 3, 4] := by kernel_rfl
theorem lS_len (d : Dig) : (lS d).length = 5 := rfl
theorem refS (d : Dig) : ((lS d).getD 3 az).frm = ((lS d).getD 0 az).id /\ ((lS d).getD 3 az).til = ((lS d).getD 2 az).id /\ ((lS d).getD 4 az).frm = ((lS d).getD 2 az).id /\ ((lS d).getD 4 az).til = ((lS d).getD 0 az).id := ⟨by kernel_rfl, by kernel_rfl, by kernel_rfl, by kernel_rfl⟩
theorem F12_L4_is {d : Dig} {K : Kn} (h : KBo K true) : F12_L4 K (lS d, [1, 2, 5, 6, 6], (([1, 2, 5, 6, 6].length : Nat) : Int), 0, ()) := by
 have hk := kS d
 have hn := nS d
 have hl := lS_len d
 obtain ⟨r1, r2, r3, r4⟩ := refS d
 generalize lS d = l at hk hn hl r1 r2 r3 r4
 unfold F12_L4
 refine LoopW.countTo 5 (fun n => (l, [1, 2, 5, 6, 6], ((5 : Nat) : Int), (n : Int), ())) (fun _ => True) rfl (fun n hn5 _ W hW => ?_) trivial
 show F12_B4 K W l [1, 2, 5, 6, 6] ((5 : Nat) : Int) n
 unfold F12_B4
 by_cases hlt : n < 5
 . rw [lt_true hlt, cond_true]
   have h5 : n < ([1, 2, 5, 6, 6] : List Int).length := hlt
   have hln : n < l.length := by omega
   have e1 : l[n].kind = ([1, 2, 5, 6, 6] : List Int)[n] := by
    have : (l.map Atm.kind)[n]? = ([1, 2, 5, 6, 6] : List Int)[n]? := by rw [hk]
    rw [List.getElem?_map, getQ hln, getQ h5] at this
    exact Option.some.inj this
   have e2 : l[n].id.n = (n : Int) := by
    have : (l.map (fun x => x.id.n))[n]? = ([0, 1, 2, 3, 4] : List Int)[n]? := by rw [hn]
    rw [List.getElem?_map, getQ hln] at this
    have h3 : n = 0 ∨ n = 1 ∨ n = 2 ∨ n = 3 ∨ n = 4 := by omega
    have := Option.some.inj (this.trans (show ([0, 1, 2, 3, 4] : List Int)[n]? = some (n : Int) by rcases h3 with rfl | rfl | rfl | rfl | rfl <;> rfl))
    exact this
   refine At_of h5 (At_of hln ?_)
   rw [decide_eq_true e1, Bool.not_true, cond_false]
   refine At_of hln ?_
   rw [decide_eq_true e2, Bool.not_true]
   unfold F12_J9
   rw [cond_false, wrapS hlt (by omega)]
   exact hW hlt trivial
 . have : n = 5 := by omega
   subst this
   rw [lt_false, cond_false]
   have at3 : ∀ {Q : Atm -> Prop}, Q (l.getD 3 az) -> At l 3 Q := fun hQ => At_of (n := 3) (by omega) (by rwa [List.getD_eq_getElem?_getD, getQ (show 3 < l.length by omega)] at hQ)
   have at0 : ∀ {Q : Atm -> Prop}, Q (l.getD 0 az) -> At l 0 Q := fun hQ => At_of (n := 0) (by omega) (by rwa [List.getD_eq_getElem?_getD, getQ (show 0 < l.length by omega)] at hQ)
   have at2 : ∀ {Q : Atm -> Prop}, Q (l.getD 2 az) -> At l 2 Q := fun hQ => At_of (n := 2) (by omega) (by rwa [List.getD_eq_getElem?_getD, getQ (show 2 < l.length by omega)] at hQ)
   have at4 : ∀ {Q : Atm -> Prop}, Q (l.getD 4 az) -> At l 4 Q := fun hQ => At_of (n := 4) (by omega) (by rwa [List.getD_eq_getElem?_getD, getQ (show 4 < l.length by omega)] at hQ)
   refine at3 (at0 ?_)
   rw [idEq_eq, decide_eq_true r1, cond_true]
   refine at3 (at2 ?_)
   rw [idEq_eq, decide_eq_true r2, cond_true]
   refine at4 (at2 ?_)
   rw [idEq_eq, decide_eq_true r3, cond_true]
   refine at4 (at0 ?_)
   rw [idEq_eq, decide_eq_true r4]
   exact h
def sp12 : Sp := ⟨S12, L12, fun _ => True, fun _ => .bool true, fun _ => none⟩
theorem sp12_ok : sp12.Ok Tryz.prog 12 true :=
 ⟨fun g K X _ h => F12_ok g K X (by
  unfold F12
  refine ⟨trivial, xS, trivial, xS, ?_⟩
  have e1 : exP ⟨#[97, 110, 110]⟩ ⟨#[]⟩ 5 [] smallL = (atS, smallS, 0) := exS
  have e2 : atmP ⟨#[97, 110, 110]⟩ ⟨#[]⟩ 5 [] smallL = (lS (shaP smallS), 0) := atmS
  rw [e1, e2]
  have hl := lS_len (shaP smallS)
  have hL := F12_L4_is (d := shaP smallS) (K := K) h
  generalize lS (shaP smallS) = l at hl hL
  show bif !decide (smallS = smallS) then _ else F12_J2 K l (!decide (((l.length : Nat) : Int) = 5))
  rw [decide_eq_true rfl, hl]
  exact hL), fun _ _ _ => rfl, fun _ => rfl, fun _ _ => ⟨rfl, rfl⟩⟩
end Go.Proofs.YtbglndogddddoaaGreatDoor
namespace Go.Proofs.YtbglndogddddoaaGreatDoor
open Go.RowKit
attribute [local irreducible] dfun dround
set_option maxRecDepth 100000
def H4 : List (Nat × Hint) := []
def J4 : List (Nat × Hint) := [(3, ⟨[((3, []), none), ((4, []), none)], [(3, .pt 0 0), (4, .pt 1 0), (7, .leaf), (8, .leaf), (9, .leaf), (40, .leaf)], [.el, .el], [.int .i64, .int .i64, .int .i64, .bool, .el .idk, .el .idk]⟩), (5, ⟨[], [(7, .leaf), (8, .leaf), (9, .leaf), (72, .leaf)], [], [.int .i64, .int .i64, .int .i64, .bool]⟩)]
abbrev S4 : List Sh := [.leaf, .leaf, .leaf]
abbrev L4 : List Lf := [.el .idk, .el .idk, .el .idk]
def F4_J4 (K : Kn) (x_3 y_3 z_3 : Int) (t_3 : Bool) : Prop :=
 bif t_3 then (
  K (.bool false) [])
 else (
  bif decide (0 < x_3) then (
  sp12.pre (()) /\
  K (.bool true) [])
 else (
  bif decide (0 < y_3) then (
   sp12.pre (()) /\
   K (.bool true) [])
  else (
   bif decide (z_3 <= 0) then (
    sp12.pre (()) /\
    K (.bool true) [])
   else (
    K (.bool false) []))))
def F4_J2 (K : Kn) (x_1 y_1 z_1 : Int) (t_1 : Bool) (a_1 b_1 : Idn) : Prop :=
 bif t_1 then (
  K (.bool false) [])
 else (
  bif digEq a_1.patch b_1.patch then (
  bif decide (a_1.n < b_1.n) then (
   bif !decide (x_1 = (-1)) then (
    F4_J4 K x_1 y_1 z_1 true)
   else (
    bif !(digEq a_1.patch b_1.patch) then (
     True /\
     F4_J4 K x_1 y_1 z_1 (!decide (x_1 = digC a_1.patch b_1.patch)))
    else (
     F4_J4 K x_1 y_1 z_1 false)))
  else (
   bif !(digEq a_1.patch b_1.patch) then (
    True /\
    F4_J4 K x_1 y_1 z_1 (!decide (x_1 = digC a_1.patch b_1.patch)))
   else (
    F4_J4 K x_1 y_1 z_1 false)))
 else (
  bif !(digEq a_1.patch b_1.patch) then (
   True /\
   F4_J4 K x_1 y_1 z_1 (!decide (x_1 = digC a_1.patch b_1.patch)))
  else (
   F4_J4 K x_1 y_1 z_1 false)))
def F4 (g : prodL L4) (K : Kn) : Prop :=
 True /\
 True /\
 True /\
 True /\
 bif !decide (idC g.1 g.2.1 = IntKind.i64.wrap (0 - (idC g.2.1 g.1))) then (
  F4_J2 K (idC g.1 g.2.1) (idC g.2.1 g.2.2.1) (idC g.1 g.2.2.1) true g.1 g.2.1)
 else (
  bif !decide (decide (idC g.1 g.2.1 = 0) = idEq g.1 g.2.1) then (
   F4_J2 K (idC g.1 g.2.1) (idC g.2.1 g.2.2.1) (idC g.1 g.2.2.1) true g.1 g.2.1)
  else (
   bif decide (idC g.1 g.2.1 < (-1)) then (
    F4_J2 K (idC g.1 g.2.1) (idC g.2.1 g.2.2.1) (idC g.1 g.2.2.1) true g.1 g.2.1)
   else (
    F4_J2 K (idC g.1 g.2.1) (idC g.2.1 g.2.2.1) (idC g.1 g.2.2.1) (decide (1 < idC g.1 g.2.1)) g.1 g.2.1)))
theorem F4_eq (g : prodL L4) (K X : Kn) : F4 g K = dfun D (gamX [] [(12, true, sp12), (17, true, sp17), (18, true, sp18)]) (isRaw []) H4 J4 86 [.tmp 6] (codeOf Tryz.f4) (argsT S4 L4 g) [] (settle0 K) X := by kernel_rfl
theorem F4_ok (g : prodL L4) (K X : Kn) (h : F4 g K) : FCalls Tryz.prog 4 (argsT S4 L4 g) [] K X :=
 FCalls.settle0 (dfun_sound D_ok (gmX (gmc sp12_ok (gmc sp17_ok (gmc sp18_ok gm0)))) gamX_det rfl Tryz.func4 (c := codeOf Tryz.f4) rfl Tryz.ntmps4 Tryz.results4 (by unfold enters; rw [Tryz.func4]; kernel_rfl) (Nat.le_of_ble_eq_true (by kernel_rfl)) (c0 := 0) (Eq.mp (F4_eq g K X) h))
end Go.Proofs.YtbglndogddddoaaGreatDoor
namespace Go.Proofs.YtbglndogddddoaaGreatDoor
open Go.RowKit
set_option maxRecDepth 100000
theorem digL_u8 {d : Dig} (h : wf_dig d) : ∀ x ∈ digL d, 0 <= x /\ x <= 255 := by
 have : ∀ x ∈ digL d, IntKind.u8.min <= x /\ x <= IntKind.u8.max := by
  unfold wf_dig at h
  unfold digL
  simp only [List.forall_mem_cons, List.not_mem_nil, false_implies, implies_true, and_true]
  exact h
 exact fun x hx => u8_wf (this x hx)
theorem wf_idk_dig {x : Idn} (h : wf_idk x) : wf_dig x.patch := by
 unfold wf_idk at h
 unfold wf_dig
 simp only [h, and_self]
theorem digL_inj {a b : Dig} (h : digL a = digL b) : a = b := by
 have := digEq_eq a b
 obtain ⟨a0, a1, a2, a3, a4, a5, a6, a7, a8, a9, a10, a11, a12, a13, a14, a15, a16, a17, a18, a19, a20, a21, a22, a23, a24, a25, a26, a27, a28, a29, a30, a31⟩ := a
 obtain ⟨b0, b1, b2, b3, b4, b5, b6, b7, b8, b9, b10, b11, b12, b13, b14, b15, b16, b17, b18, b19, b20, b21, b22, b23, b24, b25, b26, b27, b28, b29, b30, b31⟩ := b
 simp only [digL, List.cons.injEq, and_true] at h
 simpa only [Dig.mk.injEq] using h
theorem bs_inj {l m : List Int} (hl : ∀ x ∈ l, 0 <= x /\ x <= 255) (hm : ∀ x ∈ m, 0 <= x /\ x <= 255) (h : bs l = bs m) : l = m :=
 bStr_inj hl hm (by unfold bStr; unfold bs at h; rw [h])
theorem cb_vals : ∀ l m : List UInt8, Lib.compareBytes l m = -1 ∨ Lib.compareBytes l m = 0 ∨ Lib.compareBytes l m = 1
 | [], [] => .inr (.inl rfl)
 | [], _ :: _ => .inl rfl
 | _ :: _, [] => .inr (.inr rfl)
 | a :: l, b :: m => by
  have := cb_vals l m
  unfold Lib.compareBytes
  split
  . exact .inl rfl
  . split
    . exact .inr (.inr rfl)
    . exact this
theorem cb_zero : ∀ l m : List UInt8, Lib.compareBytes l m = 0 -> l = m
 | [], [], _ => rfl
 | [], _ :: _, h => absurd h (show ¬ (-1 : Int) = 0 by decide)
 | _ :: _, [], h => absurd h (show ¬ (1 : Int) = 0 by decide)
 | a :: l, b :: m, h => by
  unfold Lib.compareBytes at h
  have hh : ∀ x y : UInt8, x < y ↔ x.toNat < y.toNat := fun x y => Iff.rfl
  by_cases h1 : a < b
  . simp [h1] at h
  . by_cases h2 : b < a
    . simp [h1, h2] at h
    . simp only [h1, h2, if_false] at h
      have e : a = b := by rw [hh] at h1 h2; exact UInt8.toNat_inj.1 (by omega)
      rw [e, cb_zero l m h]
theorem digC_zero {a b : Dig} (ha : wf_dig a) (hb : wf_dig b) : digC a b = 0 ↔ a = b := by
 refine ⟨fun h => digL_inj (bs_inj (digL_u8 ha) (digL_u8 hb) (cb_zero _ _ h)), fun h => by rw [h, digC_refl]⟩
theorem idC_vals (a b : Idn) : idC a b = -1 ∨ idC a b = 0 ∨ idC a b = 1 := by
 unfold idC cmpN
 have := cb_vals (bs (digL a.patch)) (bs (digL b.patch))
 have : digC a.patch b.patch = -1 ∨ digC a.patch b.patch = 0 ∨ digC a.patch b.patch = 1 := this
 cases decide (digC a.patch b.patch = 0)
 . exact this
 . simp only [Bool.not_true, cond_false]
   cases decide (a.n < b.n)
   . simp only [cond_false]
     cases decide (b.n < a.n)
     . exact .inr (.inl rfl)
     . exact .inr (.inr rfl)
   . exact .inl rfl
theorem idC_anti (a b : Idn) : idC a b = - idC b a := by
 have h1 := idC_lt a b
 have h2 := idC_lt b a
 have h3 := digC_anti a.patch b.patch
 have h4 := idC_vals a b
 have h5 := idC_vals b a
 by_cases c1 : idC a b < 0
 . have := h1.1 c1
   have c2 : ¬ idC b a < 0 := fun c => by have := h2.1 c; omega
   have c3 : ¬ idC b a = 0 := fun c => by
    have h6 : ¬ (idC b a < 0) := c2
    unfold idC at c
    by_cases z : digC b.patch a.patch = 0
    . rw [decide_eq_true z, Bool.not_true, cond_false] at c
      unfold cmpN at c
      by_cases y : b.n < a.n
      . rw [decide_eq_true y] at c; exact absurd c (show ¬ (-1 : Int) = 0 by decide)
      . rw [decide_eq_false y, cond_false] at c
        by_cases x : a.n < b.n
        . rw [decide_eq_true x] at c; exact absurd c (show ¬ (1 : Int) = 0 by decide)
        . omega
    . rw [decide_eq_false z] at c
      exact z c
   omega
 . by_cases c2 : idC b a < 0
   . have := h2.1 c2
     have c3 : ¬ idC a b = 0 := fun c => by
      unfold idC at c
      by_cases z : digC a.patch b.patch = 0
      . rw [decide_eq_true z, Bool.not_true, cond_false] at c
        unfold cmpN at c
        by_cases y : a.n < b.n
        . rw [decide_eq_true y] at c; exact absurd c (show ¬ (-1 : Int) = 0 by decide)
        . rw [decide_eq_false y, cond_false] at c
          by_cases x : b.n < a.n
          . rw [decide_eq_true x] at c; exact absurd c (show ¬ (1 : Int) = 0 by decide)
          . omega
      . rw [decide_eq_false z] at c
        exact z c
     omega
   . have d1 := fun h => c1 (h1.2 h)
     have d2 := fun h => c2 (h2.2 h)
     have z : digC a.patch b.patch = 0 := by
      rcases Int.lt_trichotomy (digC a.patch b.patch) 0 with h | h | h
      . exact absurd (.inl h) d1
      . exact h
      . exact absurd (.inl (by omega)) d2
     have z2 : digC b.patch a.patch = 0 := by omega
     have hn : a.n = b.n := by
      rcases Int.lt_trichotomy a.n b.n with h | h | h
      . exact absurd (.inr ⟨z, h⟩) d1
      . exact h
      . exact absurd (.inr ⟨z2, h⟩) d2
     unfold idC cmpN
     rw [z, z2, hn]
     simp
theorem idC_zero {a b : Idn} (ha : wf_idk a) (hb : wf_idk b) : idC a b = 0 ↔ a = b := by
 refine ⟨fun h => ?_, fun h => ?_⟩
 . have h1 := idC_lt a b
   have h2 := idC_lt b a
   have h3 := idC_anti a b
   have h4 := digC_anti a.patch b.patch
   have d1 : ¬ (digC a.patch b.patch < 0 ∨ (digC a.patch b.patch = 0 /\ a.n < b.n)) := fun c => by have := h1.2 c; omega
   have d2 : ¬ (digC b.patch a.patch < 0 ∨ (digC b.patch a.patch = 0 /\ b.n < a.n)) := fun c => by have := h2.2 c; omega
   have z : digC a.patch b.patch = 0 := by omega
   have hn : a.n = b.n := by omega
   have hp := (digC_zero (wf_idk_dig ha) (wf_idk_dig hb)).1 z
   cases a; cases b
   simp only at hp hn
   rw [hp, hn]
 . subst h
   have := idC_anti a a
   omega
theorem patchOrder.calls (g : prodL L4) (hw : wfL L4 g) (hb : bkL L4 g <= 1048576) : FCalls Tryz.prog 4 (argsT S4 L4 g) [] (fun r _ => r = .bool true) fun _ _ => False := by
 obtain ⟨a, b, c, ⟨⟩⟩ := g
 obtain ⟨ha, hb', hc, -⟩ := hw
 have ha : wf_idk a := ha
 have hb' : wf_idk b := hb'
 refine F4_ok (a, b, c, ()) _ _ ?_
 have hv := idC_vals a b
 have han := idC_anti a b
 unfold F4
 refine ⟨trivial, trivial, trivial, trivial, ?_⟩
 show bif !decide (idC a b = IntKind.i64.wrap (0 - idC b a)) then _ else _
 rw [show IntKind.i64.wrap (0 - idC b a) = idC a b by rw [wI (by omega)]; omega, decide_eq_true rfl, Bool.not_true, cond_false]
 show bif !decide (decide (idC a b = 0) = idEq a b) then _ else _
 rw [decide_eq_true (show decide (idC a b = 0) = idEq a b by rw [idEq_eq, decide_eq_decide]; exact idC_zero ha hb'), Bool.not_true, cond_false]
 show bif decide (idC a b < -1) then _ else F4_J2 _ (idC a b) (idC b c) (idC a c) (decide (1 < idC a b)) a b
 rw [decide_eq_false (show ¬ idC a b < -1 by omega), decide_eq_false (show ¬ 1 < idC a b by omega), cond_false]
 have h4 : F4_J4 (fun r _ => r = .bool true) (idC a b) (idC b c) (idC a c) false := by
  unfold F4_J4
  rw [cond_false]
  by_cases z1 : 0 < idC a b
  . rw [decide_eq_true z1]; exact ⟨trivial, rfl⟩
  rw [decide_eq_false z1, cond_false]
  by_cases z2 : 0 < idC b c
  . rw [decide_eq_true z2]; exact ⟨trivial, rfl⟩
  rw [decide_eq_false z2, cond_false]
  have z3 : idC a c <= 0 := by
   have := swo_id.ntrans c b a
   unfold Go.Proofs.ltOf at this
   rw [decide_eq_false_iff_not, decide_eq_false_iff_not, decide_eq_false_iff_not] at this
   have h1 := idC_anti c b
   have h2 := idC_anti b a
   have h3 := idC_anti c a
   omega
  rw [decide_eq_true z3]; exact ⟨trivial, rfl⟩
 unfold F4_J2
 rw [cond_false]
 by_cases e : digEq a.patch b.patch = true
 . rw [e, cond_true]
   have ep : a.patch = b.patch := by rw [digEq_eq] at e; exact of_decide_eq_true e
   by_cases hn : a.n < b.n
   . have hx : idC a b = -1 := by
      have := (idC_lt a b).2 (.inr ⟨by rw [ep, digC_refl], hn⟩)
      omega
     rw [decide_eq_true hn, cond_true]
     show bif !decide (idC a b = -1) then _ else _
     rw [decide_eq_true hx]
     exact h4
   . rw [decide_eq_false hn, cond_false]
     exact h4
 . have e : digEq a.patch b.patch = false := by simpa using e
   rw [e, cond_false]
   have hne : ¬ digC a.patch b.patch = 0 := fun z => by
    have := (digC_zero (wf_idk_dig ha) (wf_idk_dig hb')).1 z
    rw [digEq_eq, decide_eq_true this] at e; cases e
   refine ⟨trivial, ?_⟩
   have hx : idC a b = digC a.patch b.patch := by
    unfold idC
    rw [decide_eq_false hne]; rfl
   rw [decide_eq_true hx]
   exact h4
end Go.Proofs.YtbglndogddddoaaGreatDoor
namespace Go.Proofs.YtbglndogddddoaaGreatDoor
open Go.RowKit Go.ChangeShapes
def takeG : (A B : List Lf) -> prodL (A ++ B) -> prodL A
 | [], _, _ => ()
 | _ :: A, B, g => (g.1, takeG A B g.2)
def dropG : (A B : List Lf) -> prodL (A ++ B) -> prodL B
 | [], _, g => g
 | _ :: A, B, g => dropG A B g.2
theorem envT_spl : ∀ (A B : List Lf) (g : prodL (A ++ B)), envT (A ++ B) g = envT A (takeG A B g) ++ envT B (dropG A B g)
 | [], _, _ => rfl
 | a :: A, B, g => congrArg (a.val g.1 :: ·) (envT_spl A B g.2)
theorem wfL_spl : ∀ (A B : List Lf) (g : prodL (A ++ B)), wfL (A ++ B) g -> wfL A (takeG A B g) /\ wfL B (dropG A B g)
 | [], _, _, h => ⟨trivial, h⟩
 | a :: A, B, g, h => by
  have hr := wfL_spl A B g.2
  cases a <;> first
   | exact ⟨⟨h.1, (hr h.2).1⟩, (hr h.2).2⟩
   | exact ⟨(hr h).1, (hr h).2⟩
theorem bkL_spl : ∀ (A B : List Lf) (g : prodL (A ++ B)), bkL (A ++ B) g = bkL A (takeG A B g) + bkL B (dropG A B g)
 | [], _, _ => (Nat.zero_add _).symm
 | a :: A, B, g => by
  have hr := bkL_spl A B g.2
  cases a <;> simp only [List.cons_append, bkL, takeG, dropG, hr] <;> omega
def lfX : Lf -> List Lf
 | .el e => lvs e
 | l => [l]
def shX : Lf -> Sh
 | .el e => .ag (List.replicate (lvs e).length .leaf)
 | _ => .leaf
def flX : List Lf -> List Lf
 | [] => []
 | l :: r => lfX l ++ flX r
def un1 : (l : Lf) -> prodL (lfX l) -> l.ty
 | .el e, g => mkE e g
 | .int _, g => g.1
 | .bool, g => g.1
 | .str, g => g.1
 | .sl _, g => g.1
 | .cst, g => g.1
 | .pr _, g => g.1
 | .al _, g => g.1
 | .fd, g => g.1
def unX : (L : List Lf) -> prodL (flX L) -> prodL L
 | [], _ => ()
 | l :: r, g => (un1 l (takeG (lfX l) (flX r) g), unX r (dropG (lfX l) (flX r) g))
theorem wf_unX : ∀ (L : List Lf) (g : prodL (flX L)), wfL (flX L) g -> wfL L (unX L g)
 | [], _, _ => trivial
 | l :: r, g, h => by
  obtain ⟨h1, h2⟩ := wfL_spl (lfX l) (flX r) g h
  have h2 := wf_unX r _ h2
  cases l <;> first
   | exact ⟨wf_mk _ _ h1, h2⟩
   | exact ⟨h1.1, h2⟩
   | exact h2
theorem bk_one : ∀ (l : Lf) (a : prodL (lfX l)) (r : List Lf) (y : prodL r), bkL (l :: r) (un1 l a, y) = bkL (lfX l) a + bkL r y
 | .el e, a, r, y => by rw [show bkL (lfX (.el e)) a = bk e (mkE e a) from (bk_mk e a).symm]; rfl
 | .int _, a, r, y => rfl
 | .bool, a, r, y => rfl
 | .str, a, r, y => by show _ = (_ + 1 + 0) + _; rfl
 | .sl _, a, r, y => by show _ = (_ + 1 + 0) + _; rfl
 | .cst, a, r, y => (Nat.zero_add _).symm
 | .pr _, a, r, y => (Nat.zero_add _).symm
 | .al _, a, r, y => (Nat.zero_add _).symm
 | .fd, a, r, y => rfl
theorem bk_unX : ∀ (L : List Lf) (g : prodL (flX L)), bkL L (unX L g) = bkL (flX L) g
 | [], _ => rfl
 | l :: r, g => by
  have h1 := bkL_spl (lfX l) (flX r) g
  have h2 := bk_unX r (dropG (lfX l) (flX r) g)
  refine (bk_one l _ r _).trans ?_
  rw [h2]
  exact h1.symm
theorem bld_unX : ∀ (L : List Lf) (g : prodL (flX L)) , bldL (L.map shX) (envT (flX L) g) = bldL (L.map fun _ => .leaf) (envT L (unX L g))
 | [], _ => rfl
 | l :: r, g => by
  have h1 := envT_spl (lfX l) (flX r) g
  have h2 := bld_unX r (dropG (lfX l) (flX r) g)
  have h3 : ∀ rest, bld (shX l) (envT (lfX l) (takeG (lfX l) (flX r) g) ++ rest) = (l.val (un1 l (takeG (lfX l) (flX r) g)), rest) := by
   intro rest
   cases l
   case el e =>
    have hl := bld_leaves (envT (lvs e) (takeG (lvs e) (flX r) g)) rest
    rw [envT_len] at hl
    simp only [shX, bld]
    rw [show envT (lfX (.el e)) (takeG (lfX (.el e)) (flX r) g) = envT (lvs e) (takeG (lvs e) (flX r) g) from rfl, hl]
    exact congrArg (fun q => ((T.ag q, rest) : T × List T)) (enc_mk e _).symm
   all_goals rfl
  show bldL (shX l :: r.map shX) (envT (lfX l ++ flX r) g) = bldL (.leaf :: r.map fun _ => .leaf) (l.val _ :: envT r _)
  rw [h1]
  simp only [bldL, h3, h2, bld]
  rfl
theorem args_unX (L : List Lf) (g : prodL (flX L)) : argsT (L.map shX) (flX L) g = argsT (L.map fun _ => .leaf) L (unX L g) := congrArg (·.1) (bld_unX L g)
abbrev L4x : List Lf := flX L4
abbrev S4x : List Sh := L4.map shX
theorem patchOrder.callsx (g : prodL L4x) (hw : wfL L4x g) (hb : bkL L4x g <= 1048576) : FCalls Tryz.prog 4 (argsT S4x L4x g) [] (fun r _ => r = .bool true) fun _ _ => False := by
 rw [args_unX L4 g]
 exact patchOrder.calls (unX L4 g) (wf_unX L4 g hw) (by rw [bk_unX]; exact hb)
def flatK (e : El) : Bool := (lvs e).all fun l => match l with | .fd => false | _ => true
def DR : TD := D.filter fun p => match p.2.el with | some e => flatK e | none => true
theorem tyOf_mem {t : TypeId} {te : TI} : ∀ (l : TD), tyOf l t = some te -> (t, te) ∈ l
 | [], h => by cases h
 | (j, x) :: r, h => by
  simp only [tyOf] at h
  split at h
  . rename_i e; subst e; injection h with h; subst h; exact List.mem_cons_self
  . exact List.mem_cons_of_mem _ (tyOf_mem r h)
theorem tyOf_of_mem {t : TypeId} {te : TI} : ∀ (l : TD), (l.map (·.1)).Nodup -> (t, te) ∈ l -> tyOf l t = some te
 | [], _, h => by cases h
 | (j, x) :: r, hn, h => by
  simp only [List.map_cons, List.nodup_cons] at hn
  rcases List.mem_cons.1 h with h | h
  . cases h; simp [tyOf]
  . have : j ≠ t := by rintro rfl; exact hn.1 (List.mem_map.2 ⟨_, h, rfl⟩)
    simp only [tyOf]
    rw [if_neg (Ne.symm this)]
    exact tyOf_of_mem r hn.2 h
theorem DR_ok : TDok Tryz.prog DR := fun t ti h =>
 D_ok t ti (tyOf_of_mem D (of_decide_eq_true (by kernel_rfl : decide ((D.map (·.1)).Nodup) = true)) (List.mem_filter.1 (tyOf_mem DR h)).1)
theorem kinds_ok : KindsOk DR := by
 have key : DR.all (fun p => match p.2.el with | some e => decide (flatL DR 8 p.1 = some (lvs e)) | none => true) = true := by kernel_rfl
 intro t te e ht he
 have := List.all_eq_true.1 key _ (tyOf_mem DR ht)
 simp only [he] at this
 exact ⟨8, of_decide_eq_true this⟩
theorem the_kids : Kids Tryz.prog (· < Tryz.prog.types.size) := kids_rows (by kernel_rfl) (by kernel_rfl)
theorem the_full : ∀ t e, t < Tryz.prog.types.size -> Tryz.prog.underlying t = some (.slice e) -> 0 < Tryz.prog.cellsOf e := slices_full_of Tryz.prog (by kernel_rfl)
theorem the_knob : ownKnob Tryz.prog.godebug = none := by kernel_rfl
theorem bulk_le {H : Type} {l : List (DataW H)} (hk : Rows.uptoSmall H l = true) : Rows.uptoBulkAll l <= 1048576 := by
 simpa [Rows.uptoSmall] using hk
theorem returns_row {H : Type} {enc : TypeId × Value -> H} {a : Assume} {C : Checked} {os : Os} {f : FuncId} {fn : Func} {s : OpenSpec} {F : Stop.Interp} {conds : List PathCond} {apart fresh handsOn again : Bool} {laid : List (String × DataW Unit)}
  (own : ownKnob C.prog.godebug = none) (started : os.Started) (noInit : C.prog.inits.idxOf? f = none) (hfn : C.prog.funcs[f]? = some fn)
  (witness : ∃ (w : World) (tape : Tape) (i : Input), w.os = os /\ (w.forCall tape i).Shaped C.prog /\ i.vars = [] /\ Input.okWide C.prog (w.forCall tape i) .any w.heap.size f i /\
   s.preRow enc C.prog fn conds apart laid (w.forCall tape i).memory i.args /\ a.holds C.prog (lone (Frame.enter C.prog f i.args .normal) [] (w.forCall tape i)))
  (contract : ∀ (W : World) (base : Nat) (args : Array Value) (ds gs : List (DataW H)) (before : List MemPlace),
   (∀ (j : Nat) t v, fn.params[j]? = some t -> args[j]? = some v -> Value.okWide C.prog W .any base t v) ->
   DataW.Whole enc C.prog fn.params.toList s.vars apart W args.toList ds gs before ->
   (∀ k, s.cond = some k -> k H (ds ++ gs) = true) -> laidMetH C.prog laid W ->
   Calls C.prog f args W fun e W' => ∃ v, e = .returned v /\ (s.at F).post enc C.prog fn apart fresh handsOn again W args v W') :
  ReturnsInHanded a C os f .any (s.preRow enc C.prog fn conds apart laid) ((s.at F).post enc C.prog fn apart fresh handsOn again) := by
 refine returnsInHanded_of_calls own started noInit witness ?_
 intro w tape i _ _ _ hok hpre hholds
 obtain ⟨_, _, _, fn', hfn', _, _, _, _, hval⟩ := hok
 have e : fn' = fn := Option.some.inj (hfn'.symm.trans hfn)
 subst e
 obtain ⟨⟨hp, hl⟩, _⟩ := hpre
 obtain ⟨ds, gs, before, hw, hc, hkk⟩ := OpenSpec.pre_parts hp
 have hw' := DataW.Whole.of_heap (w' := w.forCall tape i) (by rfl) hw
 refine (contract (w.forCall tape i) w.heap.size i.args ds gs before hval hw' hkk (hl.of_heap (by rfl))).mono fun e W' ⟨v, he, hp⟩ => ?_
 subst he
 exact ChangeSpec.post_blind hp
def laidAll : List (String × DataW Unit) := Rows.patchEncodeUptoRow.laid
theorem door_met (os : Os) (args : Array Value) : laidMetH Tryz.prog laidAll ((World.doorLaid Tryz.prog 400 os).forCall (fun _ _ => 0) ⟨#[], args, []⟩).memory :=
 laidMetH_of_parts3 (fuel := 8) (laidMet_of_run' 8 (by kernel_rfl) (by kernel_rfl)) (by kernel_rfl) (by kernel_rfl)
theorem gPow : Tryz.prog.globalNamed "internal/strconv.uint64pow10" = some 3 := by kernel_rfl
theorem tPow : (Tryz.prog.globals[3]?).map (·.type) = some 255 := by kernel_rfl
theorem var_block {P : Program} {w : World} {n : String} {g : Nat} {cs : Array Value} (hg : P.globalNamed n = some g) (h : w.var? P n = some cs) : ∃ E fr, w.heap[g]? = some (.cells cs E fr) := by
 simp only [World.var?, hg, Option.bind_some] at h
 split at h
 . rename_i c E fr e
   simp only [Option.some.injEq] at h
   subst h
   exact ⟨_, _, e⟩
 . cases h
theorem laid_rd {W : World} (h : laidMetH Tryz.prog laidAll W) : LaidG (RdB W) := by
 rw [MakeChecks.laidMetH_plain _ _ _ (by kernel_rfl)] at h
 obtain ⟨ps, ⟨_, _, _, _, _, _, _, _, _, _, ⟨_, _, _, _, _, _, _, _, _, _, ⟨g2, t2, cs2, f2, p2, q2, hg2, ht2, hv2, hd2, _, _⟩, _⟩, _⟩, _, _⟩ := h
 obtain rfl := Option.some.inj (gPow.symm.trans hg2)
 obtain rfl := Option.some.inj (tPow.symm.trans ht2)
 obtain ⟨E2, fr2, b2⟩ := var_block hg2 hv2
 refine ⟨?_, ?_⟩
 . obtain ⟨xs, m, rfl, hx1, hlen, hn, hel⟩ := DataW.trod_array Tryz.underlying255 hd2
   have c1 : Tryz.prog.cellsOf 137 = 1 := by kernel_rfl
   have c2 : Tryz.prog.cellsOf 255 = 20 := by kernel_rfl
   rw [c2] at hlen
   simp only [Prod.mk.injEq] at hx1
   have hl : (.agg (xs.map (·.1)) : DataW Unit) = .agg ((List.range 20).map fun i => .lit (.int .u64 ((10 ^ i : Nat) : Int))) := hx1.1.symm.trans (by kernel_rfl)
   injection hl with hl
   have hsz : cs2.size = 20 := by simpa using hlen
   have key : ∀ j, j < 20 -> cs2[j]? = some (.int .u64 ((10 ^ j : Nat) : Int)) := fun j hj => by
    have h1 := hel j hj
    rw [c1, Nat.mul_one] at h1
    obtain ⟨y, hy⟩ : ∃ y, xs[j]? = some y := ⟨xs[j], List.getElem?_eq_getElem (by omega)⟩
    rw [hy] at h1
    obtain ⟨n, e1, e2, _⟩ := DataW.trod_int Tryz.underlying137 h1
    have h2 := congrArg (·[j]?) hl
    simp only [List.getElem?_map, hy, Option.map_some, e2, List.getElem?_range hj] at h2
    simp only [Option.some.injEq, DataW.lit.injEq, Lit.int.injEq, true_and] at h2
    subst h2
    have h3 := congrArg (·[0]?) e1
    simp only [List.getElem?_take, List.getElem?_drop, Nat.add_zero, List.getElem?_cons_zero] at h3
    simpa using h3
   exact ⟨.mk 3 pow10s cs2 E2 fr2 b2 (fun n h => by have := congrArg List.length h; simp [pow10s] at this) (by simp [pow10s, hsz]) (fun j u x hu hx _ => by
    have hj : j < 20 := by have := (List.getElem?_eq_some_iff.1 hu).1; simpa [pow10s] using this
    rw [key j hj] at hx
    simp [pow10s, hj] at hu hx
    subst hu; subst hx
    exact .int _ _), .ex 3 20 cs2 E2 fr2 b2 hsz (by decide)⟩
 . trivial
theorem door_shaped (os : Os) (args : Array Value) : ((World.doorLaid Tryz.prog 400 os).forCall (fun _ _ => 0) ⟨#[], args, []⟩).Shaped Tryz.prog :=
 World.shaped_of_RefB (by kernel_rfl) (by kernel_rfl)
theorem witness_row {H : Type} {enc : TypeId × Value -> H} {os : Os} {f : FuncId} {fn : Func} {s : OpenSpec} {apart : Bool} (args : Array Value)
  (hok : Input.okWideB Tryz.prog ((World.doorLaid Tryz.prog 400 os).forCall (fun _ _ => 0) ⟨#[], args, []⟩) f ⟨#[], args, []⟩ = true)
  {x : List (DataW H) × List (DataW H) × List MemPlace} (hx : DataW.whole enc Tryz.prog ((World.doorLaid Tryz.prog 400 os).forCall (fun _ _ => 0) ⟨#[], args, []⟩).memory fn.params.toList s.vars apart args.toList 12 = some x)
  (hkk : ∀ k, s.cond = some k -> k H (x.1 ++ x.2.1) = true)
  (hsz : s.bare.sizedB enc Tryz.prog fn apart ((World.doorLaid Tryz.prog 400 os).forCall (fun _ _ => 0) ⟨#[], args, []⟩).memory args 12 = true) :
  ∃ (w : World) (tape : Tape) (i : Input), w.os = os /\ (w.forCall tape i).Shaped Tryz.prog /\ i.vars = [] /\ Input.okWide Tryz.prog (w.forCall tape i) .any w.heap.size f i /\
   s.preRow enc Tryz.prog fn [] apart laidAll (w.forCall tape i).memory i.args /\ ({} : Assume).holds Tryz.prog (lone (Frame.enter Tryz.prog f i.args .normal) [] (w.forCall tape i)) :=
 ⟨World.doorLaid Tryz.prog 400 os, fun _ _ => 0, ⟨#[], args, []⟩, rfl, door_shaped os args, (Input.okWide_of_okWideB (base := 0) hok).1, (Input.okWide_of_okWideB hok).2, OpenSpec.preRow_of_cond 12 hx rfl hkk hsz (door_met os args), by
  simp only [Assume.holds]
  exact ⟨by simp, by simp, fun _ => Modest.zero, by simp, by simp⟩⟩
end Go.Proofs.YtbglndogddddoaaGreatDoor
