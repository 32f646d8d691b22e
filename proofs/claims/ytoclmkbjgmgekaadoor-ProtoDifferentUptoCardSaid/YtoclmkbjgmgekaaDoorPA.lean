/- What functions come to: printed by exf.py. -/
import Derived.Test.YtoclmkbjgmgekaaDoorP0
namespace Go.Proofs.YtoclmkbjgmgekaaDoor
set_option linter.unusedVariables false
set_option linter.unusedSimpArgs false
set_option linter.unusedSectionVars false
open Go.RowKit
attribute [local irreducible] dfun dround
/-- quilt/quiltref50.words -/
def H47 : List (Nat × Hint) := []
def J47 : List (Nat × Hint) := []
abbrev S47 : List Sh := []
abbrev L47 : List Lf := []
def F47 (g : prodL L47) (K : Kn) : Prop :=
  K (.ag [.str (⟨#[]⟩ : ByteArray), .str (⟨#[114, 97, 110, 103, 101, 115]⟩ : ByteArray), .str (⟨#[119, 97, 110, 116]⟩ : ByteArray), .str (⟨#[112, 97, 116, 99, 104, 101, 115]⟩ : ByteArray), .str (⟨#[100, 111, 110, 101]⟩ : ByteArray), .str (⟨#[112, 117, 115, 104]⟩ : ByteArray), .str (⟨#[114, 101, 112, 108, 121]⟩ : ByteArray), .str (⟨#[112, 97, 116, 104, 115]⟩ : ByteArray)]) []
theorem F47_eq (g : prodL L47) (K X : Kn) : F47 g K = dfun D (gamX [] []) (isRaw []) H47 J47 2 [.cell 0 76] (codeOf Tryd.f47) (argsT S47 L47 g) [] (settle0 K) X := by kernel_rfl
theorem F47_ok (g : prodL L47) (K X : Kn) (h : F47 g K) : FCalls Tryd.prog 47 (argsT S47 L47 g) [] K X :=
  FCalls.settle0 (dfun_sound (Γ := gamX [] []) (mu := isRaw []) (H := H47) (J := J47) D_ok (gamX_ok (rs := []) (l := []) (fun p hp => by cases hp) (fun p hp => by cases hp)) gamX_det rfl Tryd.func47 (c := codeOf Tryd.f47) rfl Tryd.ntmps47 (rs := [.cell 0 76]) Tryd.results47 (by unfold enters; rw [Tryd.func47]; kernel_rfl) (Nat.le_of_ble_eq_true (by kernel_rfl)) (X := X) (c0 := 0) (Eq.mp (F47_eq g K X) h))
/-- quilt/proto.atom -/
def H76 : List (Nat × Hint) := []
def J76 : List (Nat × Hint) := []
abbrev S76 : List Sh := [.leaf]
abbrev L76 : List Lf := [.str]
def F76 (g : prodL L76) (K : Kn) : Prop :=
  K (.ag [.bool false, .str g.1, .nil]) []
theorem F76_eq (g : prodL L76) (K X : Kn) : F76 g K = dfun D (gamX [] []) (isRaw []) H76 J76 5 [.cell 2 58] (codeOf Tryd.f76) (argsT S76 L76 g) [] (settle0 K) X := by kernel_rfl
theorem F76_ok (g : prodL L76) (K X : Kn) (h : F76 g K) : FCalls Tryd.prog 76 (argsT S76 L76 g) [] K X :=
  FCalls.settle0 (dfun_sound (Γ := gamX [] []) (mu := isRaw []) (H := H76) (J := J76) D_ok (gamX_ok (rs := []) (l := []) (fun p hp => by cases hp) (fun p hp => by cases hp)) gamX_det rfl Tryd.func76 (c := codeOf Tryd.f76) rfl Tryd.ntmps76 (rs := [.cell 2 58]) Tryd.results76 (by unfold enters; rw [Tryd.func76]; kernel_rfl) (Nat.le_of_ble_eq_true (by kernel_rfl)) (X := X) (c0 := 0) (Eq.mp (F76_eq g K X) h))
/-- quilt/quiltref50.atom -/
def H46 : List (Nat × Hint) := []
def J46 : List (Nat × Hint) := []
abbrev S46 : List Sh := [.leaf]
abbrev L46 : List Lf := [.str]
def F46 (g : prodL L46) (K : Kn) : Prop :=
  K (.ag [.bool false, .str g.1, .nil]) []
theorem F46_eq (g : prodL L46) (K X : Kn) : F46 g K = dfun D (gamX [] []) (isRaw []) H46 J46 5 [.cell 2 58] (codeOf Tryd.f46) (argsT S46 L46 g) [] (settle0 K) X := by kernel_rfl
theorem F46_ok (g : prodL L46) (K X : Kn) (h : F46 g K) : FCalls Tryd.prog 46 (argsT S46 L46 g) [] K X :=
  FCalls.settle0 (dfun_sound (Γ := gamX [] []) (mu := isRaw []) (H := H46) (J := J46) D_ok (gamX_ok (rs := []) (l := []) (fun p hp => by cases hp) (fun p hp => by cases hp)) gamX_det rfl Tryd.func46 (c := codeOf Tryd.f46) rfl Tryd.ntmps46 (rs := [.cell 2 58]) Tryd.results46 (by unfold enters; rw [Tryd.func46]; kernel_rfl) (Nat.le_of_ble_eq_true (by kernel_rfl)) (X := X) (c0 := 0) (Eq.mp (F46_eq g K X) h))
/-- quilt/proto.list -/
def H80 : List (Nat × Hint) := []
def J80 : List (Nat × Hint) := []
abbrev S80 : List Sh := [.leaf]
abbrev L80 : List Lf := [.sl .sexp]
def F80 (g : prodL L80) (K : Kn) : Prop :=
  K (.ag [.bool true, .str (⟨#[]⟩ : ByteArray), .sl false .sexp g.1]) []
theorem F80_eq (g : prodL L80) (K X : Kn) : F80 g K = dfun D (gamX [] []) (isRaw []) H80 J80 5 [.cell 2 58] (codeOf Tryd.f80) (argsT S80 L80 g) [] (settle0 K) X := by kernel_rfl
theorem F80_ok (g : prodL L80) (K X : Kn) (h : F80 g K) : FCalls Tryd.prog 80 (argsT S80 L80 g) [] K X :=
  FCalls.settle0 (dfun_sound (Γ := gamX [] []) (mu := isRaw []) (H := H80) (J := J80) D_ok (gamX_ok (rs := []) (l := []) (fun p hp => by cases hp) (fun p hp => by cases hp)) gamX_det rfl Tryd.func80 (c := codeOf Tryd.f80) rfl Tryd.ntmps80 (rs := [.cell 2 58]) Tryd.results80 (by unfold enters; rw [Tryd.func80]; kernel_rfl) (Nat.le_of_ble_eq_true (by kernel_rfl)) (X := X) (c0 := 0) (Eq.mp (F80_eq g K X) h))
/-- quilt/quiltref50.list -/
def H51 : List (Nat × Hint) := []
def J51 : List (Nat × Hint) := []
abbrev S51 : List Sh := [.leaf]
abbrev L51 : List Lf := [.sl .sexp]
def F51 (g : prodL L51) (K : Kn) : Prop :=
  K (.ag [.bool true, .str (⟨#[]⟩ : ByteArray), .sl false .sexp g.1]) []
theorem F51_eq (g : prodL L51) (K X : Kn) : F51 g K = dfun D (gamX [] []) (isRaw []) H51 J51 5 [.cell 2 58] (codeOf Tryd.f51) (argsT S51 L51 g) [] (settle0 K) X := by kernel_rfl
theorem F51_ok (g : prodL L51) (K X : Kn) (h : F51 g K) : FCalls Tryd.prog 51 (argsT S51 L51 g) [] K X :=
  FCalls.settle0 (dfun_sound (Γ := gamX [] []) (mu := isRaw []) (H := H51) (J := J51) D_ok (gamX_ok (rs := []) (l := []) (fun p hp => by cases hp) (fun p hp => by cases hp)) gamX_det rfl Tryd.func51 (c := codeOf Tryd.f51) rfl Tryd.ntmps51 (rs := [.cell 2 58]) Tryd.results51 (by unfold enters; rw [Tryd.func51]; kernel_rfl) (Nat.le_of_ble_eq_true (by kernel_rfl)) (X := X) (c0 := 0) (Eq.mp (F51_eq g K X) h))
/-- quilt/proto.number -/
def H82 : List (Nat × Hint) := []
def J82 : List (Nat × Hint) := []
abbrev S82 : List Sh := [.leaf]
abbrev L82 : List Lf := [.int .i64]
def F82 (g : prodL L82) (K : Kn) : Prop :=
  sp97.pre (g.1, ()) ∧
  K (.ag [.bool (((intB g.1).1).isList), .str (((intB g.1).1).atom), .sl false .sexp (((intB g.1).1).list)]) []
theorem F82_eq (g : prodL L82) (K X : Kn) : F82 g K = dfun D (gamX [] [(97, false, sp97)]) (isRaw []) H82 J82 11 [.cell 2 58] (codeOf Tryd.f82) (argsT S82 L82 g) [] (settle0 K) X := by kernel_rfl
theorem F82_ok (g : prodL L82) (K X : Kn) (h : F82 g K) : FCalls Tryd.prog 82 (argsT S82 L82 g) [] K X :=
  FCalls.settle0 (dfun_sound (Γ := gamX [] [(97, false, sp97)]) (mu := isRaw []) (H := H82) (J := J82) D_ok (gamX_ok (rs := []) (l := [(97, false, sp97)]) (fun p hp => by cases hp) (by intro p hp; simp only [List.mem_cons, List.not_mem_nil, or_false] at hp; subst hp; exact sp97_ok)) gamX_det rfl Tryd.func82 (c := codeOf Tryd.f82) rfl Tryd.ntmps82 (rs := [.cell 2 58]) Tryd.results82 (by unfold enters; rw [Tryd.func82]; kernel_rfl) (Nat.le_of_ble_eq_true (by kernel_rfl)) (X := X) (c0 := 0) (Eq.mp (F82_eq g K X) h))
/-- quilt/quiltref50.number -/
def H53 : List (Nat × Hint) := []
def J53 : List (Nat × Hint) := []
abbrev S53 : List Sh := [.leaf]
abbrev L53 : List Lf := [.int .i64]
def F53 (g : prodL L53) (K : Kn) : Prop :=
  sp88.pre (g.1, ()) ∧
  K (.ag [.bool (((intB g.1).1).isList), .str (((intB g.1).1).atom), .sl false .sexp (((intB g.1).1).list)]) []
theorem F53_eq (g : prodL L53) (K X : Kn) : F53 g K = dfun D (gamX [] [(88, false, sp88)]) (isRaw []) H53 J53 11 [.cell 2 58] (codeOf Tryd.f53) (argsT S53 L53 g) [] (settle0 K) X := by kernel_rfl
theorem F53_ok (g : prodL L53) (K X : Kn) (h : F53 g K) : FCalls Tryd.prog 53 (argsT S53 L53 g) [] K X :=
  FCalls.settle0 (dfun_sound (Γ := gamX [] [(88, false, sp88)]) (mu := isRaw []) (H := H53) (J := J53) D_ok (gamX_ok (rs := []) (l := [(88, false, sp88)]) (fun p hp => by cases hp) (by intro p hp; simp only [List.mem_cons, List.not_mem_nil, or_false] at hp; subst hp; exact sp88_ok)) gamX_det rfl Tryd.func53 (c := codeOf Tryd.f53) rfl Tryd.ntmps53 (rs := [.cell 2 58]) Tryd.results53 (by unfold enters; rw [Tryd.func53]; kernel_rfl) (Nat.le_of_ble_eq_true (by kernel_rfl)) (X := X) (c0 := 0) (Eq.mp (F53_eq g K X) h))
/-- quilt/quiltref02.Bytes -/
def H98 : List (Nat × Hint) := []
def J98 : List (Nat × Hint) := []
abbrev S98 : List Sh := [.ag [.leaf, .leaf, .leaf, .leaf, .leaf, .leaf, .leaf, .leaf, .leaf, .leaf, .leaf, .leaf, .leaf, .leaf, .leaf, .leaf, .leaf, .leaf, .leaf, .leaf, .leaf, .leaf, .leaf, .leaf, .leaf, .leaf, .leaf, .leaf, .leaf, .leaf, .leaf, .leaf]]
abbrev L98 : List Lf := [.int .u8, .int .u8, .int .u8, .int .u8, .int .u8, .int .u8, .int .u8, .int .u8, .int .u8, .int .u8, .int .u8, .int .u8, .int .u8, .int .u8, .int .u8, .int .u8, .int .u8, .int .u8, .int .u8, .int .u8, .int .u8, .int .u8, .int .u8, .int .u8, .int .u8, .int .u8, .int .u8, .int .u8, .int .u8, .int .u8, .int .u8, .int .u8]
def F98 (g : prodL L98) (K : Kn) : Prop :=
  K (.str (dstr (⟨g.1, g.2.1, g.2.2.1, g.2.2.2.1, g.2.2.2.2.1, g.2.2.2.2.2.1, g.2.2.2.2.2.2.1, g.2.2.2.2.2.2.2.1, g.2.2.2.2.2.2.2.2.1, g.2.2.2.2.2.2.2.2.2.1, g.2.2.2.2.2.2.2.2.2.2.1, g.2.2.2.2.2.2.2.2.2.2.2.1, g.2.2.2.2.2.2.2.2.2.2.2.2.1, g.2.2.2.2.2.2.2.2.2.2.2.2.2.1, g.2.2.2.2.2.2.2.2.2.2.2.2.2.2.1, g.2.2.2.2.2.2.2.2.2.2.2.2.2.2.2.1, g.2.2.2.2.2.2.2.2.2.2.2.2.2.2.2.2.1, g.2.2.2.2.2.2.2.2.2.2.2.2.2.2.2.2.2.1, g.2.2.2.2.2.2.2.2.2.2.2.2.2.2.2.2.2.2.1, g.2.2.2.2.2.2.2.2.2.2.2.2.2.2.2.2.2.2.2.1, g.2.2.2.2.2.2.2.2.2.2.2.2.2.2.2.2.2.2.2.2.1, g.2.2.2.2.2.2.2.2.2.2.2.2.2.2.2.2.2.2.2.2.2.1, g.2.2.2.2.2.2.2.2.2.2.2.2.2.2.2.2.2.2.2.2.2.2.1, g.2.2.2.2.2.2.2.2.2.2.2.2.2.2.2.2.2.2.2.2.2.2.2.1, g.2.2.2.2.2.2.2.2.2.2.2.2.2.2.2.2.2.2.2.2.2.2.2.2.1, g.2.2.2.2.2.2.2.2.2.2.2.2.2.2.2.2.2.2.2.2.2.2.2.2.2.1, g.2.2.2.2.2.2.2.2.2.2.2.2.2.2.2.2.2.2.2.2.2.2.2.2.2.2.1, g.2.2.2.2.2.2.2.2.2.2.2.2.2.2.2.2.2.2.2.2.2.2.2.2.2.2.2.1, g.2.2.2.2.2.2.2.2.2.2.2.2.2.2.2.2.2.2.2.2.2.2.2.2.2.2.2.2.1, g.2.2.2.2.2.2.2.2.2.2.2.2.2.2.2.2.2.2.2.2.2.2.2.2.2.2.2.2.2.1, g.2.2.2.2.2.2.2.2.2.2.2.2.2.2.2.2.2.2.2.2.2.2.2.2.2.2.2.2.2.2.1, g.2.2.2.2.2.2.2.2.2.2.2.2.2.2.2.2.2.2.2.2.2.2.2.2.2.2.2.2.2.2.2.1⟩ : Dig))) []
theorem F98_eq (g : prodL L98) (K X : Kn) : F98 g K = dfun D (gamX [] []) (isRaw []) H98 J98 5 [.tmp 2] (codeOf Tryd.f98) (argsT S98 L98 g) [] (settle0 K) X := by kernel_rfl
theorem F98_ok (g : prodL L98) (K X : Kn) (h : F98 g K) : FCalls Tryd.prog 98 (argsT S98 L98 g) [] K X :=
  FCalls.settle0 (dfun_sound (Γ := gamX [] []) (mu := isRaw []) (H := H98) (J := J98) D_ok (gamX_ok (rs := []) (l := []) (fun p hp => by cases hp) (fun p hp => by cases hp)) gamX_det rfl Tryd.func98 (c := codeOf Tryd.f98) rfl Tryd.ntmps98 (rs := [.tmp 2]) Tryd.results98 (by unfold enters; rw [Tryd.func98]; kernel_rfl) (Nat.le_of_ble_eq_true (by kernel_rfl)) (X := X) (c0 := 0) (Eq.mp (F98_eq g K X) h))
/-- quilt/proto.inRange -/
def H72 : List (Nat × Hint) := []
def J72 : List (Nat × Hint) := []
abbrev S72 : List Sh := [.leaf]
abbrev L72 : List Lf := [.int .i64]
def F72 (g : prodL L72) (K : Kn) : Prop :=
  bif decide (0 ≤ g.1) then (
    K (.bool (decide (g.1 ≤ 1099511627776))) [])
  else (
    K (.bool false) [])
theorem F72_eq (g : prodL L72) (K X : Kn) : F72 g K = dfun D (gamX [] []) (isRaw []) H72 J72 9 [.tmp 2] (codeOf Tryd.f72) (argsT S72 L72 g) [] (settle0 K) X := by kernel_rfl
theorem F72_ok (g : prodL L72) (K X : Kn) (h : F72 g K) : FCalls Tryd.prog 72 (argsT S72 L72 g) [] K X :=
  FCalls.settle0 (dfun_sound (Γ := gamX [] []) (mu := isRaw []) (H := H72) (J := J72) D_ok (gamX_ok (rs := []) (l := []) (fun p hp => by cases hp) (fun p hp => by cases hp)) gamX_det rfl Tryd.func72 (c := codeOf Tryd.f72) rfl Tryd.ntmps72 (rs := [.tmp 2]) Tryd.results72 (by unfold enters; rw [Tryd.func72]; kernel_rfl) (Nat.le_of_ble_eq_true (by kernel_rfl)) (X := X) (c0 := 0) (Eq.mp (F72_eq g K X) h))
/-- quilt/quiltref50.within -/
def H43 : List (Nat × Hint) := []
def J43 : List (Nat × Hint) := []
abbrev S43 : List Sh := [.leaf]
abbrev L43 : List Lf := [.int .i64]
def F43 (g : prodL L43) (K : Kn) : Prop :=
  bif decide (0 ≤ g.1) then (
    K (.bool (decide (g.1 ≤ 1099511627776))) [])
  else (
    K (.bool false) [])
theorem F43_eq (g : prodL L43) (K X : Kn) : F43 g K = dfun D (gamX [] []) (isRaw []) H43 J43 9 [.tmp 2] (codeOf Tryd.f43) (argsT S43 L43 g) [] (settle0 K) X := by kernel_rfl
theorem F43_ok (g : prodL L43) (K X : Kn) (h : F43 g K) : FCalls Tryd.prog 43 (argsT S43 L43 g) [] K X :=
  FCalls.settle0 (dfun_sound (Γ := gamX [] []) (mu := isRaw []) (H := H43) (J := J43) D_ok (gamX_ok (rs := []) (l := []) (fun p hp => by cases hp) (fun p hp => by cases hp)) gamX_det rfl Tryd.func43 (c := codeOf Tryd.f43) rfl Tryd.ntmps43 (rs := [.tmp 2]) Tryd.results43 (by unfold enters; rw [Tryd.func43]; kernel_rfl) (Nat.le_of_ble_eq_true (by kernel_rfl)) (X := X) (c0 := 0) (Eq.mp (F43_eq g K X) h))
/-- quilt/quiltref50.unsigned -/
def H42 : List (Nat × Hint) := []
def J42 : List (Nat × Hint) := []
abbrev S42 : List Sh := [.ag [.leaf, .leaf, .leaf, .leaf]]
abbrev L42 : List Lf := [.int .i64, .sl .dig, .sl .dig, .sl .dig]
def F42 (g : prodL L42) (K : Kn) : Prop :=
  bif decide (g.1 = 0) then (
    bif decide ((g.2.1.length : Int) = 0) then (
      bif decide ((g.2.2.1.length : Int) = 0) then (
        K (.bool (decide ((g.2.2.2.1.length : Int) = 0))) [])
      else (
        K (.bool false) []))
    else (
      K (.bool false) []))
  else (
    K (.bool false) [])
theorem F42_eq (g : prodL L42) (K X : Kn) : F42 g K = dfun D (gamX [] []) (isRaw []) H42 J42 24 [.tmp 2] (codeOf Tryd.f42) (argsT S42 L42 g) [] (settle0 K) X := by kernel_rfl
theorem F42_ok (g : prodL L42) (K X : Kn) (h : F42 g K) : FCalls Tryd.prog 42 (argsT S42 L42 g) [] K X :=
  FCalls.settle0 (dfun_sound (Γ := gamX [] []) (mu := isRaw []) (H := H42) (J := J42) D_ok (gamX_ok (rs := []) (l := []) (fun p hp => by cases hp) (fun p hp => by cases hp)) gamX_det rfl Tryd.func42 (c := codeOf Tryd.f42) rfl Tryd.ntmps42 (rs := [.tmp 2]) Tryd.results42 (by unfold enters; rw [Tryd.func42]; kernel_rfl) (Nat.le_of_ble_eq_true (by kernel_rfl)) (X := X) (c0 := 0) (Eq.mp (F42_eq g K X) h))
/-- quilt/proto.words -/
def H34 : List (Nat × Hint) := []
def J34 : List (Nat × Hint) := []
abbrev S34 : List Sh := []
abbrev L34 : List Lf := []
abbrev O34 : List ObSh := []
def F34 (g : prodL L34) (K : Kn) : Prop :=
  K (.mp 0) [some (.cells [.ments .ment (mput .ment (.int .i64 7) ((⟨7, (⟨#[112, 97, 116, 104, 115]⟩ : ByteArray)⟩ : Ment) : Ment) (mput .ment (.int .i64 6) ((⟨6, (⟨#[114, 101, 112, 108, 121]⟩ : ByteArray)⟩ : Ment) : Ment) (mput .ment (.int .i64 5) ((⟨5, (⟨#[112, 117, 115, 104]⟩ : ByteArray)⟩ : Ment) : Ment) (mput .ment (.int .i64 4) ((⟨4, (⟨#[100, 111, 110, 101]⟩ : ByteArray)⟩ : Ment) : Ment) (mput .ment (.int .i64 3) ((⟨3, (⟨#[112, 97, 116, 99, 104, 101, 115]⟩ : ByteArray)⟩ : Ment) : Ment) (mput .ment (.int .i64 2) ((⟨2, (⟨#[119, 97, 110, 116]⟩ : ByteArray)⟩ : Ment) : Ment) (mput .ment (.int .i64 1) ((⟨1, (⟨#[114, 97, 110, 103, 101, 115]⟩ : ByteArray)⟩ : Ment) : Ment) ([] : List Ment))))))))])]
theorem F34_eq (g : prodL L34) (K X : Kn) : F34 g K = dfun D (gamX [] []) (isRaw []) H34 J34 3 [.tmp 0] (codeOf Tryd.f34) (argsT S34 L34 g) (storeT S34 O34 L34 g) (settleD (storeT S34 O34 L34 g).length 0 K) X 0 := by kernel_rfl
theorem F34_ok (g : prodL L34) (K X : Kn) (h : F34 g K) : FCalls Tryd.prog 34 (argsT S34 L34 g) (storeT S34 O34 L34 g) K X 0 :=
  FCalls.settleD (dfun_sound (Γ := gamX [] []) (mu := isRaw []) (H := H34) (J := J34) D_ok (gamX_ok (rs := []) (l := []) (fun p hp => by cases hp) (fun p hp => by cases hp)) gamX_det rfl Tryd.func34 (c := codeOf Tryd.f34) rfl Tryd.ntmps34 (rs := [.tmp 0]) Tryd.results34 (by unfold enters; rw [Tryd.func34]; kernel_rfl) (Nat.le_of_ble_eq_true (by kernel_rfl)) (X := X) (c0 := 0) (Eq.mp (F34_eq g K X) h))
end Go.Proofs.YtoclmkbjgmgekaaDoor
