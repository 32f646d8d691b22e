import Derived.Test.YtoclmkbjgmgekaaDoorX6
import Derived.WalkKit
import Derived.Test.YtoclmkbjgmgekaaDoorX5
/-
  Csexp: the copy check of a strings.Builder that has not been written.
-/
namespace Go.Proofs.YtoclmkbjgmgekaaDoor
set_option linter.unusedVariables false
set_option linter.unusedSimpArgs false
set_option linter.unusedSectionVars false
open Go.RowKit Go.Shelf
theorem setCell_at {w : World} {b q : Nat} {blk : Array Value} {E : TypeId} {fr : Nat × Nat} (v : Value) (h : w.heap[b]? = some (.cells blk E fr)) : (w.setCell ⟨b, q, none⟩ v).heap[b]? = some (.cells (blk.setIfInBounds q v) E fr) := by
  simp [World.setCell, Array.getElem?_modify, h]
theorem setCell_else {w : World} {b q b' : Nat} (v : Value) (h : b' ≠ b) : (w.setCell ⟨b, q, none⟩ v).heap[b']? = w.heap[b']? := by
  simp [World.setCell, Array.getElem?_modify, Ne.symm h]
def rw107f : Raw := ⟨[.pt 0 0], [.cells [.fp, .nil]], [], 0, fun _ K _ => K (.tu []) [some (.cells [.pt 0 0, .nil])]⟩
theorem rw107f_ok : rw107f.Ok Tryd.prog 107 := by
  rintro ⟨⟩ K X h g w hg
  have h : K (.tu []) [some (.cells [.pt 0 0, .nil])] := h
  have hg : Good g [some (.cells [.fp, .nil])] w := hg
  refine Atc.of (by kernel_rfl) fun args hr => ?_
  obtain ⟨x, rfl, hx⟩ := rl_one hr
  obtain ⟨oi, o1, _, o3⟩ := hg.obj 0 _ rfl
  have o1 : g.ob 0 0 = some oi := o1
  have hx : R g (.pt 0 0) x := hx
  cases hx with
  | pt _ _ oi' h1 =>
    rw [o1] at h1
    simp only [Option.some.injEq] at h1
    subst h1
    rcases o3 with o3 | ⟨_, blk, E, fr, p1, p2, p3, p4⟩
    · cases o3.1
    have p1 : w.heap[oi.b]? = some (.cells blk E fr) := p1
    obtain ⟨y, y1, _, y3⟩ := p3.at_ 0 _ rfl
    obtain ⟨z, z1, z2, z3⟩ := p3.at_ 1 _ rfl
    have hy : y = .pointer none := by cases y3; rfl
    subst hy
    have p4 : (E == 103 && blk.size == 2) = true := p4
    simp only [Bool.and_eq_true, beq_iff_eq] at p4
    obtain ⟨rfl, hs⟩ := p4
    refine (Any.Builder_copyCheck_fresh laysCopy copyX oi.b w (by simp [World.cell?, p1, y1]) (by simp [World.shape?, p1, hs]; rfl) (by
      have := p2 0 (by omega)
      simp only [World.frozen?, p1]
      simpa using this)).mono ?_
    rintro e w' ⟨rfl, rfl⟩
    obtain ⟨k1, k2, k3⟩ := good_put (st' := [some (.cells [.pt 0 0, .nil])]) (k := 0) (v := 0) (o' := .cells [.pt 0 0, .nil]) (oi := oi) (w' := w.setCell ⟨oi.b, 0, none⟩ (.pointer (some ⟨oi.b, 0, none⟩))) hg (fun i => by cases i <;> simp) (by decide) (by decide) rfl (.inr o1) (fun u oi' hu => old_ver (o' := .cells [.fp, .nil]) hg rfl hu) trivial
      (fun _ => .inr ⟨_, rfl, blk_of o1 (by simp [isArr])⟩) rfl rfl rfl (by simp [World.setCell]) (fun b _ hb => setCell_else _ fun e => hb _ rfl (by rw [blk_of o1 (by simp [isArr]), e]))
      (fun _ => ⟨_, 103, fr, setCell_at _ p1, fun q hq => p2 q (by simpa using hq), ⟨by simp [obCells, hs], fun j u hj => by
        match j, hj with
        | 0, hj => simp [obCells] at hj; subst hj; exact ⟨_, by simp [hs], rfl, .pt 0 0 oi o1⟩
        | 1, hj => simp [obCells] at hj; subst hj; exact ⟨z, by simpa using z1, z2, z3⟩
        | j + 2, hj => simp [obCells] at hj⟩, rfl⟩) (fun o ho => by
        simp only [List.getElem?_cons_zero, Option.some.injEq] at ho; subst ho; exact ⟨_, rfl, rfl, o1⟩)
    exact ⟨_, _, k1, k2 _, _, h, .tu [] #[] rfl (by simp)⟩
end Go.Proofs.YtoclmkbjgmgekaaDoor

/- What functions come to: printed by exf.py. -/
namespace Go.Proofs.YtoclmkbjgmgekaaDoor
set_option linter.unusedVariables false
set_option linter.unusedSimpArgs false
set_option linter.unusedSectionVars false
open Go.RowKit
attribute [local irreducible] dfun dround
/-- (*strings.Builder).WriteString -/
def H95f : List (Nat × Hint) := []
def J95f : List (Nat × Hint) := []
abbrev S95f : List Sh := [.pt 0 0, .leaf]
abbrev L95f : List Lf := [.str]
abbrev O95f : List ObSh := [.cells [.fp, .nil]]
def F95f (g : prodL L95f) (K : Kn) : Prop :=
  Room ((strB g.1).length) 1 (
  K (.tu [.int .i64 (g.1.size : Int), .cst .nilIface]) [some (.cells [.pt 0 0, .oa .u8 1 0]), some (.arr 0 .u8 (strB g.1))])
theorem F95f_eq (g : prodL L95f) (K X : Kn) : F95f g K = dfun D (gamX [(107, rw107f)] []) (isRaw [(107, rw107f)]) H95f J95f 19 [.tmp 4, .tmp 5] (codeOf Tryd.f95) (argsT S95f L95f g) (storeT S95f O95f L95f g) (settleD (storeT S95f O95f L95f g).length 0 K) X 0 := by kernel_rfl
theorem F95f_ok (g : prodL L95f) (K X : Kn) (h : F95f g K) : FCalls Tryd.prog 95 (argsT S95f L95f g) (storeT S95f O95f L95f g) K X 0 :=
  FCalls.settleD (dfun_sound (Γ := gamX [(107, rw107f)] []) (mu := isRaw [(107, rw107f)]) (H := H95f) (J := J95f) D_ok (gamX_ok (rs := [(107, rw107f)]) (l := []) (by intro p hp; simp only [List.mem_cons, List.not_mem_nil, or_false] at hp; subst hp; exact rw107f_ok) (fun p hp => by cases hp)) gamX_det rfl Tryd.func95 (c := codeOf Tryd.f95) rfl Tryd.ntmps95 (rs := [.tmp 4, .tmp 5]) Tryd.results95 (by unfold enters; rw [Tryd.func95]; kernel_rfl) (Nat.le_of_ble_eq_true (by kernel_rfl)) (X := X) (c0 := 0) (Eq.mp (F95f_eq g K X) h))
def rw95f : Raw := ⟨S95f, O95f, L95f, 0, fun g K _ => F95f g K⟩
theorem rw95f_ok : rw95f.Ok Tryd.prog 95 := fun g K X h => F95f_ok g K X h
/-- (*strings.Builder).WriteByte -/
def H96f : List (Nat × Hint) := []
def J96f : List (Nat × Hint) := []
abbrev S96f : List Sh := [.pt 0 0, .leaf]
abbrev L96f : List Lf := [.int .u8]
abbrev O96f : List ObSh := [.cells [.fp, .nil]]
def F96f (g : prodL L96f) (K : Kn) : Prop :=
  Room ([g.1].length) 1 (
  K (.cst .nilIface) [some (.cells [.pt 0 0, .oa .u8 1 0]), some (.arr 0 .u8 [g.1])])
theorem F96f_eq (g : prodL L96f) (K X : Kn) : F96f g K = dfun D (gamX [(107, rw107f)] []) (isRaw [(107, rw107f)]) H96f J96f 17 [.tmp 4] (codeOf Tryd.f96) (argsT S96f L96f g) (storeT S96f O96f L96f g) (settleD (storeT S96f O96f L96f g).length 0 K) X 0 := by kernel_rfl
theorem F96f_ok (g : prodL L96f) (K X : Kn) (h : F96f g K) : FCalls Tryd.prog 96 (argsT S96f L96f g) (storeT S96f O96f L96f g) K X 0 :=
  FCalls.settleD (dfun_sound (Γ := gamX [(107, rw107f)] []) (mu := isRaw [(107, rw107f)]) (H := H96f) (J := J96f) D_ok (gamX_ok (rs := [(107, rw107f)]) (l := []) (by intro p hp; simp only [List.mem_cons, List.not_mem_nil, or_false] at hp; subst hp; exact rw107f_ok) (fun p hp => by cases hp)) gamX_det rfl Tryd.func96 (c := codeOf Tryd.f96) rfl Tryd.ntmps96 (rs := [.tmp 4]) Tryd.results96 (by unfold enters; rw [Tryd.func96]; kernel_rfl) (Nat.le_of_ble_eq_true (by kernel_rfl)) (X := X) (c0 := 0) (Eq.mp (F96f_eq g K X) h))
def rw96f : Raw := ⟨S96f, O96f, L96f, 0, fun g K _ => F96f g K⟩
theorem rw96f_ok : rw96f.Ok Tryd.prog 96 := fun g K X h => F96f_ok g K X h
end Go.Proofs.YtoclmkbjgmgekaaDoor

/- What functions come to: printed by exf.py. -/
namespace Go.Proofs.YtoclmkbjgmgekaaDoor
set_option linter.unusedVariables false
set_option linter.unusedSimpArgs false
set_option linter.unusedSectionVars false
open Go.RowKit
attribute [local irreducible] dfun dround
/-- quilt/csexp.encode -/
def H74f : List (Nat × Hint) := [(7, ⟨[((0, [1]), none)], [(0, .pt 0 0), (24, .leaf), (25, .leaf), (26, .leaf)], [.cells [.pt 0 0, .oa .u8 1], .arr .u8], [.sl .sexp, .int .i64, .int .i64, .sl .u8]⟩)]
def J74f : List (Nat × Hint) := []
abbrev S74f : List Sh := [.pt 0 0, .ag [.leaf, .leaf, .leaf]]
abbrev L74f : List Lf := [.bool, .str, .sl .sexp]
abbrev O74f : List ObSh := [.cells [.fp, .nil]]
def F74f_B6 (K : Kn) (W6 : prodL [.sl .sexp, .int .i64, .int .i64, .sl .u8] → Prop) (t_5 : List Sx) (t2_5 : Int) (t3_5 : Int) (w_5 : List Int) : Prop :=
  bif decide (t3_5 < t2_5) then (
    At t_5 t3_5 fun u7 =>
  encPre (u7.isList, u7.atom, u7.list, w_5, ()) ∧
  W6 (t_5, t2_5, IntKind.i64.wrap (t3_5 + 1), (w_5 ++ encI ⟨u7.isList, u7.atom, u7.list⟩), ()))
  else (
    let g8 : prodL [.int .u8, .sl .u8] := (41, w_5, ());
  Room (g8.2.1.length + [g8.1].length) 1 (
  K (.tu []) [some (.cells [.pt 0 0, .oa .u8 1 0]), some (.arr 0 .u8 (g8.2.1 ++ [g8.1]))]))
def F74f_L6 (K : Kn) (g : prodL [.sl .sexp, .int .i64, .int .i64, .sl .u8]) : Prop :=
  LoopW (γ := prodL [.sl .sexp, .int .i64, .int .i64, .sl .u8]) (fun V y => F74f_B6 K V y.1 y.2.1 y.2.2.1 y.2.2.2.1) g
def F74f (g : prodL L74f) (K : Kn) : Prop :=
  bif !g.1 then (
    sp36.pre ((g.2.1.size : Int), ()) ∧
    let g1 : prodL [.str] := ((decB (g.2.1.size : Int)), ());
    Room ((strB g1.1).length) 1 (
    let g2 : prodL [.int .u8, .sl .u8] := (58, strB g1.1, ());
    Room (g2.2.1.length + [g2.1].length) 1 (
    let g3 : prodL [.str, .sl .u8] := (g.2.1, g2.2.1 ++ [g2.1], ());
    Room (g3.2.1.length + (strB g3.1).length) 1 (
    K (.tu []) [some (.cells [.pt 0 0, .oa .u8 1 0]), some (.arr 0 .u8 (g3.2.1 ++ (strB g3.1)))]))))
  else (
    let g4 : prodL [.int .u8] := (40, ());
  Room ([g4.1].length) 1 (
  F74f_L6 K (g.2.2.1, (g.2.2.1.length : Int), 0, [g4.1], ())))
theorem F74f_eq (g : prodL L74f) (K X : Kn) : F74f g K = dfun D (gamX [(74, rw74), (95, rw95), (95, rw95f), (96, rw96), (96, rw96f)] [(36, true, sp36)]) (isRaw [(74, rw74), (95, rw95), (95, rw95f), (96, rw96), (96, rw96f)]) H74f J74f 36 [] (codeOf Tryd.f74) (argsT S74f L74f g) (storeT S74f O74f L74f g) (settleD (storeT S74f O74f L74f g).length 0 K) X 0 := by kernel_rfl
theorem F74f_ok (g : prodL L74f) (K X : Kn) (h : F74f g K) : FCalls Tryd.prog 74 (argsT S74f L74f g) (storeT S74f O74f L74f g) K X 0 :=
  FCalls.settleD (dfun_sound (Γ := gamX [(74, rw74), (95, rw95), (95, rw95f), (96, rw96), (96, rw96f)] [(36, true, sp36)]) (mu := isRaw [(74, rw74), (95, rw95), (95, rw95f), (96, rw96), (96, rw96f)]) (H := H74f) (J := J74f) D_ok (gamX_ok (rs := [(74, rw74), (95, rw95), (95, rw95f), (96, rw96), (96, rw96f)]) (l := [(36, true, sp36)]) (by intro p hp; simp only [List.mem_cons, List.not_mem_nil, or_false] at hp; rcases hp with rfl | rfl | rfl | rfl | rfl <;> first | exact rw74_ok | exact rw95_ok | exact rw95f_ok | exact rw96_ok | exact rw96f_ok) (by intro p hp; simp only [List.mem_cons, List.not_mem_nil, or_false] at hp; subst hp; exact sp36_ok)) gamX_det rfl Tryd.func74 (c := codeOf Tryd.f74) rfl Tryd.ntmps74 (rs := []) Tryd.results74 (by unfold enters; rw [Tryd.func74]; kernel_rfl) (Nat.le_of_ble_eq_true (by kernel_rfl)) (X := X) (c0 := 0) (Eq.mp (F74f_eq g K X) h))
end Go.Proofs.YtoclmkbjgmgekaaDoor

/-
  Csexp: encode on a fresh builder.
-/
namespace Go.Proofs.YtoclmkbjgmgekaaDoor
set_option linter.unusedVariables false
set_option linter.unusedSimpArgs false
set_option linter.unusedSectionVars false
open Go.RowKit

def encPf (g : prodL [.bool, .str, .sl .sexp]) : Prop := encP ⟨g.1, g.2.1, g.2.2.1⟩ []
theorem F74f_is {b : Bool} {a : ByteArray} {l : List Sx} {K : Kn} (hp : encP ⟨b, a, l⟩ []) (h : K (.tu []) [some (.cells [.pt 0 0, .oa .u8 1 0]), some (.arr 0 .u8 (encI ⟨b, a, l⟩))]) : F74f (b, a, l, ()) K := by
  obtain ⟨hk, hz⟩ := hp
  obtain ⟨hs, hsz, hbl, _⟩ := small hk
  have hl := lim_eq
  unfold F74f
  simp only [bkS, List.length_nil] at hz
  dsimp only [Lf.ty, prodL] at h ⊢
  cases b
  · rw [encI_atom] at h
    have hn : intP (a.size : Int) := (⟨by omega, by omega⟩ : -9223372036854775808 ≤ (a.size : Int) ∧ (a.size : Int) ≤ 9223372036854775807)
    have hd := decB_size hn
    simp only [Bool.not_false, cond_true]
    refine ⟨hn, ?_, ?_, ?_, ?_⟩
    · rw [strB_len]; omega
    · simp only [strB_len, List.length_cons, List.length_nil]; omega
    · simp only [List.length_append, strB_len, List.length_cons, List.length_nil]; omega
    · rw [show ((strB (decB (a.size : Int))) ++ [58]) ++ strB a = (strB (decB (a.size : Int)) ++ (58 :: strB a)) by simp]
      exact h
  · rw [encI_list] at h
    simp only [Bool.not_true, cond_false]
    refine ⟨by simp only [List.length_cons, List.length_nil]; omega, ?_⟩
    unfold F74f_L6
    refine LoopW.fold l (fun n (cs : List Int) => (l, (l.length : Int), (n : Int), cs, ())) (fun r _ cs => K (.tu []) [some (.cells [.pt 0 0, .oa .u8 1 0]), some (.arr 0 .u8 (cs ++ (encsI r ++ [41])))] ∧ cs.length + 22 * bkSs r ≤ 70368744177664) (a0 := [40]) rfl ⟨?_, by simp only [List.length_cons, List.length_nil]; omega⟩ (fun cs hp W => ?_) (fun n hn r cs hr hp W hW => ?_)
    · exact h
    · obtain ⟨p1, p2⟩ := hp
      unfold F74f_B6
      rw [bif_dec, if_neg (by dsimp only; omega)]
      simp only [bkSs] at p2
      exact ⟨by simp only [List.length_cons, List.length_nil]; omega, p1⟩
    · obtain ⟨p1, p2⟩ := hp
      unfold F74f_B6
      rw [bif_dec, if_pos (by dsimp only; omega)]
      have hx : bkS l[n] ≤ bkSs l := mem_bk (List.getElem_mem hn)
      have he := encI_len (x := l[n]) (by omega)
      simp only [bkSs] at p2
      refine At_of hn ⟨(by show encP ⟨l[n].isList, l[n].atom, l[n].list⟩ cs; rw [Sx.eta]; exact ⟨by omega, by omega⟩), ?_⟩
      rw [Sx.eta, wrapS hn hs]
      refine hW (cs ++ encI l[n]) ⟨?_, ?_⟩
      · have e : encsI (l[n] :: r) = encI l[n] ++ encsI r := by unfold encsI encI; simp [encLs]
        rw [e] at p1
        rw [List.append_assoc, ← List.append_assoc (encI l[n])]
        exact p1
      · rw [List.length_append]; omega
def rw74f : Raw := ⟨S74f, O74f, L74f, 0, fun g K _ => encPf g ∧ K (.tu []) [some (.cells [.pt 0 0, .oa .u8 1 0]), some (.arr 0 .u8 (encI ⟨g.1, g.2.1, g.2.2.1⟩))]⟩
theorem rw74f_ok : rw74f.Ok Tryd.prog 74 := fun g K X h => F74f_ok g K X (F74f_is h.1 h.2)
end Go.Proofs.YtoclmkbjgmgekaaDoor

/-
  Csexp: the string that a builder has gathered.
-/
namespace Go.Proofs.YtoclmkbjgmgekaaDoor
set_option linter.unusedVariables false
set_option linter.unusedSimpArgs false
set_option linter.unusedSectionVars false
open Go.RowKit
set_option maxHeartbeats 1000000 in
set_option maxRecDepth 100000 in
theorem string39 (b g cap : Nat) (cur : Array Value) (fr : Nat × Nat) (l : List UInt8) (w : World) (c0 : w.cell? ⟨b, 1, none⟩ = some (.slice (some ⟨g, 0, none⟩) l.length cap)) (hg : w.heap[g]? = some (.cells cur 5 fr)) (hl0 : l.length ≠ 0) (hnc : l.length ≤ cap) (hcm : cap ≤ maxLen) (hcs : cap ≤ cur.size)
    (hat : ∀ (j : Nat) (x : UInt8), l[j]? = some x → cur[j]? = some (Value.int .u8 x.toNat)) :
    Calls Tryd.prog 75 #[.pointer (some ⟨b, 0, none⟩)] w fun e w' => e = .returned (.string ⟨l.toArray⟩) ∧ w' = w.drew.freeze ⟨g, 0, none⟩ l.length := by
  have c1 : w.drew.cell? ⟨b, 1, none⟩ = some (.slice (some ⟨g, 0, none⟩) l.length cap) := c0
  have hg' : w.drew.heap[g]? = some (.cells cur 5 fr) := hg
  have hSD : (Builtin.unsafeSliceData_ #[101] 132 #[.slice (some ⟨g, 0, none⟩) l.length cap]).run Tryd.prog w.drew = .ok (.pointer (some ⟨g, 0, none⟩)) w.drew :=
    Lib.run_unsafeSliceData_row _ _ _ _ _ _ (by omega)
  have hUS : (Builtin.unsafeString_ #[132, 3] 9 #[.pointer (some ⟨g, 0, none⟩), .int .i64 l.length]).run Tryd.prog w.drew = .ok (.string ⟨l.toArray⟩) (w.drew.freeze ⟨g, 0, none⟩ l.length) := by
    refine Lib.run_unsafeString_row w.drew 132 3 9 5 Tryd.underlying132 (by kernel_rfl) g cur.size (by simp [World.shape?, hg']) l (fun e => hl0 (by rw [e]; rfl)) (by omega) (by unfold maxLen at hcm; omega) ?_
    intro j x hx
    have := hat j x hx
    unfold Addr.add
    by_cases hj : j = 0
    · subst hj; simp [World.cell?, hg', this]
    · simp [hj, World.cell?, hg', this]
  go_enter Tryd.func75, Tryd.ntmps75
  go_wp2
  go_region
  all_goals (go_wp2; go_ret; exact ⟨rfl, rfl⟩)
end Go.Proofs.YtoclmkbjgmgekaaDoor

/-
  Csexp: String, as the machine takes it; Encode.
-/
namespace Go.Proofs.YtoclmkbjgmgekaaDoor
set_option linter.unusedVariables false
set_option linter.unusedSimpArgs false
set_option linter.unusedSectionVars false
open Go.RowKit
theorem freeze_else {w : World} {a : Addr} {n b : Nat} (h : b ≠ a.block) : (w.freeze a n).heap[b]? = w.heap[b]? := by
  unfold World.freeze
  split
  · rfl
  · simp [Array.getElem?_modify, Ne.symm h]
theorem freeze_size {w : World} {a : Addr} {n : Nat} : (w.freeze a n).heap.size = w.heap.size := by
  unfold World.freeze
  split
  · rfl
  · simp
theorem freeze_os {w : World} {a : Addr} {n : Nat} : (w.freeze a n).os = w.os := by
  unfold World.freeze; split <;> rfl
theorem freeze_tape {w : World} {a : Addr} {n : Nat} : (w.freeze a n).tape = w.tape := by
  unfold World.freeze; split <;> rfl
theorem freeze_out {w : World} {a : Addr} {n : Nat} : (w.freeze a n).output = w.output := by
  unfold World.freeze; split <;> rfl
theorem u8_back {n : Int} (h1 : 0 ≤ n) (h2 : n < 256) : n = ((UInt8.ofNat n.toNat).toNat : Int) := by
  rw [UInt8.toNat_ofNat', Nat.mod_eq_of_lt (by omega)]
  omega
def strPre (g : prodL [.sl .u8]) : Prop := g.1 ≠ [] ∧ ∀ n ∈ g.1, 0 ≤ n ∧ n < 256
def rw75 : Raw := ⟨[.pt 0 0], bdrO, [.sl .u8], 0, fun g K _ => strPre g ∧ K (.str (bStr g.1)) [some (.cells [.pt 0 0, .oa .u8 1 0]), some (.arr 1 .u8 [])]⟩
theorem rw75_ok : rw75.Ok Tryd.prog 75 := by
  rintro ⟨l, ⟨⟩⟩ K X h g w hg
  obtain ⟨⟨hne, hb⟩, h⟩ := h
  have hne : l ≠ [] := hne
  have hb : ∀ n ∈ l, 0 ≤ n ∧ n < 256 := hb
  have h : K (.str (bStr l)) [some (.cells [.pt 0 0, .oa .u8 1 0]), some (.arr 1 .u8 [])] := h
  have hg : Good g [some (.cells [.pt 0 0, .oa .u8 1 0]), some (.arr 0 .u8 l)] w := hg
  refine Atc.of (by kernel_rfl) fun args hr => ?_
  obtain ⟨x, rfl, hx⟩ := rl_one hr
  obtain ⟨oi, o1, _, o3⟩ := hg.obj 0 _ rfl
  obtain ⟨oa, a1, a2, a3, a4, a5⟩ := hg.arr (k := 1) (ver := 0) (e := .u8) (l := l) rfl
  have o1 : g.ob 0 0 = some oi := o1
  have hx : R g (.pt 0 0) x := hx
  have hl0 : 0 < l.length := List.length_pos_iff.2 hne
  obtain ⟨_, cur, E, fr, q1, q2, q3, q4, q5⟩ := a5 (by omega)
  have q5 : (E == 5) = true := q5
  obtain rfl : E = 5 := by simpa using q5
  cases hx with
  | pt _ _ oi' h1 =>
    rw [o1] at h1
    simp only [Option.some.injEq] at h1
    subst h1
    rcases o3 with o3 | ⟨_, blk, E, fr', p1, _, p3, _⟩
    · cases o3.1
    have p1 : w.heap[oi.b]? = some (.cells blk E fr') := p1
    obtain ⟨z, z1, _, z3⟩ := p3.at_ 1 _ rfl
    have z3 : R g (.oa .u8 1 0) z := z3
    have hz : z = .slice (some ⟨oa.b, 0, none⟩) l.length oa.cap := by
      cases z3 with
      | oa _ _ _ oi'' A r1 r2 r3 r4 =>
        rw [a1] at r1
        simp only [Option.some.injEq] at r1
        subst r1
        rw [r2 (by omega), a2]
    subst hz
    have hlen : (l.map fun n => UInt8.ofNat n.toNat).length = l.length := List.length_map ..
    refine (string39 oi.b oa.b oa.cap cur fr (l.map fun n => UInt8.ofNat n.toNat) w (by rw [hlen]; simp [World.cell?, p1, z1]) q1 (by rw [hlen]; omega) (by rw [hlen]; omega) a4 (by rw [show sz .u8 = 1 from rfl, Nat.mul_one] at q4; exact q4) (fun j x hx => ?_)).mono ?_
    · simp only [List.getElem?_map, Option.map_eq_some_iff] at hx
      obtain ⟨n, hn, rfl⟩ := hx
      obtain ⟨y, y1, _, y3⟩ := q3.at_ j (.int .u8 n) (by
        have := encs_get (e := .u8) (j := 0) hn (by decide)
        simpa [sz, enc] using this)
      cases y3
      obtain ⟨b1, b2⟩ := hb n (List.mem_of_getElem? hn)
      rw [y1]
      exact congrArg (fun m => some (Value.int .u8 m)) (u8_back b1 b2)
    · rintro e w' ⟨rfl, rfl⟩
      have hnew : g.ob 1 1 = none := by
        cases hh : g.ob 1 1 with
        | none => rfl
        | some oi => have := old_ver (o' := .arr 0 .u8 l) hg rfl hh; simp [obVer] at this
      obtain ⟨k1, k2, k3⟩ := good_put (st' := [some (.cells [.pt 0 0, .oa .u8 1 0]), some (.arr 1 .u8 [])]) (k := 1) (v := 1) (o' := .arr 1 .u8 []) (oi := ⟨0, 0, 0⟩) (w' := w.drew.freeze ⟨oa.b, 0, none⟩ (l.map fun n => UInt8.ofNat n.toNat).length) hg (fun i => by rcases i with _ | _ | i <;> simp) (Nat.le_of_ble_eq_true rfl) (Nat.le_of_ble_eq_true rfl) rfl (.inl hnew)
        (fun u oi' hu => by have := old_ver (o' := .arr 0 .u8 l) hg rfl hu; simp [obVer] at this; omega) ⟨rfl, Nat.le_refl _, Nat.zero_le _⟩ (fun h => absurd ⟨rfl, rfl⟩ h) freeze_os freeze_tape freeze_out (by rw [freeze_size]; exact Nat.le_refl _)
        (fun b _ hb => freeze_else fun e => hb (.arr 0 .u8 l) rfl (by rw [blk_of a1 (by simp [isArr]; omega)]; exact congrArg some e.symm)) (fun h => absurd ⟨rfl, rfl⟩ h) (fun o ho => by
          simp only [List.getElem?_cons_succ, List.getElem?_cons_zero, Option.some.injEq] at ho; subst ho; exact ⟨_, _, rfl⟩)
      exact ⟨_, _, k1, k2 _, _, h, .str _⟩
end Go.Proofs.YtoclmkbjgmgekaaDoor

/- What functions come to: printed by exf.py. -/
namespace Go.Proofs.YtoclmkbjgmgekaaDoor
set_option linter.unusedVariables false
set_option linter.unusedSimpArgs false
set_option linter.unusedSectionVars false
open Go.RowKit
attribute [local irreducible] dfun dround
/-- quilt/csexp.Encode -/
def H40 : List (Nat × Hint) := []
def J40 : List (Nat × Hint) := []
abbrev S40 : List Sh := [.ag [.leaf, .leaf, .leaf]]
abbrev L40 : List Lf := [.bool, .str, .sl .sexp]
def F40 (g : prodL L40) (K : Kn) : Prop :=
  sp73.pre (g.1, g.2.1, g.2.2.1, ()) ∧
  bif !decide (ckG ⟨g.1, g.2.1, g.2.2.1⟩ = 0) then (
    K (.tu [.str (⟨#[]⟩ : ByteArray), .int .i64 (ckG ⟨g.1, g.2.1, g.2.2.1⟩)]) [])
  else (
    encPf (g.1, g.2.1, g.2.2.1, ()) ∧
  strPre ((encI ⟨g.1, g.2.1, g.2.2.1⟩), ()) ∧
  K (.tu [.str (bStr (encI ⟨g.1, g.2.1, g.2.2.1⟩)), .int .i64 0]) [])
theorem F40_eq (g : prodL L40) (K X : Kn) : F40 g K = dfun D (gamX [(74, rw74f), (75, rw75)] [(73, true, sp73)]) (isRaw [(74, rw74f), (75, rw75)]) H40 J40 14 [.tmp 2, .tmp 3] (codeOf Tryd.f40) (argsT S40 L40 g) [] (settle0 K) X := by kernel_rfl
theorem F40_ok (g : prodL L40) (K X : Kn) (h : F40 g K) : FCalls Tryd.prog 40 (argsT S40 L40 g) [] K X :=
  FCalls.settle0 (dfun_sound (Γ := gamX [(74, rw74f), (75, rw75)] [(73, true, sp73)]) (mu := isRaw [(74, rw74f), (75, rw75)]) (H := H40) (J := J40) D_ok (gamX_ok (rs := [(74, rw74f), (75, rw75)]) (l := [(73, true, sp73)]) (by intro p hp; simp only [List.mem_cons, List.not_mem_nil, or_false] at hp; rcases hp with rfl | rfl <;> first | exact rw74f_ok | exact rw75_ok) (by intro p hp; simp only [List.mem_cons, List.not_mem_nil, or_false] at hp; subst hp; exact sp73_ok)) gamX_det rfl Tryd.func40 (c := codeOf Tryd.f40) rfl Tryd.ntmps40 (rs := [.tmp 2, .tmp 3]) Tryd.results40 (by unfold enters; rw [Tryd.func40]; kernel_rfl) (Nat.le_of_ble_eq_true (by kernel_rfl)) (X := X) (c0 := 0) (Eq.mp (F40_eq g K X) h))
end Go.Proofs.YtoclmkbjgmgekaaDoor

/-
  Csexp: csexp.Encode meets its contract; the five laws that call it.
-/
namespace Go.Proofs.YtoclmkbjgmgekaaDoor
set_option linter.unusedVariables false
set_option linter.unusedSimpArgs false
set_option linter.unusedSectionVars false
open Go.RowKit
theorem bStr_encI (x : Sx) : bStr (encI x) = encB x := by
  have h : bl (bStr (encI x)) = bl (encB x) := by
    rw [encB_bl]
    unfold bStr encI bl
    simp [Function.comp_def]
  exact ByteArray.ext (Array.toList_inj.1 h)
theorem encI_ne (x : Sx) : encI x ≠ [] := by
  obtain ⟨b, a, l⟩ := x
  cases b
  · rw [encI_atom]; simp
  · rw [encI_list]; simp
theorem encI_byte (x : Sx) : ∀ n ∈ encI x, 0 ≤ n ∧ n < 256 := by
  intro n hn
  unfold encI at hn
  obtain ⟨b, _, rfl⟩ := List.mem_map.1 hn
  have := b.toNat_lt
  omega
theorem encode_ok : EncodeOk :=
  ⟨by
    rintro ⟨b, a, l, ⟨⟩⟩ K X q1 h
    have h : K (.tu [.str (enT ⟨b, a, l⟩).1, .int .i64 (enT ⟨b, a, l⟩).2]) [] := h
    have q1 : bkS ⟨b, a, l⟩ ≤ lim := q1
    refine F40_ok (b, a, l, ()) K X ⟨q1, ?_⟩
    unfold enT at h
    dsimp only
    rw [bif_ndec]
    by_cases h0 : ckG ⟨b, a, l⟩ = 0
    · rw [if_pos h0] at h
      rw [if_pos h0]
      refine ⟨⟨q1, ?_⟩, ⟨encI_ne _, encI_byte _⟩, ?_⟩
      · have := lim_eq; simp only [List.length_nil]; omega
      · show K (.tu [.str (bStr (encI ⟨b, a, l⟩)), .int .i64 0]) []
        rw [bStr_encI]; exact h
    · rw [if_neg h0] at h
      rw [if_neg h0]
      exact h, fun _ _ _ => rfl, fun _ => rfl, fun _ _ => ⟨rfl, rfl⟩⟩
end Go.Proofs.YtoclmkbjgmgekaaDoor
