/- The kinds of elements of this seat: their leaves, their bulk, what is well formed. -/
import Derived.Test.YthjikjhddddplaaMP
import Derived.Test.YthjikjhddddplaaRows
namespace Go.Proofs.Ythjikjhddddplaa
set_option linter.unusedVariables false
set_option linter.unusedSimpArgs false
abbrev lvs : El → List Lf
  | .i64 => [.int .i64]
  | .pkt => [.int .i64, .str]
  | .flt => [.int .i64, .str, .int .i64]
def mkE : (e : El) → prodL (lvs e) → ty e
  | .i64, g => g.1
  | .pkt, g => ⟨g.1, g.2.1⟩
  | .flt, g => ⟨⟨g.1, g.2.1⟩, g.2.2.1⟩
theorem enc_mk : ∀ (e : El) (g : prodL (lvs e)), enc e (mkE e g) = envT (lvs e) g
  | .i64, _ => rfl
  | .pkt, _ => rfl
  | .flt, _ => rfl
def bk : (e : El) → ty e → Nat
  | .i64, _ => 1
  | .pkt, p => p.data.size + 2
  | .flt, f => f.pkt.data.size + 3
def bkL : (L : List Lf) → prodL L → Nat
  | [], _ => 0
  | .int _ :: r, g => 1 + bkL r g.2
  | .bool :: r, g => 1 + bkL r g.2
  | .str :: r, g => g.1.size + 1 + bkL r g.2
  | .sl e :: r, g => (g.1.map (bk e)).sum + 1 + bkL r g.2
  | .cst :: r, g => bkL r g.2
theorem bk_mk : ∀ (e : El) (g : prodL (lvs e)), bk e (mkE e g) = bkL (lvs e) g
  | .i64, _ => rfl
  | .pkt, g => by simp only [bk, mkE, bkL]; omega
  | .flt, g => by simp only [bk, mkE, bkL]; omega
def wfE : (e : El) → ty e → Prop
  | .i64, n => IntKind.i64.min ≤ n ∧ n ≤ IntKind.i64.max
  | .pkt, p => IntKind.i64.min ≤ p.to ∧ p.to ≤ IntKind.i64.max
  | .flt, f => (IntKind.i64.min ≤ f.pkt.to ∧ f.pkt.to ≤ IntKind.i64.max) ∧ (IntKind.i64.min ≤ f.due ∧ f.due ≤ IntKind.i64.max)
def wfL : (L : List Lf) → prodL L → Prop
  | [], _ => True
  | .int k :: r, g => (k.min ≤ g.1 ∧ g.1 ≤ k.max) ∧ wfL r g.2
  | .sl e :: r, g => (∀ x ∈ g.1, wfE e x) ∧ wfL r g.2
  | .bool :: r, g => wfL r g.2
  | .str :: r, g => wfL r g.2
  | .cst :: r, g => wfL r g.2
theorem wf_mk : ∀ (e : El) (g : prodL (lvs e)), wfL (lvs e) g → wfE e (mkE e g)
  | .i64, _, h => h.1
  | .pkt, _, h => h.1
  | .flt, _, h => ⟨h.1, h.2.1⟩
end Go.Proofs.Ythjikjhddddplaa
