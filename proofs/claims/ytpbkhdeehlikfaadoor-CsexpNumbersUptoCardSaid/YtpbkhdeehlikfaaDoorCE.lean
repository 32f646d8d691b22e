/-
  Csexp: what the readers are said to yield.
-/
import Derived.Test.YtpbkhdeehlikfaaDoorCC
namespace Go.Proofs.YtpbkhdeehlikfaaDoor
set_option linter.unusedVariables false
set_option linter.unusedSimpArgs false
set_option linter.unusedSectionVars false
open Go.RowKit

def headR : List UInt8 → Res UInt8 Int
  | [] => .err 11
  | c :: _ => .ok c
def inP (a b n : Int) : Prop := a ≤ n ∧ n ≤ b
def atP (s : ByteArray) (p : Int) : Prop := 0 ≤ p ∧ p ≤ (s.size : Int) ∧ s.size ≤ 2 * lim
def nextPre (g : prodL [.str, .int .i64, .int .i64]) : Prop := atP g.1 g.2.1
def nextF (g : prodL [.str, .int .i64, .int .i64]) (K X : Kn) : Prop :=
  Res.go (headR ((bl g.1).drop g.2.1.toNat)) (fun a => K (.int .u8 (a.toNat : Int)) [some (.cells [.str g.1, .int .i64 g.2.1, .int .i64 g.2.2.1])]) (fun e => X (.ic 47 (.ag [.int .i64 e])) [some (.cells [.str g.1, .int .i64 g.2.1, .int .i64 g.2.2.1])])
def numF (g : prodL [.str, .int .i64, .int .i64]) (K X : Kn) : Prop :=
  Res.go (numR true 0 ((bl g.1).drop g.2.1.toNat)) (fun a => K (.int .i64 (a.1 : Int)) [some (.cells [.str g.1, .int .i64 ((g.1.size : Int) - (a.2.length : Int)), .int .i64 g.2.2.1])]) (fun e => ∀ p : Int, X (.ic 47 (.ag [.int .i64 e])) [some (.cells [.str g.1, .int .i64 p, .int .i64 g.2.2.1])])
def atomPre (g : prodL [.str, .int .i64, .int .i64, .int .i64]) : Prop := atP g.1 g.2.1 ∧ g.2.2.2.1 = 0
def atomF (g : prodL [.str, .int .i64, .int .i64, .int .i64]) (K _ : Kn) : Prop :=
  Res.go (atomR ((bl g.1).drop g.2.1.toNat)) (fun a => K (.tu [.str (⟨a.1.toArray⟩ : ByteArray), .ag [.str g.1, .int .i64 ((g.1.size : Int) - (a.2.length : Int)), .int .i64 g.2.2.1, .int .i64 0]]) []) (fun e => ∀ p : Int, K (.tu [.str (⟨#[]⟩ : ByteArray), .ag [.str g.1, .int .i64 p, .int .i64 g.2.2.1, .int .i64 e]]) [])
def readPre (g : prodL [.str, .int .i64, .int .i64, .int .i64, .int .i64]) : Prop := atP g.1 g.2.1 ∧ inP 0 20000 g.2.2.1 ∧ g.2.2.2.1 = 0 ∧ inP 0 12 g.2.2.2.2.1
def readF (g : prodL [.str, .int .i64, .int .i64, .int .i64, .int .i64]) (K _ : Kn) : Prop :=
  Res.go (rdS g.2.2.2.2.1.toNat (20000 - g.2.2.1).toNat ((bl g.1).drop g.2.1.toNat)) (fun a => K (.tu [.ag [.bool a.1.isList, .str a.1.atom, .sl false .sexp a.1.list], .ag [.str g.1, .int .i64 ((g.1.size : Int) - (a.2.2.length : Int)), .int .i64 (20000 - (a.2.1 : Int)), .int .i64 0]]) [])
    (fun e => ∀ (y : Sx) (p m : Int), K (.tu [.ag [.bool y.isList, .str y.atom, .sl false .sexp y.list], .ag [.str g.1, .int .i64 p, .int .i64 m, .int .i64 e]]) [])
def sexpPre (g : prodL [.int .i64, .str, .int .i64, .int .i64]) : Prop := inP 1 13 g.1 ∧ atP g.2.1 g.2.2.1 ∧ inP 0 20000 g.2.2.2.1
def sexpF (g : prodL [.int .i64, .str, .int .i64, .int .i64]) (K X : Kn) : Prop :=
  Res.go (rdS (13 - g.1).toNat g.2.2.2.1.toNat ((bl g.2.1).drop g.2.2.1.toNat)) (fun a => K (.ag [.bool a.1.isList, .str a.1.atom, .sl false .sexp a.1.list]) [some (.cells [.str g.2.1, .int .i64 ((g.2.1.size : Int) - (a.2.2.length : Int)), .int .i64 (a.2.1 : Int)])])
    (fun e => ∀ (p m : Int), X (.ic 47 (.ag [.int .i64 e])) [some (.cells [.str g.2.1, .int .i64 p, .int .i64 m])])
/-- Digits. -/
def digs (l : List UInt8) : Bool := l.all fun c => decide (48 ≤ c.toNat) && decide (c.toNat ≤ 57)
/-- quiltref01.decimal. -/
def decR : List UInt8 → Bool
  | [] => false
  | c :: r => if c.toNat = 45 ∧ r ≠ [] then !decide (r = [48]) && decR r && !decide (r.head? = some 45) else digs (c :: r) && (decide (r = []) || !decide (c.toNat = 48))
def head48 : List UInt8 → Bool
  | [] => false
  | c :: _ => decide (c.toNat = 48)
/-- csexp.canonical. -/
def canR (l : List UInt8) : Bool :=
  let d := if l.head? = some 45 then l.tail else l
  digs d && !decide (d = []) && (!head48 d || decide (l = [48]))
end Go.Proofs.YtpbkhdeehlikfaaDoor
