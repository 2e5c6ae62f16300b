/-
  A cell of chapter 7 as plain data: versions in the order in which they were written; what each call answers and leaves. No program in sight.
-/
import Derived.Test.YtdgojfjaooindaaPlain
namespace Go.Proofs.Lig

/-- Who wrote it, a value, whether it is gone. -/
structure Ver (α : Type) where
  who : Int
  v : α
  gone : Bool

namespace Cel
variable {α : Type}
/-- The last version that is meant: its value; none: there is none, or it is gone. -/
def lastBy (p : Int → Bool) (l : List (Ver α)) : Option α :=
  match l.reverse.find? fun y => p y.who with
  | some y => if y.gone then none else some y.v
  | none => none
def blocked (c : Clk) (l : List (Ver α)) (t : Int) : Bool := match l.getLast? with | some y => c.clashes t y.who | none => false
def mine (l : List (Ver α)) (t : Int) : Bool := match l.getLast? with | some y => y.who == t | none => false
def written (l : List (Ver α)) (t : Int) (v : α) (gone : Bool) : List (Ver α) := if mine l t then l.dropLast ++ [⟨t, v, gone⟩] else l ++ [⟨t, v, gone⟩]
def undone (l : List (Ver α)) (t : Int) : List (Ver α) := l.filter fun y => !(y.who == t)
/-- Is the version y, of these, spare? As the program tells it. -/
def isSpare (c : Clk) (l : List (Ver α)) (y : Ver α) : Bool :=
  let i := l.findIdx fun z => z.who == y.who
  (l.drop (i + 1)).any (fun z => c.settled z.who) || (i == 0 && (y.gone && c.settled y.who))
def spareAt (c : Clk) (l : List (Ver α)) : Option Nat := l.findIdx? (isSpare c l)
def swept (c : Clk) (l : List (Ver α)) : List (Ver α) := match spareAt c l with | some i => l.eraseIdx i | none => l
end Cel
end Go.Proofs.Lig
