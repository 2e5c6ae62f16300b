/-
  What the laws ClockFull and ClockAborts do to the clock, as plain data; their facts by reckoning over all arguments that the laws take. No program in sight.
-/
import Derived.Test.YtdgojfjaooindaaPlain
namespace Go.Proofs.Lig
namespace Full
/-- A clock in which j were asked to begin. -/
def clk : Nat → Clk
  | 0 => Clk.new
  | j + 1 => if (clk j).count < 4 then (clk j).began else clk j
theorem good : ∀ j, (clk j).Good
  | 0 => Clk.good_new
  | j + 1 => by unfold clk; split; exact (good j).began; exact good j
def ended (commit : Bool) (n : Nat) : Clk := if commit then (clk n).committed 1 else (clk n).dropped 1
theorem good_ended (commit : Bool) (n : Nat) : (ended commit n).Good := by unfold ended; split; exact (good n).committed 1; exact (good n).dropped 1
theorem step_all : ∀ j < 10, ((j < 4 → (clk j).count < 4 ∧ (clk j).l.length = j) ∧ (4 ≤ j → 4 ≤ (clk j).count)) := by decide
theorem end_all : ∀ n < 11, 1 ≤ n → (clk n).live 1 = true ∧ (clk n).n = 0 ∧ (clk n).l.length ≤ 4 ∧ (ended true n).count < 4 ∧ (ended false n).count < 4 ∧ (ended true n).l.length = min n 4 ∧ (ended false n).l.length = min n 4 ∧
    (ended true n).began.live 1 = false ∧ (ended false n).began.live 1 = false ∧ (ended true n).began.count = min n 4 ∧ (ended false n).began.count = min n 4 := by decide
end Full
end Go.Proofs.Lig
