/-
  What the law ClockAborts does to the clock, as plain data; its facts by reckoning over all arguments that it takes. No program in sight.
-/
import Derived.Test.YtdgojfjaooindaaPlain
namespace Go.Proofs.Lig
namespace Ab
/-- j more that begin. -/
def more (c : Clk) : Nat → Clk
  | 0 => c
  | j + 1 => (more c j).began
theorem good_more {c : Clk} (h : c.Good) : ∀ j, (more c j).Good
  | 0 => h
  | j + 1 => (good_more h j).began
/-- b begin, one more begins and is aborted. -/
def mid (b : Nat) : Clk := (more Clk.new (b + 1)).dropped ((b : Int) + 1)
theorem good_mid (b : Nat) : (mid b).Good := (good_more Clk.good_new _).dropped _
/-- .. and m more begin. -/
def fin (b m : Nat) : Clk := more (mid b) m
theorem good_fin (b m : Nat) : (fin b m).Good := good_more (good_mid b) m
theorem first_all : ∀ j < 3, (more Clk.new j).count < 4 ∧ (more Clk.new j).l.length = j ∧ (more Clk.new (j + 1)).live ((j : Int) + 1) = true := by decide
theorem next_all : ∀ b < 3, ∀ m < 4, m + b < 4 → (fin b m).count < 4 ∧ (fin b m).l.length = b + 1 + m := by decide
theorem see_all : ∀ b < 3, ∀ m < 5, ∀ k < 7, k ≠ b → (fin b m).sees ((k : Int) + 1) ((b : Int) + 1) = false ∧ (fin b m).clashes ((k : Int) + 1) ((b : Int) + 1) = false := by decide +kernel
theorem last_all : ∀ b < 3, ∀ m < 5, (fin b m).aborted ((b : Int) + 1) = true ∧ (fin b m).live ((b : Int) + 1) = false ∧ (fin b m).settled ((b : Int) + 1) = false := by decide
end Ab
end Go.Proofs.Lig
