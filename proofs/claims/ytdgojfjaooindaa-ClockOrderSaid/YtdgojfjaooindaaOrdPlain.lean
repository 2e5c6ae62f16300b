/-
  What the law ClockOrder's run does to the clock, as plain data; its facts by reckoning over all n up to 20. No program in sight.
-/
import Derived.Test.YtdgojfjaooindaaPlain
namespace Go.Proofs.Lig
namespace Ord
/-- The number of the j-th transaction that commits, where another one begins ahead of the k-th. -/
def tn (k j : Nat) : Nat := if j < k then j + 1 else j + 2
/-- The clock of round i, behind the one that begins ahead of it if its time has come. -/
def mid (k i : Nat) (c : Clk) : Clk := if i = k then c.began else c
/-- The clock behind i rounds. -/
def clk (k : Nat) : Nat → Clk
  | 0 => Clk.new
  | i + 1 => (mid k i (clk k i)).began.committed (tn k i)
/-- r behind i rounds. -/
def rr (k i : Nat) : Nat := if k < i then k + 1 else 0
def stepOk (k i : Nat) : Bool :=
  (decide (i ≠ k) || (decide ((clk k i).count < 4) && decide ((clk k i).l.length = k))) && decide ((mid k i (clk k i)).count < 4) && decide ((mid k i (clk k i)).l.length + 1 = tn k i) &&
  (mid k i (clk k i)).began.live (tn k i) && decide ((mid k i (clk k i)).n ≤ 100)
def endOk (k n i : Nat) : Bool :=
  decide ((mid k n (clk k n)).sees (k + 1) (tn k i) = decide (i < k)) && decide ((mid k n (clk k n)).settled (tn k i) = decide (i < k)) && decide ((mid k n (clk k n)).clashes (k + 1) (tn k i) = decide (k ≤ i))
def lastOk (k n : Nat) : Bool :=
  (decide (n ≠ k) || (decide ((clk k n).count < 4) && decide ((clk k n).l.length = k))) && (mid k n (clk k n)).live (k + 1)
set_option maxRecDepth 100000 in
theorem step_all : ∀ k < 21, ∀ i < 20, stepOk k i = true := by decide +kernel
set_option maxRecDepth 100000 in
theorem end_all : ∀ n < 21, ∀ k < n + 1, ∀ i < n, endOk k n i = true := by decide +kernel
set_option maxRecDepth 100000 in
theorem last_all : ∀ n < 21, ∀ k < n + 1, lastOk k n = true := by decide +kernel
theorem good_mid {k i : Nat} {c : Clk} (h : c.Good) : (mid k i c).Good := by unfold mid; split; exact h.began; exact h
theorem good (k : Nat) : ∀ i, (clk k i).Good
  | 0 => Clk.good_new
  | i + 1 => ((good_mid (good k i)).began).committed _
theorem len_mid (k i : Nat) (c : Clk) : (mid k i c).l.length ≤ c.l.length + 1 := by unfold mid; split <;> simp [Clk.began]
theorem len (k : Nat) : ∀ i, (clk k i).l.length ≤ 2 * i
  | 0 => by simp [clk, Clk.new]
  | i + 1 => by
    have h1 := len k i
    have h2 := len_mid k i (clk k i)
    simp only [clk, Clk.length_committed, Clk.length_began]
    omega
end Ord
end Go.Proofs.Lig
