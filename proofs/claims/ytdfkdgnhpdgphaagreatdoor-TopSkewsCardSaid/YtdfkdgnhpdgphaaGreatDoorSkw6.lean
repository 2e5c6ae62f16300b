/-
  The clock in memory, and contracts of package clock's functions: what each returns and what becomes of the clock.
-/
import Derived.Test.YtdfkdgnhpdgphaaGreatDoorProg
import Derived.Test.YtdfkdgnhpdgphaaGreatDoorSkw5
import Derived.Test.YtdfkdgnhpdgphaaGreatDoorSkw0
import Derived.WalkLawsBesides
import Derived.WalkSpells
import Derived.Handy
namespace Go.Proofs.YtdfkdgnhpdgphaaGreatDoor
open Go.RowKit Go.Proofs.Lig

def stateOf (x : Tx) : Int := if x.live then 0 else if x.as = 0 then 2 else 1
def encTx (x : Tx) : List Value := [.int .i64 (stateOf x), .int .i64 (x.mark : Int), .int .i64 (x.as : Int)]
def encTxs (l : List Tx) : List Value := l.flatMap encTx

/-- The clock c lies in block B; its transactions lie in the row of the value sv. -/
structure ClkA (w : World) (B : Nat) (A : Option Addr) (cap : Nat) (c : Clk) : Prop where
  blk : Blk w B 235 [.slice A c.l.length cap, .int .i64 (c.n : Int)]
  own : w.ownsRow 0 237 3 (.slice A c.l.length cap) c.l.length (encTxs c.l)

set_option maxRecDepth 100000 in
theorem ClkA.row {w : World} {B : Nat} {A : Option Addr} {cap : Nat} {c : Clk} (h : ClkA w B A cap c) (hn : 0 < c.l.length) : ∃ g, A = some ⟨g, 0, none⟩ ∧ g < w.heap.size ∧ c.l.length ≤ cap ∧ cap ≤ maxLen ∧
    ∃ cur, w.heap[g]? = some (.cells cur 237 (0, 0)) ∧ cur.size = cap * 3 ∧ cur.toList.take (c.l.length * 3) = encTxs c.l := by
  rcases h.own.2 with ⟨_, h0⟩ | ⟨g, cap', cur, hv, _, hh, h1, h2, h3, h4⟩
  · omega
  · injection hv with e1 e2 e3
    subst e1 e3
    refine ⟨g, rfl, ?_, h1, h2, cur, hh, h3, h4⟩
    exact (Array.getElem?_eq_some_iff.1 hh).1

set_option maxRecDepth 100000 in
theorem ClkA.rowg {w : World} {B g : Nat} {cap : Nat} {c : Clk} (h : ClkA w B (some ⟨g, 0, none⟩) cap c) (hn : 0 < c.l.length) : ∃ cur, w.heap[g]? = some (.cells cur 237 (0, 0)) := by
  obtain ⟨g', e, _, _, _, cur, hh, _⟩ := h.row hn
  injection e with e
  injection e with e
  subst e
  exact ⟨cur, hh⟩

set_option maxRecDepth 100000 in
theorem encTxs_get (l : List Tx) (i : Nat) (x : Tx) (h : l[i]? = some x) : (encTxs l)[i * 3]? = some (.int .i64 (stateOf x)) ∧ (encTxs l)[i * 3 + 1]? = some (.int .i64 (x.mark : Int)) ∧ (encTxs l)[i * 3 + 2]? = some (.int .i64 (x.as : Int)) := by
  induction l generalizing i with
  | nil => simp at h
  | cons y l ih =>
    cases i with
    | zero => simp at h; subst h; exact ⟨rfl, rfl, rfl⟩
    | succ i =>
      have := ih i (by simpa using h)
      have e : ∀ j, (encTxs (y :: l))[(i + 1) * 3 + j]? = (encTxs l)[i * 3 + j]? := fun j => by
        show (encTx y ++ encTxs l)[_]? = _
        rw [List.getElem?_append_right (by simp [encTx]; omega)]
        congr 1
        simp [encTx]; omega
      exact ⟨(e 0).trans this.1, (e 1).trans this.2.1, (e 2).trans this.2.2⟩

set_option maxRecDepth 100000 in
theorem ClkA.tx {w : World} {B g : Nat} {cap : Nat} {c : Clk} (h : ClkA w B (some ⟨g, 0, none⟩) cap c) {i : Nat} {x : Tx} (hx : c.l[i]? = some x) :
    w.cell? ⟨g, i * 3, none⟩ = some (.int .i64 (stateOf x)) ∧ w.cell? ⟨g, i * 3 + 1, none⟩ = some (.int .i64 (x.mark : Int)) ∧ w.cell? ⟨g, i * 3 + 2, none⟩ = some (.int .i64 (x.as : Int)) := by
  have hi := (List.getElem?_eq_some_iff.1 hx).1
  obtain ⟨g', e, hlt, h1, h2, cur, hh, h3, h4⟩ := h.row (by omega)
  injection e with e
  injection e with e
  subst e
  have key : ∀ j v, j < c.l.length * 3 → (encTxs c.l)[j]? = some v → w.cell? ⟨g, j, none⟩ = some v := fun j v hj hv => by
    rw [← h4, List.getElem?_take_of_lt hj] at hv
    simp only [World.cell?, hh]
    simpa using hv
  obtain ⟨a, b, d⟩ := encTxs_get c.l i x hx
  exact ⟨key _ _ (by omega) a, key _ _ (by omega) b, key _ _ (by omega) d⟩

set_option maxRecDepth 100000 in
theorem ClkA.drewN {w : World} {B : Nat} {A : Option Addr} {cap : Nat} {c : Clk} (h : ClkA w B A cap c) (n : Nat) : ClkA (w.drewN n) B A cap c := ⟨h.blk, h.own⟩
theorem ClkA.len {w : World} {B : Nat} {A : Option Addr} {cap : Nat} {c : Clk} (h : ClkA w B A cap c) : (c.l.length : Int) ≤ 9223372036854775807 := by
  by_cases h0 : 0 < c.l.length
  · obtain ⟨g, _, _, h1, h2, _⟩ := h.row h0
    unfold maxLen at h2
    omega
  · omega
set_option maxRecDepth 100000 in
/-- A transaction that is there lies in a row that is there. -/
theorem ClkA.some {w : World} {B : Nat} {A : Option Addr} {cap : Nat} {c : Clk} (h : ClkA w B A cap c) {t : Int} {x : Tx} (hx : c.tx? t = some x) : ∃ g, A = some ⟨g, 0, none⟩ := by
  obtain ⟨h1, h2⟩ := Clk.tx?_le hx
  obtain ⟨g, e, _⟩ := h.row (by omega)
  exact ⟨g, e⟩

set_option maxRecDepth 100000 in
theorem at_some (w : World) (B g cap : Nat) (c : Clk) (t : Int) (x : Tx) (h : ClkA w B (some ⟨g, 0, none⟩) cap c) (hx : c.tx? t = some x) :
    Calls Tryz.prog 159 #[.pointer (some ⟨B, 0, none⟩), .int .i64 t] w fun e w' => e = .returned (.pointer (some ⟨g, (t.toNat - 1) * 3, none⟩)) ∧ w = w' := by
  obtain ⟨h1, h2⟩ := Clk.tx?_le hx
  have h3 := h.len
  have hc := h.blk.cell 0
  simp only [List.getElem?_cons_zero] at hc
  clear hx
  go_enter Tryz.func159, Tryz.ntmps159
  go_wp2
  go_ret
  exact ⟨rfl, rfl⟩

set_option maxRecDepth 100000 in
theorem at_none (w : World) (B : Nat) (A : Option Addr) (cap : Nat) (c : Clk) (t : Int) (h : ClkA w B A cap c) (hx : c.tx? t = none) :
    Calls Tryz.prog 159 #[.pointer (some ⟨B, 0, none⟩), .int .i64 t] w fun e w' => e = .returned (.pointer none) ∧ w = w' := by
  rw [Clk.tx?_none_iff] at hx
  have h3 := h.len
  have hc := h.blk.cell 0
  simp only [List.getElem?_cons_zero] at hc
  rcases hx with hx | hx
  all_goals
    go_enter Tryz.func159, Tryz.ntmps159
    go_wp2
    go_ret
    exact ⟨rfl, rfl⟩

set_option maxRecDepth 100000 in
theorem new_any (w : World) : Calls Tryz.prog 70 #[] w fun e w' => e = .returned (.pointer (some ⟨w.heap.size, 0, none⟩)) ∧ ClkA w' w.heap.size none 0 Clk.new ∧ w' = w.alloc (.cells #[.slice none 0 0, .int .i64 0] 235) := by
  go_enter Tryz.func70, Tryz.ntmps70
  go_wp2
  go_ret
  exact ⟨rfl, ⟨Blk.new w _ [.slice none 0 0, .int .i64 0], World.ownsRow_nil _ _ _ _⟩, rfl⟩
end Go.Proofs.YtdfkdgnhpdgphaaGreatDoor
