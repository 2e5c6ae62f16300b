/-
  The clock of chapter 6 as plain data: transactions with their mark, the number of their commit and whether they are live; what each call answers and what it leaves. No program in sight.
-/

namespace Go.Proofs.Lig

/-- A transaction: its mark, as which commit it was committed (0: not), whether it is live. -/
structure Tx where
  mark : Nat
  as : Nat
  live : Bool

/-- Transactions, in the order in which they began; how many commits there were. -/
structure Clk where
  l : List Tx
  n : Nat

namespace Clk
def new : Clk := ⟨[], 0⟩
def tx? (c : Clk) (t : Int) : Option Tx := if 1 ≤ t then c.l[(t.toNat - 1)]? else none
def count (c : Clk) : Nat := (c.l.filter (·.live)).length
def full (c : Clk) : Bool := decide (4 ≤ c.count)
def began (c : Clk) : Clk := ⟨c.l ++ [⟨c.n, 0, true⟩], c.n⟩
def live (c : Clk) (t : Int) : Bool := match c.tx? t with | some x => x.live | none => false
def put (c : Clk) (t : Int) (x : Tx) (n : Nat) : Clk := ⟨c.l.set (t.toNat - 1) x, n⟩
def committed (c : Clk) (t : Int) : Clk := match c.tx? t with | some x => c.put t ⟨x.mark, c.n + 1, false⟩ (c.n + 1) | none => c
def dropped (c : Clk) (t : Int) : Clk := match c.tx? t with | some x => c.put t ⟨x.mark, x.as, false⟩ c.n | none => c
def aborted (c : Clk) (t : Int) : Bool := match c.tx? t with | some x => !x.live && x.as == 0 | none => false
def seesTx (x y : Tx) : Bool := decide (0 < y.as) && decide (y.as ≤ x.mark)
def clashTx (x y : Tx) : Bool := y.live || decide (x.mark < y.as)
def sees (c : Clk) (t b : Int) : Bool := match c.tx? t, c.tx? b with | some x, some y => decide (t = b) || seesTx x y | _, _ => false
def clashes (c : Clk) (t b : Int) : Bool := match c.tx? t, c.tx? b with | some x, some y => !decide (t = b) && clashTx x y | _, _ => false
def blocks (y x : Tx) : Bool := x.live && decide (x.mark < y.as)
def settled (c : Clk) (b : Int) : Bool := match c.tx? b with | some y => decide (0 < y.as) && !(c.l.any (blocks y)) | none => false

/-- What every clock that was made by its calls keeps. -/
structure Good (c : Clk) : Prop where
  bare : ∀ x ∈ c.l, x.live = true → x.as = 0
  as_le : ∀ x ∈ c.l, x.as ≤ c.n
  mark_le : ∀ x ∈ c.l, x.mark ≤ c.n

set_option maxRecDepth 100000 in
theorem tx?_none_iff (c : Clk) (t : Int) : c.tx? t = none ↔ t < 1 ∨ (c.l.length : Int) < t := by
  unfold tx?
  split
  · rw [List.getElem?_eq_none_iff]; omega
  · simp; omega
set_option maxRecDepth 100000 in
theorem tx?_le {c : Clk} {t : Int} {x : Tx} (h : c.tx? t = some x) : 1 ≤ t ∧ t ≤ c.l.length := by
  have : ¬ (c.tx? t = none) := by rw [h]; simp
  rw [tx?_none_iff] at this
  omega
set_option maxRecDepth 100000 in
theorem tx?_eq {c : Clk} {t : Int} {x : Tx} (h : c.tx? t = some x) : c.l[(t.toNat - 1)]? = some x := by
  have h1 := (tx?_le h).1
  unfold tx? at h
  rwa [if_pos h1] at h
set_option maxRecDepth 100000 in
theorem tx?_of {c : Clk} {t : Int} {x : Tx} (h1 : 1 ≤ t) (h : c.l[(t.toNat - 1)]? = some x) : c.tx? t = some x := by
  unfold tx?; rwa [if_pos h1]
theorem tx?_mem {c : Clk} {t : Int} {x : Tx} (h : c.tx? t = some x) : x ∈ c.l := List.mem_of_getElem? (tx?_eq h)
set_option maxRecDepth 100000 in
theorem tx?_lt {c : Clk} {t : Int} (h1 : 1 ≤ t) (h2 : t ≤ c.l.length) : ∃ x, c.tx? t = some x := by
  cases h : c.tx? t with
  | none => rw [tx?_none_iff] at h; omega
  | some x => exact ⟨x, rfl⟩

set_option maxRecDepth 100000 in
theorem good_new : Good new := ⟨by simp [new], by simp [new], by simp [new]⟩
theorem Good.began {c : Clk} (h : Good c) : Good c.began := by
  refine ⟨?_, ?_, ?_⟩ <;> simp only [Clk.began, List.mem_append, List.mem_singleton]
  · rintro x (hx | rfl) hl
    · exact h.bare x hx hl
    · rfl
  · rintro x (hx | rfl)
    · exact h.as_le x hx
    · exact Nat.zero_le _
  · rintro x (hx | rfl)
    · exact h.mark_le x hx
    · exact Nat.le_refl _
set_option maxRecDepth 100000 in
theorem mem_put {c : Clk} {t : Int} {x y : Tx} {n : Nat} (h : y ∈ (c.put t x n).l) : y ∈ c.l ∨ y = x := List.mem_or_eq_of_mem_set h
theorem Good.committed {c : Clk} (h : Good c) (t : Int) : Good (c.committed t) := by
  unfold Clk.committed
  split
  · rename_i x hx
    refine ⟨?_, ?_, ?_⟩
    · intro y hy hl
      rcases mem_put hy with hy | rfl
      · exact h.bare y hy hl
      · simp at hl
    · intro y hy
      rcases mem_put hy with hy | rfl
      · exact Nat.le_succ_of_le (h.as_le y hy)
      · exact Nat.le_refl _
    · intro y hy
      rcases mem_put hy with hy | rfl
      · exact Nat.le_succ_of_le (h.mark_le y hy)
      · exact Nat.le_succ_of_le (h.mark_le x (tx?_mem hx))
  · exact h
set_option maxRecDepth 100000 in
theorem Good.dropped {c : Clk} (h : Good c) (t : Int) : Good (c.dropped t) := by
  unfold Clk.dropped
  split
  · rename_i x hx
    refine ⟨?_, ?_, ?_⟩
    · intro y hy hl
      rcases mem_put hy with hy | rfl
      · exact h.bare y hy hl
      · simp at hl
    · intro y hy
      rcases mem_put hy with hy | rfl
      · exact h.as_le y hy
      · exact h.as_le x (tx?_mem hx)
    · intro y hy
      rcases mem_put hy with hy | rfl
      · exact h.mark_le y hy
      · exact h.mark_le x (tx?_mem hx)
  · exact h

set_option maxRecDepth 100000 in
theorem length_began (c : Clk) : c.began.l.length = c.l.length + 1 := by simp [began]
theorem length_committed (c : Clk) (t : Int) : (c.committed t).l.length = c.l.length := by unfold committed put; split <;> simp
theorem length_dropped (c : Clk) (t : Int) : (c.dropped t).l.length = c.l.length := by unfold dropped put; split <;> simp
set_option maxRecDepth 100000 in
theorem n_committed (c : Clk) (t : Int) : (c.committed t).n ≤ c.n + 1 := by unfold committed put; split <;> simp
theorem n_dropped (c : Clk) (t : Int) : (c.dropped t).n = c.n := by unfold dropped put; split <;> simp

set_option maxRecDepth 100000 in
theorem count_take (l : List Tx) (k : Nat) (x : Tx) (h : l[k]? = some x) : ((l.take (k + 1)).filter (·.live)).length = ((l.take k).filter (·.live)).length + (if x.live then 1 else 0) := by
  obtain ⟨hk, hx⟩ := List.getElem?_eq_some_iff.1 h
  rw [List.take_succ_eq_append_getElem hk, List.filter_append, List.length_append, hx]
  cases h' : x.live <;> simp [List.filter, h']
set_option maxRecDepth 100000 in
theorem any_take (l : List Tx) (k : Nat) (x y : Tx) (h : l[k]? = some x) : (l.take (k + 1)).any (blocks y) = ((l.take k).any (blocks y) || blocks y x) := by
  obtain ⟨hk, hx⟩ := List.getElem?_eq_some_iff.1 h
  rw [List.take_succ_eq_append_getElem hk, List.any_append, hx]
  simp
end Clk
end Go.Proofs.Lig

/-
  A cell of chapter 7 as plain data: versions in the order in which they were written; what each call answers and leaves. No program in sight.
-/
namespace Go.Proofs.Lig

/-- Who wrote it, a value, whether it is gone. -/
structure Ver (α : Type) where
  who : Int
  v : α
  gone : Bool

namespace Cel
variable {α : Type}
/-- The last version that is meant: its value; none: there is none, or it is gone. -/
def lastBy (p : Int → Bool) (l : List (Ver α)) : Option α :=
  match l.reverse.find? fun y => p y.who with
  | some y => if y.gone then none else some y.v
  | none => none
def blocked (c : Clk) (l : List (Ver α)) (t : Int) : Bool := match l.getLast? with | some y => c.clashes t y.who | none => false
def mine (l : List (Ver α)) (t : Int) : Bool := match l.getLast? with | some y => y.who == t | none => false
def written (l : List (Ver α)) (t : Int) (v : α) (gone : Bool) : List (Ver α) := if mine l t then l.dropLast ++ [⟨t, v, gone⟩] else l ++ [⟨t, v, gone⟩]
def undone (l : List (Ver α)) (t : Int) : List (Ver α) := l.filter fun y => !(y.who == t)
/-- Is the version y, of these, spare? As the program tells it. -/
def isSpare (c : Clk) (l : List (Ver α)) (y : Ver α) : Bool :=
  let i := l.findIdx fun z => z.who == y.who
  (l.drop (i + 1)).any (fun z => c.settled z.who) || (i == 0 && (y.gone && c.settled y.who))
def spareAt (c : Clk) (l : List (Ver α)) : Option Nat := l.findIdx? (isSpare c l)
def swept (c : Clk) (l : List (Ver α)) : List (Ver α) := match spareAt c l with | some i => l.eraseIdx i | none => l
end Cel
end Go.Proofs.Lig
