/-
  What the law CellSweeps lays down ahead of its sweeps: what each live one reads and what its write would answer; what stays of it over sweeps.
-/
import Derived.Test.YtdgojfjaooindaaRclH
namespace Go.Proofs.Ytdgojfjaooindaa
open Go.RowKit Go.Proofs.Lig

def rdV (c : Clk) (l : List (Ver Int)) (s : Int) : Int := if c.live s then (Cel.lastBy (c.sees s) l).getD 0 else 0
def rdB (c : Clk) (l : List (Ver Int)) (s : Int) : Bool := if c.live s then (Cel.lastBy (c.sees s) l).isSome else false
def rdE (c : Clk) (l : List (Ver Int)) (s : Int) : Int := if c.live s then (if Cel.blocked c l s then 6 else 0) else 0
def rowV (c : Clk) (l : List (Ver Int)) (t : Nat) : List Value := (List.range t).map fun q : Nat => .int .i64 (rdV c l ((q : Int) + 1))
def rowB (c : Clk) (l : List (Ver Int)) (t : Nat) : List Value := (List.range t).map fun q : Nat => .bool (rdB c l ((q : Int) + 1))
def rowE (c : Clk) (l : List (Ver Int)) (t : Nat) : List Value := (List.range t).map fun q : Nat => .int .i64 (rdE c l ((q : Int) + 1))
theorem rowV_succ {c : Clk} {l : List (Ver Int)} {t : Nat} {a : Int} (h : rdV c l ((t : Int) + 1) = a) : rowV c l t ++ [.int .i64 a] = rowV c l (t + 1) := by simp [rowV, List.range_succ, h]
theorem rowB_succ {c : Clk} {l : List (Ver Int)} {t : Nat} {a : Bool} (h : rdB c l ((t : Int) + 1) = a) : rowB c l t ++ [.bool a] = rowB c l (t + 1) := by simp [rowB, List.range_succ, h]
theorem rowE_succ {c : Clk} {l : List (Ver Int)} {t : Nat} {a : Int} (h : rdE c l ((t : Int) + 1) = a) : rowE c l t ++ [.int .i64 a] = rowE c l (t + 1) := by simp [rowE, List.range_succ, h]

theorem row_keep {base : Nat} {e : TypeId} {wr w1 : World} {o : Obj} {sv : Value} {t : Nat} {xs : List Value} (hr : wr.ownsRow base e 1 sv t xs) (hb : base ≤ wr.heap.size) (hg : (wr.alloc o).grownBy w1 sv.ownBlock) : TFr [e] wr w1 ∧ Below base wr w1 := by
  refine ⟨(TFr.of_below ((Below.refl _ _).alloc (Nat.le_refl _) o)).trans (.of_grown (hr.alloc o) hg), ?_⟩
  refine (((Fr.refl sv.ownBlock.toList wr).alloc o).grown hg (fun k hk => .inl (by simp [hk]))).below hb (fun k hk => ?_)
  have hk : sv.ownBlock = some k := by simpa using hk
  exact (hr.lt k hk).1

/-- The world and the three rows: t entries each. -/
structure SwRel (w wr : World) (Z B X D Y : Nat) (L : Nat) (c : Clk) (l0 l' : List (Ver Int)) (sv so se : Value) (t : Nat) : Prop where
  zw : ZW w.heap.size w wr Z B X D Y (L : Int) c l' c l0
  v : wr.ownsRow w.heap.size 3 1 sv t (rowV c l0 t)
  o : wr.ownsRow w.heap.size 4 1 so t (rowB c l0 t)
  e : wr.ownsRow w.heap.size 25 1 se t (rowE c l0 t)
section
variable {w wr w' : World} {Z B X D Y L : Nat} {c : Clk} {l0 l' l'' : List (Ver Int)} {sv so se : Value} {t : Nat}
theorem SwRel.turn (h : SwRel w wr Z B X D Y L c l0 l' sv so se t) (hz : ZW w.heap.size w w' Z B X D Y (L : Int) c l'' c l0) (hf : TFr zT wr w') : SwRel w w' Z B X D Y L c l0 l'' sv so se t :=
  ⟨hz, own_tfr h.v hf (by decide), own_tfr h.o hf (by decide), own_tfr h.e hf (by decide)⟩
theorem SwRel.drewN (h : SwRel w wr Z B X D Y L c l0 l' sv so se t) (n : Nat) : SwRel w (wr.drewN n) Z B X D Y L c l0 l' sv so se t := ⟨h.zw.drewN n, h.v, h.o, h.e⟩
end
theorem ZW.keepTo {N : Nat} {w0 w w' : World} {Z B X D Y : Nat} {n : Int} {c d : Clk} {l m : List (Ver Int)} {ts : List TypeId} (h : ZW N w0 w Z B X D Y n c l d m) (hf : TFr ts w w') (hb : Below N w w') (hz : 68 ∉ ts) (hp : ∀ t ∈ pT, t ∉ ts) (hr : ∀ t ∈ Rcl.rT, t ∉ ts) : ZW N w0 w' Z B X D Y n c l d m :=
  have hb' : Below N w0 w' := h.below.trans hb
  ⟨h.zN, h.blk.tfr hf hz, h.prog.keep hf hb' hp, h.ref.keep hf hb' hr⟩

/-- A list out of sweeps: shorter by k, read alike by whoever is live. -/
structure Swept (c : Clk) (l0 l' : List (Ver Int)) (k : Nat) : Prop where
  inv : Inv c l'
  len : l'.length + k = l0.length
  read : ∀ s, c.live s = true → Cel.lastBy (c.sees s) l' = Cel.lastBy (c.sees s) l0
  block : ∀ s, c.live s = true → Cel.blocked c l' s = Cel.blocked c l0 s
theorem swept0 {c : Clk} {l : List (Ver Int)} (h : Inv c l) : Swept c l l 0 := ⟨h, rfl, fun _ _ => rfl, fun _ _ => rfl⟩
theorem Swept.step {c : Clk} {l0 l' : List (Ver Int)} {k : Nat} (h : Swept c l0 l' k) (hg : c.Good) {i : Nat} (hi : place (Cel.isSpare c l') l' = (i : Int)) : Swept c l0 (Cel.swept c l') (k + 1) := by
  obtain ⟨hlt, hsw⟩ := swept_erase hi
  refine ⟨h.inv.sub (swept_sub _ _), ?_, fun s hs => ?_, fun s hs => ?_⟩
  · have := h.len
    rw [hsw, List.length_eraseIdx, if_pos hlt]
    omega
  · exact (h.inv.sweep_keeps hg hi hs).1.trans (h.read s hs)
  · exact (h.inv.sweep_keeps hg hi hs).2.trans (h.block s hs)
theorem info_int7 : (Try.prog.info? 3).map (fun i => (i.zero, i.size, i.bytes)) = some (some (.int .i64 0), 1, 8) := by kernel_rfl
theorem info_bool7 : (Try.prog.info? 4).map (fun i => (i.zero, i.size, i.bytes)) = some (some (.bool false), 1, 1) := by kernel_rfl
theorem info_errno7 : (Try.prog.info? 25).map (fun i => (i.zero, i.size, i.bytes)) = some (some (.int .i64 0), 1, 8) := by kernel_rfl
theorem rowV_cell {w : World} {base g L cap q : Nat} {c : Clk} {l : List (Ver Int)} (h : w.ownsRow base 3 1 (.slice (some ⟨g, 0, none⟩) L cap) L (rowV c l L)) (hq : q < L) : w.cell? ⟨g, q, none⟩ = some (.int .i64 (rdV c l ((q : Int) + 1))) := by
  rw [h.cellAt q (by omega)]
  simp [rowV, hq]
theorem rowB_cell {w : World} {base g L cap q : Nat} {c : Clk} {l : List (Ver Int)} (h : w.ownsRow base 4 1 (.slice (some ⟨g, 0, none⟩) L cap) L (rowB c l L)) (hq : q < L) : w.cell? ⟨g, q, none⟩ = some (.bool (rdB c l ((q : Int) + 1))) := by
  rw [h.cellAt q (by omega)]
  simp [rowB, hq]
theorem rowE_cell {w : World} {base g L cap q : Nat} {c : Clk} {l : List (Ver Int)} (h : w.ownsRow base 25 1 (.slice (some ⟨g, 0, none⟩) L cap) L (rowE c l L)) (hq : q < L) : w.cell? ⟨g, q, none⟩ = some (.int .i64 (rdE c l ((q : Int) + 1))) := by
  rw [h.cellAt q (by omega)]
  simp [rowE, hq]
end Go.Proofs.Ytdgojfjaooindaa
