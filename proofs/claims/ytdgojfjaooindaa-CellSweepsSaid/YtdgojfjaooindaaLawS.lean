/-
  Arguments that are slices of structs of one-cell fields: what a law's walk reads of them.
-/
import Derived.Test.YtdgojfjaooindaaLaw
import Derived.Deep.Slices
import Derived.Deep.Fields
namespace Go.Proofs.Ytdgojfjaooindaa
open Go.ChangeShapes Go.WideShapes Go.ChangeAt Go.RowKit Go.Deep

theorem spot_none {w : World} {a : Addr} {v : Value} (h : w.cell? a = some v) : a.spot = none := by
  unfold World.cell? at h
  split at h
  · cases hs : a.spot with
    | none => rfl
    | some s => rw [hs] at h; simp at h
  · cases h

theorem open_rows {H : Type} {enc : TypeId × Value → H} {P : Program} {w : World} {base : Nat} {spare : Nat → Bool} {held : Bool} {t e : TypeId} {fs : Array Field} {fuel : Nat} {v : Value} {x : DataW H × List MemPlace}
    (ht : P.underlying t = some (.slice e)) (he : P.underlying e = some (.struct fs)) (hone : oneCellFields P fs = true) (hC : P.cellsOf e = fs.size) (h0 : 0 < fs.size)
    (h : DataW.trod enc P w base spare held fuel t [v] = some x) :
    v = .slice none 0 0 ∨ ∃ (a : Addr) (len cap : Nat), v = .slice (some a) len cap ∧ len ≤ maxLen ∧ (0 < len → a.block < w.heap.size ∧ a.spot = none) ∧
      ∀ i, i < len → ∀ (j : Nat) (f : Field), fs[j]? = some f → ∃ (u : Value) (y : DataW H × List MemPlace) (n : Nat), w.cell? ⟨a.block, a.off + i * fs.size + j, none⟩ = some u ∧ DataW.trod enc P w base spare held n f.type [u] = some y := by
  rcases open_slice ht h with ⟨hc, _⟩ | ⟨a, len, cap, m, n, D, Pl, hc, hb, hl, hm, hmm, _, hi⟩
  · simp only [List.cons.injEq, and_true] at hc
    exact .inl hc
  · simp only [List.cons.injEq, and_true] at hc
    have hcells : ∀ i, i < len → ∀ (j : Nat) (f : Field), fs[j]? = some f → ∃ (u : Value) (y : DataW H × List MemPlace) (n : Nat), w.cell? (a.add (i * fs.size + j)) = some u ∧ DataW.trod enc P w base spare held n f.type [u] = some y := by
      intro i hil j f hj
      have him : i < m := by rw [hmm]; split <;> omega
      obtain ⟨cs', h1, h2⟩ := hi i him
      rw [hC] at h1
      obtain ⟨_, hcl, hat⟩ := World.cells?_some h1
      obtain ⟨ys, n', _, _, _, hyl, hf⟩ := DataW.trod_struct he h2
      have hjl : j < fs.size := (Array.getElem?_eq_some_iff.1 hj).1
      obtain ⟨ho, hk⟩ := hone_of hone j f hj
      have h3 := hf j f hj
      rw [ho, hk] at h3
      have hd : (cs'.drop j).take 1 = [cs'[j]'(by omega)] := by
        rw [List.drop_eq_getElem_cons (by omega)]
        rfl
      rw [hd, List.getElem?_eq_getElem (by omega)] at h3
      refine ⟨cs'[j]'(by omega), _, n', ?_, h3⟩
      rw [← add_add, hat j hjl, List.getElem?_eq_getElem]
    have hsp : 0 < len → a.block < w.heap.size ∧ a.spot = none := by
      intro hl0
      obtain ⟨f, hf⟩ : ∃ f, fs[0]? = some f := ⟨_, Array.getElem?_eq_getElem h0⟩
      obtain ⟨u, _, _, hu, _⟩ := hcells 0 hl0 0 f hf
      simp only [Nat.zero_mul, Nat.add_zero] at hu
      have e0 : a.add 0 = a := by simp [Addr.add]
      rw [e0] at hu
      exact ⟨World.block_lt_of_cell? w a hu, spot_none hu⟩
    refine .inr ⟨a, len, cap, hc, Nat.le_trans hl hm, hsp, fun i hil j f hj => ?_⟩
    obtain ⟨u, y, n', hu, hy⟩ := hcells i hil j f hj
    refine ⟨u, y, n', ?_, hy⟩
    rw [← hu]
    congr 1
    unfold Addr.add
    have hs := (hsp (by omega)).2
    split
    · rename_i hz
      have e1 : a.off + i * fs.size + j = a.off := by omega
      rw [e1]
      cases a
      simp_all
    · simp
end Go.Proofs.Ytdgojfjaooindaa
