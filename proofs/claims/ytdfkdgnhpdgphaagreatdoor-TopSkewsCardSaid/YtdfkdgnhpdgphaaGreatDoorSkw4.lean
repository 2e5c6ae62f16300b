/-
  Results that lie in a cell of a struct's size; loads and stores of such at a step of a drawn region. No program in sight.
-/
import Derived.Test.YtdfkdgnhpdgphaaGreatDoorSkw0
import Derived.Laws.ResultCell
import Derived.Deep.MidRow
import Derived.Laws.CopyOwn
namespace Go.Proofs.Lig
open Go Go.RowKit

set_option maxRecDepth 100000 in
theorem run_store_float {P : Program} {w : World} (a : Addr) (m : Mode) (k : FloatKind) (b : Nat) : (store a (.float k b) m).run P w = stored P w a (.float k b) m := run_store P w a _ m rfl
theorem Blk.range {w : World} {g : Nat} {t : TypeId} {cs : List Value} (h : Blk w g t cs) : w.rangeAt g 0 cs := fun j v hv => by
  rw [Nat.zero_add]
  exact (h.cell j).trans hv
set_option maxRecDepth 100000 in
theorem Blk.rangeMid {w : World} {g : Nat} {t : TypeId} {cs : List Value} (h : Blk w g t cs) (o n : Nat) : w.rangeAt g o ((cs.drop o).take n) := fun j v hv => by
  have hj : j < n := by
    have := (List.getElem?_eq_some_iff.1 hv).1
    simp at this
    omega
  rw [List.getElem?_take_of_lt hj, List.getElem?_drop] at hv
  exact (h.cell (o + j)).trans hv
set_option maxRecDepth 100000 in
theorem Blk.there {w : World} {g : Nat} {t : TypeId} {cs : List Value} (h : Blk w g t cs) (o n : Nat) (hn : o + n ≤ cs.length) : w.there g o n := fun j hj => by
  refine ⟨?_, h.frozen _⟩
  rw [h.cell, List.getElem?_eq_getElem (by omega)]
  rfl
set_option maxRecDepth 100000 in
theorem res_cell {P : Program} {fn : Func} {p u : Tmp} {ty : TypeId} (h : fn.results = #[.cell p ty, .tmp u]) (tmps : Array Value) (w : World) (g : Nat) (t : TypeId) (vs : List Value) (d : TypeDesc) (hb : Blk w g t vs) (hp : tmps.getD p undef = .pointer (some ⟨g, 0, none⟩))
    (hu : P.underlying ty = some d) (hd : d.isRow = true) (hi : (P.info? ty).map (·.size) = some vs.length) :
    (results fn tmps).run P w = .ok (.tuple #[.agg vs.toArray, tmps.getD u undef]) w := by
  rw [results_cell_tmp h, hp]
  simp only [asAddr, Sem.run_pure, Result.andThen_ok, run_loadVar_mid w g 0 ty vs d hb.range hu hd hi]

set_option maxRecDepth 100000 in
theorem Blk.setCells {g : Nat} {t : TypeId} : ∀ (vs : List Value) (o : Nat) {w : World} {cs : List Value}, Blk w g t cs → o + vs.length ≤ cs.length → Blk (w.setCells g o vs) g t (cs.take o ++ vs ++ cs.drop (o + vs.length))
  | [], o, w, cs, h, _ => by
    show Blk w g t _
    simpa using h
  | v :: r, o, w, cs, h, hl => by
    simp only [List.length_cons] at hl
    have := Blk.setCells r (o + 1) (h.set_ o v) (by rw [List.length_set]; omega)
    show Blk ((w.setCell ⟨g, o, none⟩ v).setCells g (o + 1) r) g t _
    have e : (cs.set o v).take (o + 1) ++ r ++ (cs.set o v).drop (o + 1 + r.length) = cs.take o ++ (v :: r) ++ cs.drop (o + (r.length + 1)) := by
      rw [List.drop_set_of_lt (by omega), List.take_succ_eq_append_getElem (by rw [List.length_set]; omega), List.take_set_of_le (Nat.le_refl _), List.getElem_set_self]
      simp [Nat.add_assoc, Nat.add_comm 1]
    rw [e] at this
    exact this
set_option maxRecDepth 100000 in
theorem Fr.setCells {S : List Nat} {w0 : World} {g : Nat} (hg : g ∈ S ∨ w0.heap.size ≤ g) : ∀ (vs : List Value) (o : Nat) {w : World}, Fr S w0 w → Fr S w0 (w.setCells g o vs)
  | [], _, _, h => h
  | v :: r, o, _, h => Fr.setCells hg r (o + 1) (h.setCell (p := ⟨g, o, none⟩) hg v)
set_option maxRecDepth 100000 in
/-- 'copy' into a block that is known whole, as an equation: it goes into the walk as a hypothesis. -/
theorem run_copy_all {P : Program} (w : World) (dT sT ty elem : TypeId) (hu : P.underlying dT = some (.slice elem)) (hsz : (P.info? elem).map (·.size) = some 1)
    (dp sp : Option Addr) (dLen dCap sLen sCap : Nat) (g off : Nat) (cur : List Value) (t : TypeId) (hg : Blk w g t cur) (cs : List Value) (hn : cs.length = Nat.min sLen dLen)
    (hpos : 0 < cs.length → dp = some ⟨g, off, none⟩ ∧ ∃ ad, sp = some ad ∧ ∀ j v, cs[j]? = some v → w.cell? (ad.add j) = some v)
    (hfit : off + cs.length ≤ cur.length) (h1 : ∀ v ∈ cs, v.oneCell' = true) :
    ∃ w', (Builtin.copy_ #[dT, sT] ty #[.slice dp dLen dCap, .slice sp sLen sCap]).run P w = .ok (goInt cs.length) w' ∧ Blk w' g t (splice cur off cs) ∧ Fr [g] w w' := by
  by_cases h0 : cs.length = 0
  · obtain rfl : cs = [] := List.eq_nil_of_length_eq_zero h0
    have hrun := run_copy_none (P := P) w dT sT ty elem dp sp dLen dCap sLen sCap hu hsz (by simpa using hn.symm)
    exact ⟨w, hrun, by simpa [splice] using hg, Fr.refl _ _⟩
  · obtain ⟨rfl, ad, rfl, hsrc⟩ := hpos (by omega)
    have hrun := run_copy_row (P := P) w dT sT ty elem g off dLen dCap ad sLen sCap cur.toArray t cs hu hsz hg hn hsrc (by simpa using hfit) h1
    refine ⟨_, hrun, ?_, ?_⟩
    · show _ = _
      simpa [splice] using setRow_heap w g _ _ t _ hg
    · exact ⟨rfl, rfl, rfl, by simp [World.setRow], fun k _ hk => setRow_other w g k _ (fun e => hk (by simp [e]))⟩
end Go.Proofs.Lig
