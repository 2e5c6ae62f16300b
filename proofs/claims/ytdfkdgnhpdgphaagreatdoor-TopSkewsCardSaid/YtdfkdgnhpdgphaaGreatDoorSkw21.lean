/-
  Maps keyed by numbers, in memory, as lists of keys and values in the order of their making: a look-up, a store at a new key, by what they do to that list. No program in sight.
-/
import Derived.MapKept
import Derived.Maps.OwnOps
import Derived.Maps.Own
import Derived.Test.YtdfkdgnhpdgphaaGreatDoorSkw0
namespace Go.Proofs.Lig
open Go.RowKit Go.MapKept

/-- Block m is a map with these entries, oldest first. -/
def MapF (w : World) (m : Nat) (f : List (Int × Value)) : Prop := ∃ es clk, w.heap[m]? = some (.map es clk) ∧ es.toList.map (fun e => (e.key, e.val)) = f.map (fun x => (Value.int .i64 x.1, x.2)) ∧ ∀ e ∈ es, e.born < clk
def mget (f : List (Int × Value)) (k : Int) : Option Value := (f.find? (fun x => x.1 == k)).map (·.2)
set_option maxRecDepth 100000 in
theorem mget_nil (k : Int) : mget [] k = none := rfl
theorem mget_cons (a : Int) (b : Value) (f : List (Int × Value)) (k : Int) : mget ((a, b) :: f) k = if a == k then some b else mget f k := by
  unfold mget
  rw [List.find?_cons]
  cases a == k <;> rfl
set_option maxRecDepth 100000 in
theorem find_f (k : Int) : ∀ (f : List (Int × Value)) (l : List MapEntry) (i : Nat), l.map (fun e => (e.key, e.val)) = f.map (fun x => (Value.int .i64 x.1, x.2)) →
    ∃ r, Instr.findNow (.int .i64) (.int .i64 k) l i = some r ∧ r.map (·.2) = mget f k
  | [], [], i, _ => ⟨none, rfl, rfl⟩
  | [], e :: l, i, h => by simp at h
  | x :: f, [], i, h => by simp at h
  | (a, b) :: f, e :: l, i, h => by
    simp only [List.map_cons, List.cons.injEq, Prod.mk.injEq] at h
    obtain ⟨⟨h1, h2⟩, h3⟩ := h
    rw [mget_cons]
    by_cases hk : k = a
    · subst hk
      refine ⟨some (i, e.val), ?_, by simp [h2]⟩
      unfold Instr.findNow
      simp [h1, Instr.sameNow]
    · obtain ⟨r, hr, hm⟩ := find_f k f l (i + 1) h3
      refine ⟨r, ?_, by rw [if_neg (by simpa using Ne.symm hk)]; exact hm⟩
      unfold Instr.findNow
      have hka : (k == a) = false := by simpa using hk
      simp [h1, Instr.sameNow, hka, hr]

section
variable {w w' : World} {m : Nat} {f : List (Int × Value)} {O : Nat → Prop} {S : List Nat}
set_option maxRecDepth 100000 in
theorem MapF.lt (h : MapF w m f) : m < w.heap.size := by
  obtain ⟨es, clk, h, _⟩ := h
  exact (Array.getElem?_eq_some_iff.1 h).1
set_option maxRecDepth 100000 in
theorem MapF.fr (h : MapF w m f) (hf : Fr S w w') (hm : m ∉ S) : MapF w' m f := by
  have hl := h.lt
  obtain ⟨es, clk, h, h2⟩ := h
  exact ⟨es, clk, (hf.block m hl hm).trans h, h2⟩
set_option maxRecDepth 100000 in
theorem MapF.tfr {ts : List TypeId} (h : MapF w m f) (hf : TFr ts w w') (hm : mapT ∉ ts) : MapF w' m f := by
  obtain ⟨es, clk, h, h2⟩ := h
  exact ⟨es, clk, hf m _ h (fun t e => by injection e with e; exact e ▸ hm), h2⟩
set_option maxRecDepth 100000 in
theorem MapF.ty (h : MapF w m f) : ∃ o, w.heap[m]? = some o ∧ tyOf o = some mapT := by
  obtain ⟨es, clk, h, h2⟩ := h
  exact ⟨_, h, rfl⟩
set_option maxRecDepth 100000 in
theorem MapF.ne {g : Nat} {t : TypeId} {cs : List Value} (h : MapF w m f) (hb : Blk w g t cs) : g ≠ m := fun e => by
  subst e
  obtain ⟨es, clk, h, h2⟩ := h
  unfold Blk at hb
  rw [hb] at h
  cases h
set_option maxRecDepth 100000 in
theorem MapF.new (w : World) : MapF (w.alloc (.map #[] 0)) w.heap.size [] := ⟨#[], 0, heap_alloc_new w _, rfl, by simp⟩
theorem run_lookup_f {P : Program} {T K E : TypeId} (hT : P.underlying T = some (.map K E)) (hK : P.underlying K = some (.int .i64)) {z : Value} (hz : (zeroValue E).run P w = .ok z w) (h : MapF w m f) (k : Int) (v : Value) (hv : (mget f k).getD z = v) :
    (Instr.lookup T (.map (some m)) (.int .i64 k) false).run P w = .ok v w := by
  obtain ⟨es, clk, hb, he, hbn⟩ := h
  obtain ⟨r, hr, hm⟩ := find_f k f es.toList 0 he
  have hck := run_checkKey (P := P) (w := w) hK (k := .int .i64 k) (by simp [IsKey]) es.isEmpty 9999
  have hfk := run_findKey (P := P) (w := w) hK hr
  subst hv
  cases r with
  | none =>
    have hm : mget f k = none := by rw [← hm]; rfl
    simp [Instr.lookup, run_underlying hT, MapKept.run_getObj_map hb, hck, hfk, hz, hm, Result.andThen]
  | some r =>
    have hm : mget f k = some r.2 := by rw [← hm]; rfl
    simp [Instr.lookup, run_underlying hT, MapKept.run_getObj_map hb, hck, hfk, hm, Result.andThen]
set_option maxRecDepth 100000 in
theorem run_mapUpdate_new {P : Program} {T K E : TypeId} (hT : P.underlying T = some (.map K E)) (hK : P.underlying K = some (.int .i64)) (h : MapF w m f) (k : Int) (v : Value) (hn : mget f k = none) :
    ∃ w', (Instr.mapUpdate T (.map (some m)) (.int .i64 k) v).run P w = .ok () w' ∧ MapF w' m (f ++ [(k, v)]) ∧ Fr [m] w w' := by
  obtain ⟨es, clk, hb, he, hbn⟩ := h
  obtain ⟨r, hr, hm⟩ := find_f k f es.toList 0 he
  have hck := run_checkKey (P := P) (w := w) hK (k := .int .i64 k) (by simp [IsKey]) false 9999
  have hfk := run_findKey (P := P) (w := w) hK hr
  have hr0 : r = none := by
    rw [hn] at hm
    cases r with
    | none => rfl
    | some r => simp at hm
  subst hr0
  refine ⟨{ w with heap := w.heap.setIfInBounds m (.map (es.push { key := .int .i64 k, val := v, born := clk }) (clk + 1)) }, ?_, ⟨_, _, (heap_set hb).1, ?_, ?_⟩, ⟨rfl, rfl, rfl, by simp, fun q hq hn => ?_⟩⟩
  · simp [Instr.mapUpdate, run_underlying hT, MapKept.run_getObj_map hb, hck, hfk, Result.andThen, MapKept.run_setObj_map _ hb]
  · simp [he]
  · intro e hm
    rcases Array.mem_push.1 hm with h1 | rfl
    · have := hbn e h1; omega
    · simp
  · exact (heap_set hb).2 q (by simpa using hn)
/-- A map in which a new key has been laid, and its value is not stored yet. -/
def MapE (w : World) (m : Nat) (f : List (Int × Value)) (k : Int) (clk : Nat) : Prop := ∃ (es : Array MapEntry) (z : Value), w.heap[m]? = some (.map (es.push { key := .int .i64 k, val := z, born := clk }) (clk + 1)) ∧ es.toList.map (fun e => (e.key, e.val)) = f.map (fun x => (Value.int .i64 x.1, x.2)) ∧ ∀ e ∈ es, e.born < clk
set_option maxRecDepth 100000 in
theorem run_mapEntry_new {P : Program} {T K E : TypeId} (hT : P.underlying T = some (.map K E)) (hK : P.underlying K = some (.int .i64)) {z : Value} (hz : (zeroValue E).run P w = .ok z w) (h : MapF w m f) (k : Int) (hn : mget f k = none) :
    ∃ (clk : Nat) (w' : World), (Instr.mapEntry T (.map (some m)) (.int .i64 k)).run P w = .ok (.tuple #[z, goInt clk]) w' ∧ MapE w' m f k clk ∧ Fr [m] w w' := by
  obtain ⟨es, clk, hb, he, hbn⟩ := h
  obtain ⟨r, hr, hm⟩ := find_f k f es.toList 0 he
  have hck := run_checkKey (P := P) (w := w) hK (k := .int .i64 k) (by simp [IsKey]) false 9999
  have hfk := run_findKey (P := P) (w := w) hK hr
  have hr0 : r = none := by
    rw [hn] at hm
    cases r with
    | none => rfl
    | some r => simp at hm
  subst hr0
  refine ⟨clk, { w with heap := w.heap.setIfInBounds m (.map (es.push { key := .int .i64 k, val := z, born := clk }) (clk + 1)) }, ?_, ⟨es, z, (heap_set hb).1, he, hbn⟩, ⟨rfl, rfl, rfl, by simp, fun q hq hn => ?_⟩⟩
  · simp [Instr.mapEntry, run_underlying hT, MapKept.run_getObj_map hb, hck, hfk, hz, Result.andThen, MapKept.run_setObj_map _ hb]
  · exact (heap_set hb).2 q (by simpa using hn)
set_option maxRecDepth 100000 in
theorem run_entryStore_new {P : Program} {k : Int} {clk : Nat} (h : MapE w m f k clk) (T : TypeId) (v : Value) :
    ∃ w', (Instr.entryStore T (.map (some m)) (goInt clk) v).run P w = .ok () w' ∧ MapF w' m (f ++ [(k, v)]) ∧ Fr [m] w w' := by
  obtain ⟨es, z, hb, he, hbn⟩ := h
  have hf : (es.push { key := .int .i64 k, val := z, born := clk }).findIdx? (fun e => (e.born : Int) == (clk : Int)) = some es.size := by
    rw [Array.findIdx?_push]
    have : es.findIdx? (fun e => (e.born : Int) == (clk : Int)) = none := by
      rw [Array.findIdx?_eq_none_iff]
      intro e hm
      have := hbn e hm
      simp
      omega
    rw [this]
    simp
  refine ⟨{ w with heap := w.heap.setIfInBounds m (.map ((es.push { key := .int .i64 k, val := z, born := clk }).modify es.size fun e => { e with val := v }) (clk + 1)) }, ?_, ⟨_, _, (heap_set hb).1, ?_, ?_⟩, ⟨rfl, rfl, rfl, by simp, fun q hq hn => ?_⟩⟩
  · simp [Instr.entryStore, MapKept.run_getObj_map hb, Result.andThen, MapKept.run_setObj_map _ hb, goInt, asInt, asIntOf, hf]
  · have e : (es.push { key := .int .i64 k, val := z, born := clk }).modify es.size (fun e => { e with val := v }) = es.push { key := .int .i64 k, val := v, born := clk } := by
      apply Array.ext_getElem?
      intro j
      rw [Array.getElem?_modify]
      by_cases hj : es.size = j
      · subst hj
        simp
      · rw [if_neg hj, Array.getElem?_push, Array.getElem?_push, if_neg (by omega), if_neg (by omega)]
    rw [e]
    simp [he]
  · have e : (es.push { key := .int .i64 k, val := z, born := clk }).modify es.size (fun e => { e with val := v }) = es.push { key := .int .i64 k, val := v, born := clk } := by
      apply Array.ext_getElem?
      intro j
      rw [Array.getElem?_modify]
      by_cases hj : es.size = j
      · subst hj
        simp
      · rw [if_neg hj, Array.getElem?_push, Array.getElem?_push, if_neg (by omega), if_neg (by omega)]
    rw [e]
    intro e hm
    rcases Array.mem_push.1 hm with h1 | rfl
    · have := hbn e h1; omega
    · simp
  · exact (heap_set hb).2 q (by simpa using hn)
end

set_option maxRecDepth 100000 in
/-- At the operation: 'm[k]'. -/
theorem wpList_lookup_f {P : Program} (w : World) {ops : Array Oper} {rest : List Oper} {o : Oper} {a : Act} {Q : Exit → Act → World → Prop}
    (hg : o.guard = none) (x y : Operand) (T : TypeId) (hop : o.op = Op.lookup T x y false) (K E : TypeId) (hT : P.underlying T = some (.map K E)) (hK : P.underlying K = some (.int .i64)) (z : Value) (hz : (zeroValue E).run P w = .ok z w)
    (m : Nat) (f : List (Int × Value)) (hx : a.eval x = .map (some m)) (h : MapF w m f) (k : Int) (hy : a.eval y = .int .i64 k) (v : Value) (hv : (mget f k).getD z = v)
    (hK2 : wpList P ops Q rest (a.put o.dst v) w) : wpList P ops Q (o :: rest) a w := by
  refine wpList_plain hg fun K' hK' => ?_
  have hrun := run_lookup_f hT hK hz h k v hv
  unfold Oper.wp
  simp [execOp, hop, hx, hy, hrun, Result.andThen]
  exact hK' _ _ hK2
set_option maxRecDepth 100000 in
/-- At the operation: 'm[k] = v' at a new key. -/
theorem wpList_mapUpdate_new {P : Program} (w : World) {ops : Array Oper} {rest : List Oper} {o : Oper} {a : Act} {Q : Exit → Act → World → Prop}
    (hg : o.guard = none) (x y u : Operand) (T : TypeId) (hop : o.op = Op.mapUpdate T x y u) (K E : TypeId) (hT : P.underlying T = some (.map K E)) (hK : P.underlying K = some (.int .i64))
    (m : Nat) (f : List (Int × Value)) (hx : a.eval x = .map (some m)) (h : MapF w m f) (k : Int) (hy : a.eval y = .int .i64 k) (hn : mget f k = none)
    (hK2 : ∀ w', MapF w' m (f ++ [(k, a.eval u)]) → Fr [m] w w' → wpList P ops Q rest (a.put o.dst undef) w') : wpList P ops Q (o :: rest) a w := by
  refine wpList_plain hg fun K' hK' => ?_
  obtain ⟨w', hrun, h1, h2⟩ := run_mapUpdate_new hT hK h k (a.eval u) hn
  unfold Oper.wp
  simp [execOp, hop, hx, hy, hrun, Result.andThen]
  exact hK' _ _ (hK2 w' h1 h2)
set_option maxRecDepth 100000 in
/-- At the operation: the entry of 'm[k] = ..' at a new key, and the store into it. -/
theorem wpList_mapEntry_new {P : Program} (w : World) {ops : Array Oper} {rest : List Oper} {o : Oper} {a : Act} {Q : Exit → Act → World → Prop}
    (hg : o.guard = none) (x y : Operand) (T : TypeId) (hop : o.op = Op.mapEntry T x y) (K E : TypeId) (hT : P.underlying T = some (.map K E)) (hK : P.underlying K = some (.int .i64)) (z : Value) (hz : (zeroValue E).run P w = .ok z w)
    (m : Nat) (f : List (Int × Value)) (hx : a.eval x = .map (some m)) (h : MapF w m f) (k : Int) (hy : a.eval y = .int .i64 k) (hn : mget f k = none)
    (hK2 : ∀ (clk : Nat) (w' : World), MapE w' m f k clk → Fr [m] w w' → wpList P ops Q rest (a.put o.dst (.tuple #[z, goInt clk])) w') : wpList P ops Q (o :: rest) a w := by
  refine wpList_plain hg fun K' hK' => ?_
  obtain ⟨clk, w', hrun, h1, h2⟩ := run_mapEntry_new hT hK hz h k hn
  unfold Oper.wp
  simp [execOp, hop, hx, hy, hrun, Result.andThen]
  exact hK' _ _ (hK2 clk w' h1 h2)
set_option maxRecDepth 100000 in
theorem wpList_entryStore_new {P : Program} (w : World) {ops : Array Oper} {rest : List Oper} {o : Oper} {a : Act} {Q : Exit → Act → World → Prop}
    (hg : o.guard = none) (x y u : Operand) (T : TypeId) (hop : o.op = Op.entryStore T x y u) (m : Nat) (f : List (Int × Value)) (k : Int) (clk : Nat) (h : MapE w m f k clk) (hx : a.eval x = .map (some m)) (hy : a.eval y = goInt clk)
    (hK2 : ∀ w', MapF w' m (f ++ [(k, a.eval u)]) → Fr [m] w w' → wpList P ops Q rest (a.put o.dst undef) w') : wpList P ops Q (o :: rest) a w := by
  refine wpList_plain hg fun K' hK' => ?_
  obtain ⟨w', hrun, h1, h2⟩ := run_entryStore_new (P := P) h T (a.eval u)
  unfold Oper.wp
  simp [execOp, hop, hx, hy, hrun, Result.andThen]
  exact hK' _ _ (hK2 w' h1 h2)
set_option maxRecDepth 100000 in
theorem MapE.cells {w w' : World} {m : Nat} {f : List (Int × Value)} {k : Int} {clk : Nat} {S : List Nat} (h : MapE w m f k clk) (hf : Fr S w w') (hm : m ∉ S) : MapE w' m f k clk := by
  obtain ⟨es, z, hb, r⟩ := h
  exact ⟨es, z, (hf.block m (Array.getElem?_eq_some_iff.1 hb).1 hm).trans hb, r⟩
end Go.Proofs.Lig
