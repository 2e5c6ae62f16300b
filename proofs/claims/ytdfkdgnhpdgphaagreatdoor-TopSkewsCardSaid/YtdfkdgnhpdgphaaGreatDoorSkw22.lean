/-
  A store in memory: its clock, its cells, its ends, its chains, its entries; what is kept when a part turns.
-/
import Derived.Test.YtdfkdgnhpdgphaaGreatDoorSkw14
import Derived.Test.YtdfkdgnhpdgphaaGreatDoorSkw20
import Derived.Test.YtdfkdgnhpdgphaaGreatDoorSkw21
namespace Go.Proofs.YtdfkdgnhpdgphaaGreatDoor
open Go.RowKit Go.Proofs.Lig

set_option maxRecDepth 100000 in
theorem own_frS {w w' : World} {S : List Nat} {e : TypeId} {size : Nat} {v : Value} {n : Nat} {xs : List Value} (h : w.ownsRow 0 e size v n xs) (hf : Fr S w w') (hs : ∀ k ∈ v.ownBlock.toList, k ∉ S) : w'.ownsRow 0 e size v n xs :=
  own_fr h hf (fun k hk => hs k (by simp [hk]))
theorem nod_law : PartLaw Nod.CelS Nod.celT where
  fr h hf hd := by
    obtain ⟨A, cap, h, rfl⟩ := h
    exact ⟨A, cap, ⟨h.blk.fr hf (hd _ (by simp)), own_frS h.own hf (fun k hk => hd k (List.mem_cons_of_mem _ hk))⟩, rfl⟩
  lt h := by
    obtain ⟨A, cap, h, rfl⟩ := h
    intro k hk
    rcases List.mem_cons.1 hk with rfl | hk
    · exact h.blk.lt
    · exact own_lt h.own (by simpa using hk)
  tfr h hf hd := h.tfr hf hd
set_option maxRecDepth 100000 in
theorem edg_law : PartLaw Edg.CelS Edg.celT where
  fr h hf hd := by
    obtain ⟨A, cap, h, rfl⟩ := h
    exact ⟨A, cap, ⟨h.blk.fr hf (hd _ (by simp)), own_frS h.own hf (fun k hk => hd k (List.mem_cons_of_mem _ hk))⟩, rfl⟩
  lt h := by
    obtain ⟨A, cap, h, rfl⟩ := h
    intro k hk
    rcases List.mem_cons.1 hk with rfl | hk
    · exact h.blk.lt
    · exact own_lt h.own (by simpa using hk)
  tfr h hf hd := h.tfr hf hd

abbrev pt (X : Nat) : Value := .pointer (some ⟨X, 0, none⟩)
/-- A chain in memory: without lists, or with one list of one link. -/
def ChnS (w : World) (X : Nat) (S : List Nat) (D : Option (Int × Int)) : Prop := match D with
  | none => ∃ m, Blk w X 246 [.map (some m), .int .i64 0] ∧ MapF w m [] ∧ S = [X, m]
  | some (which, id) => ∃ m l m2 x, Blk w X 246 [.map (some m), .int .i64 1] ∧ MapF w m [(which, pt l)] ∧ Blk w l 383 [pt x, pt x, .map (some m2)] ∧ MapF w m2 [(id, pt x)] ∧
      Blk w x 385 [.int .i64 id, .pointer none, .pointer none] ∧ S = [X, m, l, m2, x]
abbrev chnT : List TypeId := [246, 383, 385, mapT]
set_option maxRecDepth 100000 in
theorem chn_law : PartLaw ChnS chnT where
  fr {w w' X S S' D} h hf hd := by
    match D, h with
    | none, ⟨m, h1, h2, e⟩ =>
      subst e
      exact ⟨m, h1.fr hf (hd _ (by simp)), h2.fr hf (hd _ (by simp)), rfl⟩
    | some (which, id), ⟨m, l, m2, x, h1, h2, h3, h4, h5, e⟩ =>
      subst e
      exact ⟨m, l, m2, x, h1.fr hf (hd _ (by simp)), h2.fr hf (hd _ (by simp)), h3.fr hf (hd _ (by simp)), h4.fr hf (hd _ (by simp)), h5.fr hf (hd _ (by simp)), rfl⟩
  lt {w X S D} h := by
    match D, h with
    | none, ⟨m, h1, h2, e⟩ =>
      subst e
      intro k hk
      simp only [List.mem_cons, List.not_mem_nil, or_false] at hk
      rcases hk with rfl | rfl
      · exact h1.lt
      · exact h2.lt
    | some (which, id), ⟨m, l, m2, x, h1, h2, h3, h4, h5, e⟩ =>
      subst e
      intro k hk
      simp only [List.mem_cons, List.not_mem_nil, or_false] at hk
      rcases hk with rfl | rfl | rfl | rfl | rfl
      · exact h1.lt
      · exact h2.lt
      · exact h3.lt
      · exact h4.lt
      · exact h5.lt
  tfr {w w' X S D ts} h hf hd := by
    match D, h with
    | none, ⟨m, h1, h2, e⟩ => exact ⟨m, h1.tfr hf (hd _ (by simp)), h2.tfr hf (hd _ (by simp)), e⟩
    | some (which, id), ⟨m, l, m2, x, h1, h2, h3, h4, h5, e⟩ =>
      exact ⟨m, l, m2, x, h1.tfr hf (hd _ (by simp)), h2.tfr hf (hd _ (by simp)), h3.tfr hf (hd _ (by simp)), h4.tfr hf (hd _ (by simp)), h5.tfr hf (hd _ (by simp)), e⟩
set_option maxRecDepth 100000 in
theorem ChnS.typed {w : World} {X : Nat} {S : List Nat} {D : Option (Int × Int)} (h : ChnS w X S D) : ∀ k ∈ S, ∃ o t, w.heap[k]? = some o ∧ tyOf o = some t ∧ t ∈ chnT := by
  match D, h with
  | none, ⟨m, h1, h2, e⟩ =>
    subst e
    intro k hk
    simp only [List.mem_cons, List.not_mem_nil, or_false] at hk
    rcases hk with rfl | rfl
    · exact ⟨_, _, h1, rfl, by simp⟩
    · obtain ⟨o, h3, h4⟩ := h2.ty
      exact ⟨o, _, h3, h4, by simp⟩
  | some (which, id), ⟨m, l, m2, x, h1, h2, h3, h4, h5, e⟩ =>
    subst e
    intro k hk
    simp only [List.mem_cons, List.not_mem_nil, or_false] at hk
    rcases hk with rfl | rfl | rfl | rfl | rfl
    · exact ⟨_, _, h1, rfl, by simp⟩
    · obtain ⟨o, h3, h4⟩ := h2.ty
      exact ⟨o, _, h3, h4, by simp⟩
    · exact ⟨_, _, h3, rfl, by simp⟩
    · obtain ⟨o, h3, h4⟩ := h4.ty
      exact ⟨o, _, h3, h4, by simp⟩
    · exact ⟨_, _, h5, rfl, by simp⟩

/-- A row that is O's. -/
structure OwnO (O : Nat → Prop) (w : World) (e : TypeId) (size : Nat) (A : Option Addr) (n cap : Nat) (cs : List Value) : Prop where
  own : w.ownsRow 0 e size (.slice A n cap) n cs
  at_ : ∀ k, (Value.slice A n cap).ownBlock = some k → O k
section
variable {O : Nat → Prop} {w w' : World} {e : TypeId} {size : Nat} {A : Option Addr} {n cap : Nat} {cs : List Value}
set_option maxRecDepth 100000 in
theorem OwnO.tfr {ts : List TypeId} (h : OwnO O w e size A n cap cs) (hf : TFr ts w w') (he : e ∉ ts) : OwnO O w' e size A n cap cs := ⟨own_tfr h.own hf he, h.at_⟩
theorem OwnO.nil : OwnO O w e size none 0 0 [] := ⟨World.ownsRow_nil _ _ _ _, fun k hk => by simp [Value.ownBlock] at hk⟩
end

structure StoD where
  c : Clk
  ns : List (List (Ver NodV))
  es : List (List (Ver EdgV))
  ends : List (Int × Int)
  co : Option (Int × Int)
  ci : Option (Int × Int)
/-- Where a store's parts lie. -/
structure StoP where
  C : Nat
  nA : Option Addr
  nc : Nat
  eA : Option Addr
  ec : Nat
  dA : Option Addr
  dc : Nat
  o : Nat
  i : Nat
  ix : Nat
  tA : Option Addr
  tc : Nat
  Xs : List Nat
  Ys : List Nat
def stoCells (p : StoP) (nn ne nd nt : Nat) : List Value := [pt p.C, .slice p.nA nn p.nc, .slice p.eA ne p.ec, .slice p.dA nd p.dc, pt p.o, pt p.i, .map (some p.ix), .slice p.tA nt p.tc]
def encEnds (l : List (Int × Int)) : List Value := l.flatMap fun x => [.int .i64 x.1, .int .i64 x.2]
/-- A node without anything. -/
def e0 : NodV := ⟨none, 0, 0, none, 0, 0⟩
structure StoA (O : Nat → Prop) (w : World) (s : Nat) (p : StoP) (d : StoD) : Prop where
  blk : Blk w s 99 (stoCells p d.ns.length d.es.length d.ends.length d.ns.length)
  sO : O s
  clk : ∃ S, ClkS w p.C S d.c ∧ ∀ k ∈ S, O k
  good : d.c.Good
  nrow : OwnO O w 88 1 p.nA d.ns.length p.nc (p.Xs.map pt)
  erow : OwnO O w 101 1 p.eA d.es.length p.ec (p.Ys.map pt)
  drow : OwnO O w 261 2 p.dA d.ends.length p.dc (encEnds d.ends)
  trow : OwnO O w 302 1 p.tA d.ns.length p.tc (List.replicate d.ns.length (.slice none 0 0))
  nodes : PartsIn Nod.CelS O w p.Xs d.ns
  edges : PartsIn Edg.CelS O w p.Ys d.es
  chains : PartsIn ChnS O w [p.o, p.i] [d.co, d.ci]
  dl : d.ends.length = d.es.length
  bare : ∀ l ∈ d.ns, ∀ y ∈ l, y.v = e0
abbrev stoT : List TypeId := [99, 88, 101, 261, 302] ++ clkT ++ Nod.celT ++ Edg.celT ++ chnT
def Sto (O : Nat → Prop) (w : World) (s : Nat) (d : StoD) : Prop := ∃ p, StoA O w s p d
section
variable {O : Nat → Prop} {w w' : World} {s : Nat} {p : StoP} {d : StoD}
set_option maxRecDepth 100000 in
theorem StoA.tfr {ts : List TypeId} (h : StoA O w s p d) (hf : TFr ts w w') (hd : ∀ t ∈ stoT, t ∉ ts) : StoA O w' s p d := by
  obtain ⟨S, hc, hS⟩ := h.clk
  exact ⟨h.blk.tfr hf (hd _ (by simp)), h.sO, ⟨S, hc.tfr hf (fun t ht => hd t (by simp at ht ⊢; rcases ht with rfl | rfl <;> simp)), hS⟩, h.good, h.nrow.tfr hf (hd _ (by simp)), h.erow.tfr hf (hd _ (by simp)), h.drow.tfr hf (hd _ (by simp)), h.trow.tfr hf (hd _ (by simp)),
    h.nodes.tfr nod_law hf (fun t ht => hd t (by simp at ht ⊢; rcases ht with rfl | rfl <;> simp)), h.edges.tfr edg_law hf (fun t ht => hd t (by simp at ht ⊢; rcases ht with rfl | rfl <;> simp)),
    h.chains.tfr chn_law hf (fun t ht => hd t (by simp at ht ⊢; rcases ht with rfl | rfl | rfl | rfl <;> simp)), h.dl, h.bare⟩
set_option maxRecDepth 100000 in
theorem StoA.below (h : StoA O w s p d) (hb : Below w.heap.size w w') : StoA O w' s p d := h.tfr (ts := []) (.of_below hb) (by simp)
theorem Sto.below (h : Sto O w s d) (hb : Below w.heap.size w w') : Sto O w' s d := by
  obtain ⟨p, h⟩ := h
  exact ⟨p, h.below hb⟩
set_option maxRecDepth 100000 in
theorem Sto.tfr {ts : List TypeId} (h : Sto O w s d) (hf : TFr ts w w') (hd : ∀ t ∈ stoT, t ∉ ts) : Sto O w' s d := by
  obtain ⟨p, h⟩ := h
  exact ⟨p, h.tfr hf hd⟩
set_option maxRecDepth 100000 in
/-- The clock turns. -/
theorem StoA.onClk (h : StoA O w s p d) {S S' : List Nat} {c' : Clk} (hc : ClkS w p.C S d.c) (hc' : ClkS w' p.C S' c') (hs : Sub S' S w.heap.size) (hf : Fr S w w') (hn : NewO O w) (hS : ∀ k ∈ S, O k) (hg : c'.Good) : StoA O w' s p { d with c := c' } := by
  have ht : TFr clkT w w' := .of_fr hf hc.typed
  exact ⟨h.blk.tfr ht (by decide), h.sO, ⟨S', hc', fun k hk => by rcases hs k hk with h1 | h1; exact hS k h1; exact hn k h1⟩, hg, h.nrow.tfr ht (by decide), h.erow.tfr ht (by decide), h.drow.tfr ht (by decide), h.trow.tfr ht (by decide),
    h.nodes.tfr nod_law ht (by decide), h.edges.tfr edg_law ht (by decide), h.chains.tfr chn_law ht (by decide), h.dl, h.bare⟩
set_option maxRecDepth 100000 in
/-- A node's cell turns. -/
theorem StoA.onNode (h : StoA O w s p d) {i : Nat} {l : List (Ver NodV)} (hi : d.ns[i]? = some l) : ∃ X S, p.Xs[i]? = some X ∧ Nod.CelS w X S l ∧ (∀ k ∈ S, O k) ∧
    ∀ (w' : World) (S' : List Nat) (l' : List (Ver NodV)), Nod.CelS w' X S' l' → Sub S' S w.heap.size → Fr S w w' → NewO O w → (∀ y ∈ l', y.v = e0) → StoA O w' s p { d with ns := d.ns.set i l' } ∧ TFr Nod.celT w w' := by
  obtain ⟨X, S, h1, h2, h3, h4⟩ := h.nodes.get nod_law hi
  refine ⟨X, S, h1, h2, h3, fun w' S' l' hc hs hf hn hb => ?_⟩
  have ht : TFr Nod.celT w w' := .of_fr hf h2.typed
  obtain ⟨SC, hc1, hS⟩ := h.clk
  refine ⟨⟨?_, h.sO, ⟨SC, hc1.tfr ht (by decide), hS⟩, h.good, ?_, h.erow.tfr ht (by decide), h.drow.tfr ht (by decide), ?_, h4 hc hs hf hn, h.edges.tfr edg_law ht (by decide), h.chains.tfr chn_law ht (by decide), h.dl, ?_⟩, ht⟩
  · simp only [List.length_set]
    exact h.blk.tfr ht (by decide)
  · simp only [List.length_set]
    exact h.nrow.tfr ht (by decide)
  · simp only [List.length_set]
    exact h.trow.tfr ht (by decide)
  · intro l0 hl0
    rcases List.mem_or_eq_of_mem_set hl0 with h5 | rfl
    · exact h.bare l0 h5
    · exact hb
set_option maxRecDepth 100000 in
/-- An edge's cell turns. -/
theorem StoA.onEdge (h : StoA O w s p d) {i : Nat} {l : List (Ver EdgV)} (hi : d.es[i]? = some l) : ∃ X S, p.Ys[i]? = some X ∧ Edg.CelS w X S l ∧ (∀ k ∈ S, O k) ∧
    ∀ (w' : World) (S' : List Nat) (l' : List (Ver EdgV)), Edg.CelS w' X S' l' → Sub S' S w.heap.size → Fr S w w' → NewO O w → StoA O w' s p { d with es := d.es.set i l' } ∧ TFr Edg.celT w w' := by
  obtain ⟨X, S, h1, h2, h3, h4⟩ := h.edges.get edg_law hi
  refine ⟨X, S, h1, h2, h3, fun w' S' l' hc hs hf hn => ?_⟩
  have ht : TFr Edg.celT w w' := .of_fr hf h2.typed
  obtain ⟨SC, hc1, hS⟩ := h.clk
  refine ⟨⟨?_, h.sO, ⟨SC, hc1.tfr ht (by decide), hS⟩, h.good, h.nrow.tfr ht (by decide), ?_, h.drow.tfr ht (by decide), h.trow.tfr ht (by decide), h.nodes.tfr nod_law ht (by decide), h4 hc hs hf hn, h.chains.tfr chn_law ht (by decide), ?_, h.bare⟩, ht⟩
  · simp only [List.length_set]
    exact h.blk.tfr ht (by decide)
  · simp only [List.length_set]
    exact h.erow.tfr ht (by decide)
  · simp only [List.length_set]
    exact h.dl
end
end Go.Proofs.YtdfkdgnhpdgphaaGreatDoor
