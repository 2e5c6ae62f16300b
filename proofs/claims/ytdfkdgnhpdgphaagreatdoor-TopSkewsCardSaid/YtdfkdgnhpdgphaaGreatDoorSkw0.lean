/-
  Words for memory that the proofs of this place share: a block that is known whole, what a call may have turned ('Fr'), and how both go through the steps of a walk. No program in sight.
-/
import Derived.Below
import Derived.Laws.OwnMore
import Derived.Deep.AppendLies
import Derived.Deep.Draws
import Derived.Laws.Rows
import Derived.WalkKit
namespace Go.Proofs.Lig
open Go.RowKit

set_option maxRecDepth 100000 in
theorem hid {p : Prop} (h : p) : Hid p := h

/-- Block g is just these cells of element type t; none is frozen. -/
def Blk (w : World) (g : Nat) (t : TypeId) (cs : List Value) : Prop := w.heap[g]? = some (.cells cs.toArray t (0, 0))

/-- In w' whatever lay in w outside the blocks of S is as it was. -/
structure Fr (S : List Nat) (w w' : World) : Prop where
  os : w'.os = w.os
  tape : w'.tape = w.tape
  output : w'.output = w.output
  size : w.heap.size ≤ w'.heap.size
  block : ∀ k, k < w.heap.size → k ∉ S → w'.heap[k]? = w.heap[k]?

/-- Every block of S' is one of S or lies at N or beyond. -/
def Sub (S' S : List Nat) (N : Nat) : Prop := ∀ k ∈ S', k ∈ S ∨ N ≤ k

section
variable {w w' w'' : World} {S S' : List Nat} {g : Nat} {t : TypeId} {cs : List Value}

set_option maxRecDepth 100000 in
theorem Sub.refl (S : List Nat) (N : Nat) : Sub S S N := fun _ h => .inl h
theorem Sub.trans {S'' : List Nat} {N M : Nat} (h : Sub S' S N) (h' : Sub S'' S' M) (hm : N ≤ M) : Sub S'' S N := fun k hk => by
  rcases h' k hk with h1 | h1
  · exact h k h1
  · exact .inr (by omega)

set_option maxRecDepth 100000 in
theorem Blk.lt (h : Blk w g t cs) : g < w.heap.size := by
  rcases Nat.lt_or_ge g w.heap.size with hlt | hge
  · exact hlt
  · unfold Blk at h; rw [Array.getElem?_eq_none hge] at h; cases h
set_option maxRecDepth 100000 in
theorem Blk.cell (h : Blk w g t cs) (i : Nat) : w.cell? ⟨g, i, none⟩ = cs[i]? := by
  unfold Blk at h; simp [World.cell?, h]
theorem Blk.frozen (h : Blk w g t cs) (i : Nat) : w.frozen? ⟨g, i, none⟩ = false := by
  unfold Blk at h; simp [World.frozen?, h]
set_option maxRecDepth 100000 in
theorem Blk.drew (h : Blk w g t cs) : Blk w.drew g t cs := h
theorem Blk.drewN (h : Blk w g t cs) (n : Nat) : Blk (w.drewN n) g t cs := h
theorem Blk.alloc (h : Blk w g t cs) (o : Obj) : Blk (w.alloc o) g t cs := (Below.heap_alloc w o g h.lt).trans h
set_option maxRecDepth 100000 in
theorem Blk.new (w : World) (t : TypeId) (cs : List Value) : Blk (w.alloc (.cells cs.toArray t)) w.heap.size t cs := heap_alloc_new w _
theorem Blk.fr (h : Blk w g t cs) (hf : Fr S w w') (hg : g ∉ S) : Blk w' g t cs := (hf.block g h.lt hg).trans h
theorem Blk.below {B : Nat} (h : Blk w g t cs) (hb : Below B w w') (hg : g < B) : Blk w' g t cs := (hb.block g hg).trans h
set_option maxRecDepth 100000 in
theorem Blk.grown {row : Option Nat} (h : Blk w g t cs) (hb : w.grownBy w' row) (hg : row ≠ some g) : Blk w' g t cs := (hb.block g h.lt (Ne.symm hg)).trans h
theorem Blk.set_ (h : Blk w g t cs) (i : Nat) (u : Value) : Blk (w.setCell ⟨g, i, none⟩ u) g t (cs.set i u) := by
  unfold Blk at h ⊢
  simp [World.setCell, Array.getElem?_modify, h]
set_option maxRecDepth 100000 in
theorem Blk.far (h : Blk w g t cs) {p : Addr} (hp : g ≠ p.block) (u : Value) : Blk (w.setCell p u) g t cs := (Below.heap_setCell w p u g hp).trans h
theorem Blk.inj {t' : TypeId} {cs' : List Value} (h : Blk w g t cs) (h' : Blk w g t' cs') : t = t' ∧ cs = cs' := by
  unfold Blk at h h'
  rw [h] at h'
  injection h' with h'
  injection h' with h1 h2
  exact ⟨h2, by simpa using h1⟩

set_option maxRecDepth 100000 in
theorem Fr.refl (S : List Nat) (w : World) : Fr S w w := ⟨rfl, rfl, rfl, Nat.le_refl _, fun _ _ _ => rfl⟩
theorem Fr.trans (h : Fr S w w') (h' : Fr S' w' w'') (hs : Sub S' S w.heap.size) : Fr S w w'' :=
  ⟨h'.os.trans h.os, h'.tape.trans h.tape, h'.output.trans h.output, Nat.le_trans h.size h'.size, fun k hk hn =>
    (h'.block k (Nat.lt_of_lt_of_le hk h.size) (fun e => by rcases hs k e with h1 | h1; exact hn h1; omega)).trans (h.block k hk hn)⟩
set_option maxRecDepth 100000 in
theorem Fr.trans_same (h : Fr S w w') (h' : Fr S w' w'') : Fr S w w'' := h.trans h' (Sub.refl _ _)
theorem Fr.mono (h : Fr S w w') (hs : ∀ k ∈ S, k ∈ S' ∨ w.heap.size ≤ k) : Fr S' w w' :=
  ⟨h.os, h.tape, h.output, h.size, fun k hk hn => h.block k hk (fun e => by rcases hs k e with h1 | h1; exact hn h1; omega)⟩
set_option maxRecDepth 100000 in
theorem Fr.drew (h : Fr S w w') : Fr S w w'.drew := ⟨h.os, h.tape, h.output, h.size, h.block⟩
theorem Fr.drewN (h : Fr S w w') (n : Nat) : Fr S w (w'.drewN n) := ⟨h.os, h.tape, h.output, h.size, h.block⟩
theorem Fr.alloc (h : Fr S w w') (o : Obj) : Fr S w (w'.alloc o) :=
  ⟨h.os, h.tape, h.output, by have := h.size; simp; omega, fun k hk hn => (Below.heap_alloc w' o k (Nat.lt_of_lt_of_le hk h.size)).trans (h.block k hk hn)⟩
set_option maxRecDepth 100000 in
theorem Fr.setCell (h : Fr S w w') {p : Addr} (hp : p.block ∈ S ∨ w.heap.size ≤ p.block) (u : Value) : Fr S w (w'.setCell p u) :=
  ⟨h.os, h.tape, h.output, by simpa using h.size, fun k hk hn => (Below.heap_setCell w' p u k (fun e => by
    subst e; rcases hp with hp | hp; exact hn hp; omega)).trans (h.block k hk hn)⟩
set_option maxRecDepth 100000 in
theorem Fr.grown {row : Option Nat} (h : Fr S w w') (hg : w'.grownBy w'' row) (hr : ∀ k, row = some k → k ∈ S ∨ w.heap.size ≤ k) : Fr S w w'' :=
  ⟨hg.os.trans h.os, hg.tape.trans h.tape, hg.output.trans h.output, Nat.le_trans h.size hg.size, fun k hk hn =>
    (hg.block k (Nat.lt_of_lt_of_le hk h.size) (fun e => by rcases hr k e.symm with h1 | h1; exact hn h1; omega)).trans (h.block k hk hn)⟩
set_option maxRecDepth 100000 in
theorem Fr.of_below {B : Nat} (h : Below B w w') (hB : w.heap.size ≤ B) : Fr S w w' := ⟨h.os, h.tape, h.output, h.size, fun k hk _ => h.block k (by omega)⟩
theorem Fr.below (h : Fr S w w') {B : Nat} (hB : B ≤ w.heap.size) (hs : ∀ k ∈ S, B ≤ k) : Below B w w' :=
  ⟨h.os, h.tape, h.output, h.size, fun k hk => h.block k (by omega) (fun e => by have := hs k e; omega)⟩
set_option maxRecDepth 100000 in
theorem Fr.cell (h : Fr S w w') {p : Addr} (hp : p.block < w.heap.size) (hn : p.block ∉ S) : w'.cell? p = w.cell? p := World.cell?_of_block (h.block _ hp hn)
theorem Fr.frozen (h : Fr S w w') {p : Addr} (hp : p.block < w.heap.size) (hn : p.block ∉ S) : w'.frozen? p = w.frozen? p := World.frozen?_of_block (h.block _ hp hn)

set_option maxRecDepth 100000 in
theorem bdrewN {B : Nat} (h : Below B w w') (n : Nat) : Below B w (w'.drewN n) := ⟨h.os, h.tape, h.output, h.size, h.block⟩

/-- A row that the call owns, kept where its block is none of S. -/
theorem own_fr {base : Nat} {e : TypeId} {size : Nat} {v : Value} {n : Nat} {xs : List Value} (h : w.ownsRow base e size v n xs) (hf : Fr S w w') (hs : ∀ k, v.ownBlock = some k → k ∉ S) : w'.ownsRow base e size v n xs := by
  refine ⟨h.1, ?_⟩
  rcases h.2 with h2 | ⟨g, cap, cur, rfl, hg, hh, r⟩
  · exact .inl h2
  · exact .inr ⟨g, cap, cur, rfl, hg, (hf.block g (Array.getElem?_eq_some_iff.1 hh).1 (hs g rfl)).trans hh, r⟩
set_option maxRecDepth 100000 in
theorem own_lt {base : Nat} {e : TypeId} {size : Nat} {v : Value} {n : Nat} {xs : List Value} (h : w.ownsRow base e size v n xs) {k : Nat} (hk : v.ownBlock = some k) : k < w.heap.size := (h.lt k hk).2
/-- .. and over a store into another block. -/
theorem own_far {base : Nat} {e : TypeId} {size : Nat} {v : Value} {n : Nat} {xs : List Value} (h : w.ownsRow base e size v n xs) {p : Addr} (hp : v.ownBlock ≠ some p.block) (u : Value) : (w.setCell p u).ownsRow base e size v n xs :=
  own_fr (S := [p.block]) h ((Fr.refl _ w).setCell (.inl (by simp)) u) (fun k hk hm => hp (by simp at hm; rw [hk, hm]))
set_option maxRecDepth 100000 in
/-- Whatever value owns a row is a slice of that length. -/
theorem own_form {base : Nat} {e : TypeId} {size : Nat} {v : Value} {n : Nat} {xs : List Value} (h : w.ownsRow base e size v n xs) : ∃ A cap, v = .slice A n cap := by
  rcases h.2 with ⟨rfl, rfl⟩ | ⟨g, cap, cur, rfl, _⟩
  · exact ⟨none, 0, rfl⟩
  · exact ⟨_, cap, rfl⟩
set_option maxRecDepth 100000 in
/-- A block whose element type is another one is none of the row's. -/
theorem own_ne {base : Nat} {e : TypeId} {size : Nat} {v : Value} {n : Nat} {xs : List Value} (h : w.ownsRow base e size v n xs) (hb : Blk w g t cs) (hne : e ≠ t) : v.ownBlock ≠ some g := by
  rcases h.2 with ⟨rfl, _⟩ | ⟨g', cap, cur, rfl, _, hh, _⟩
  · simp [Value.ownBlock]
  · intro he
    have : g' = g := by simpa [Value.ownBlock] using he
    subst this
    unfold Blk at hb
    rw [hb] at hh
    injection hh with hh
    injection hh with _ h2
    exact hne h2.symm
end

/-- What a map counts as among the element types of blocks. -/
def mapT : TypeId := 999999
def tyOf : Obj → Option TypeId
  | .cells _ t _ => some t
  | .map _ _ => some mapT
  | _ => none
/-- Whatever block of w is of none of these element types is as it was. -/
def TFr (ts : List TypeId) (w w' : World) : Prop := ∀ (k : Nat) (o : Obj), w.heap[k]? = some o → (∀ t, tyOf o = some t → t ∉ ts) → w'.heap[k]? = some o

section
variable {w w' w'' : World} {ts ts' : List TypeId}
set_option maxRecDepth 100000 in
theorem TFr.cells (h : TFr ts w w') (k : Nat) (cs : Array Value) (t : TypeId) (fr : Nat × Nat) (hk : w.heap[k]? = some (Obj.cells cs t fr)) (ht : t ∉ ts) : w'.heap[k]? = some (Obj.cells cs t fr) :=
  h k _ hk (fun t' e => by injection e with e; exact e ▸ ht)
theorem TFr.refl (ts : List TypeId) (w : World) : TFr ts w w := fun _ _ h _ => h
set_option maxRecDepth 100000 in
theorem TFr.trans (h : TFr ts w w') (h' : TFr ts w' w'') : TFr ts w w'' := fun k o hk ht => h' k o (h k o hk ht) ht
theorem TFr.mono (h : TFr ts w w') (hs : ∀ t ∈ ts, t ∈ ts') : TFr ts' w w' := fun k o hk ht => h k o hk (fun t e m => ht t e (hs t m))
theorem TFr.of_below (hb : Below w.heap.size w w') : TFr ts w w' := fun k _ hk _ => (hb.block k (Array.getElem?_eq_some_iff.1 hk).1).trans hk
set_option maxRecDepth 100000 in
theorem TFr.of_frT {S : List Nat} (hf : Fr S w w') (hs : ∀ k ∈ S, ∃ o t, w.heap[k]? = some o ∧ tyOf o = some t ∧ t ∈ ts) : TFr ts w w' := fun k o hk ht => by
  refine (hf.block k (Array.getElem?_eq_some_iff.1 hk).1 (fun e => ?_)).trans hk
  obtain ⟨o', t', h1, h2, h3⟩ := hs k e
  rw [hk] at h1
  injection h1 with h1
  subst h1
  exact ht t' h2 h3
set_option maxRecDepth 100000 in
theorem TFr.of_fr {S : List Nat} (hf : Fr S w w') (hs : ∀ k ∈ S, ∃ cs t fr, w.heap[k]? = some (.cells cs t fr) ∧ t ∈ ts) : TFr ts w w' := .of_frT hf fun k hk => by
  obtain ⟨cs, t, fr, h1, h2⟩ := hs k hk
  exact ⟨_, t, h1, rfl, h2⟩
set_option maxRecDepth 100000 in
theorem TFr.of_grown {base : Nat} {e : TypeId} {size : Nat} {v : Value} {n : Nat} {xs : List Value} (h : w.ownsRow base e size v n xs) (hg : w.grownBy w' v.ownBlock) : TFr [e] w w' := fun k o hk ht => by
  refine (hg.block k (Array.getElem?_eq_some_iff.1 hk).1 (fun he => ?_)).trans hk
  rcases h.2 with ⟨rfl, _⟩ | ⟨g, cap, cur, rfl, _, hh, _⟩
  · simp [Value.ownBlock] at he
  · have : k = g := by simpa [Value.ownBlock] using he
    subst this
    rw [hh] at hk
    injection hk with hk
    subst hk
    exact ht e rfl (by simp)
set_option maxRecDepth 100000 in
theorem Blk.tfr {g : Nat} {t : TypeId} {cs : List Value} (h : Blk w g t cs) (hf : TFr ts w w') (ht : t ∉ ts) : Blk w' g t cs := hf.cells g _ t _ h ht
theorem own_tfr {base : Nat} {e : TypeId} {size : Nat} {v : Value} {n : Nat} {xs : List Value} (h : w.ownsRow base e size v n xs) (hf : TFr ts w w') (he : e ∉ ts) : w'.ownsRow base e size v n xs := by
  refine ⟨h.1, ?_⟩
  rcases h.2 with h2 | ⟨g, cap, cur, rfl, hg, hh, r⟩
  · exact .inl h2
  · exact .inr ⟨g, cap, cur, rfl, hg, hf.cells g _ _ _ hh he, r⟩
end
end Go.Proofs.Lig

/-
  The values of a store's cells as plain data: a node's two slices, an edge's four cells. No program in sight.
-/
namespace Go.Proofs.Lig
open Go
structure NodV where
  la : Option Addr
  ln : Nat
  lc : Nat
  pa : Option Addr
  pn : Nat
  pc : Nat
structure EdgV where
  src : Int
  dst : Int
  ty : ByteArray
  w : Nat
end Go.Proofs.Lig

/-
  Words for memory that is held by a predicate on blocks: what a call may have turned ('FrO'); a row of parts, each with blocks of its own. No program in sight.
-/
namespace Go.Proofs.Lig
open Go.RowKit

/-- In w' whatever lay in w outside O is as it was. -/
structure FrO (O : Nat → Prop) (w w' : World) : Prop where
  os : w'.os = w.os
  tape : w'.tape = w.tape
  output : w'.output = w.output
  size : w.heap.size ≤ w'.heap.size
  block : ∀ k, k < w.heap.size → ¬ O k → w'.heap[k]? = w.heap[k]?
/-- Whatever is made from w on is O's. -/
def NewO (O : Nat → Prop) (w : World) : Prop := ∀ k, w.heap.size ≤ k → O k

section
variable {w w' w'' : World} {O : Nat → Prop} {S : List Nat} {N : Nat}
set_option maxRecDepth 100000 in
theorem NewO.step (h : NewO O w) (hs : w.heap.size ≤ w'.heap.size) : NewO O w' := fun k hk => h k (by omega)
theorem NewO.ofLe (h : N ≤ w.heap.size) : NewO (N ≤ ·) w := fun k hk => by show N ≤ k; omega
theorem FrO.refl (O : Nat → Prop) (w : World) : FrO O w w := ⟨rfl, rfl, rfl, Nat.le_refl _, fun _ _ _ => rfl⟩
set_option maxRecDepth 100000 in
theorem FrO.trans (h : FrO O w w') (h' : FrO O w' w'') : FrO O w w'' :=
  ⟨h'.os.trans h.os, h'.tape.trans h.tape, h'.output.trans h.output, Nat.le_trans h.size h'.size, fun k hk hn => (h'.block k (Nat.lt_of_lt_of_le hk h.size) hn).trans (h.block k hk hn)⟩
theorem FrO.of_below (h : Below w.heap.size w w') : FrO O w w' := ⟨h.os, h.tape, h.output, h.size, fun k hk _ => h.block k hk⟩
set_option maxRecDepth 100000 in
theorem FrO.of_fr (h : Fr S w w') (hs : ∀ k ∈ S, O k) : FrO O w w' := ⟨h.os, h.tape, h.output, h.size, fun k hk hn => h.block k hk (fun e => hn (hs k e))⟩
theorem FrO.of_le (h : Below N w w') : FrO (N ≤ ·) w w' := ⟨h.os, h.tape, h.output, h.size, fun k _ hn => h.block k (Nat.lt_of_not_le hn)⟩
theorem FrO.below (h : FrO (N ≤ ·) w w') (hN : N ≤ w.heap.size) : Below N w w' := ⟨h.os, h.tape, h.output, h.size, fun k hk => h.block k (by omega) (Nat.not_le_of_lt hk)⟩
set_option maxRecDepth 100000 in
theorem FrO.drewN (h : FrO O w w') (n : Nat) : FrO O w (w'.drewN n) := ⟨h.os, h.tape, h.output, h.size, h.block⟩
theorem FrO.alloc (h : FrO O w w') (o : Obj) : FrO O w (w'.alloc o) :=
  ⟨h.os, h.tape, h.output, by have := h.size; simp; omega, fun k hk hn => (Below.heap_alloc w' o k (Nat.lt_of_lt_of_le hk h.size)).trans (h.block k hk hn)⟩
set_option maxRecDepth 100000 in
theorem FrO.setCell (h : FrO O w w') {p : Addr} (hp : O p.block) (u : Value) : FrO O w (w'.setCell p u) :=
  ⟨h.os, h.tape, h.output, by simpa using h.size, fun k hk hn => (Below.heap_setCell w' p u k (fun e => by subst e; exact hn hp)).trans (h.block k hk hn)⟩
theorem FrO.grown {row : Option Nat} (h : FrO O w w') (hg : w'.grownBy w'' row) (hr : ∀ k, row = some k → O k) : FrO O w w'' :=
  ⟨hg.os.trans h.os, hg.tape.trans h.tape, hg.output.trans h.output, Nat.le_trans h.size hg.size, fun k hk hn =>
    (hg.block k (Nat.lt_of_lt_of_le hk h.size) (fun e => hn (hr k e.symm))).trans (h.block k hk hn)⟩
set_option maxRecDepth 100000 in
theorem FrO.mono {O' : Nat → Prop} (h : FrO O w w') (hs : ∀ k, O k → O' k) : FrO O' w w' := ⟨h.os, h.tape, h.output, h.size, fun k hk hn => h.block k hk (fun e => hn (hs k e))⟩
theorem FrO.step (h : FrO O w w') (hb : Below w'.heap.size w' w'') : FrO O w w'' := h.trans (.of_below hb)
theorem FrO.new (h : FrO O w w') (hn : NewO O w) : NewO O w' := hn.step h.size
set_option maxRecDepth 100000 in
theorem Fr.step (h : Fr S w w') (hb : Below w'.heap.size w' w'') : Fr S w w'' := h.trans_same (Fr.of_below hb (Nat.le_refl _))
theorem Fr.ahead (hb : Below w.heap.size w w') (h : Fr S w' w'') : Fr S w w'' := (Fr.of_below hb (Nat.le_refl _)).trans_same h
theorem bstep {N : Nat} (h : Below N w w') (hN : N ≤ w.heap.size) (h' : Below w'.heap.size w' w'') : Below N w w'' := h.trans (h'.mono (Nat.le_trans hN h.size))
set_option maxRecDepth 100000 in
theorem bstep0 (h : Below w.heap.size w w') (h' : Below w'.heap.size w' w'') : Below w.heap.size w w'' := bstep h (Nat.le_refl _) h'
theorem below_drew (w : World) : Below w.heap.size w w.drew := bdrewN (Below.refl _ _) 1
theorem below_drewN' (w : World) (n : Nat) : Below w.heap.size w (w.drewN n) := bdrewN (Below.refl _ _) n
set_option maxRecDepth 100000 in
theorem below_alloc (w : World) (o : Obj) : Below w.heap.size w (w.alloc o) := (Below.refl _ _).alloc (Nat.le_refl _) o
end

/-- What a kind of part keeps. -/
structure PartLaw {α : Type} (C : World → Nat → List Nat → α → Prop) (ct : List TypeId) : Prop where
  fr : ∀ {w w' : World} {X : Nat} {S S' : List Nat} {v : α}, C w X S v → Fr S' w w' → (∀ k ∈ S, k ∉ S') → C w' X S v
  lt : ∀ {w : World} {X : Nat} {S : List Nat} {v : α}, C w X S v → ∀ k ∈ S, k < w.heap.size
  tfr : ∀ {w w' : World} {X : Nat} {S : List Nat} {v : α} {ts : List TypeId}, C w X S v → TFr ts w w' → (∀ t ∈ ct, t ∉ ts) → C w' X S v
/-- Parts, each in blocks of its own, which are O's. -/
structure Parts {α : Type} (C : World → Nat → List Nat → α → Prop) (O : Nat → Prop) (w : World) (Xs : List Nat) (vs : List α) (L : List (Nat × List Nat × α)) : Prop where
  xs : L.map (·.1) = Xs
  vs : L.map (·.2.2) = vs
  all : ∀ x ∈ L, C w x.1 x.2.1 x.2.2 ∧ ∀ k ∈ x.2.1, O k
  apart : L.Pairwise fun x y => ∀ k ∈ x.2.1, k ∉ y.2.1
def PartsIn {α : Type} (C : World → Nat → List Nat → α → Prop) (O : Nat → Prop) (w : World) (Xs : List Nat) (vs : List α) : Prop := ∃ L, Parts C O w Xs vs L

section
variable {α : Type} {C : World → Nat → List Nat → α → Prop} {ct : List TypeId} {O : Nat → Prop} {w w' : World} {Xs : List Nat} {vs : List α}
set_option maxRecDepth 100000 in
theorem PartsIn.nil : PartsIn C O w [] [] := ⟨[], rfl, rfl, by simp, List.Pairwise.nil⟩
theorem PartsIn.len (h : PartsIn C O w Xs vs) : Xs.length = vs.length := by
  obtain ⟨L, rfl, rfl, _, _⟩ := h
  simp
set_option maxRecDepth 100000 in
theorem PartsIn.tfr (hC : PartLaw C ct) {ts : List TypeId} (h : PartsIn C O w Xs vs) (hf : TFr ts w w') (hd : ∀ t ∈ ct, t ∉ ts) : PartsIn C O w' Xs vs := by
  obtain ⟨L, h1, h2, h3, h4⟩ := h
  exact ⟨L, h1, h2, fun x hx => ⟨hC.tfr (h3 x hx).1 hf hd, (h3 x hx).2⟩, h4⟩
set_option maxRecDepth 100000 in
theorem PartsIn.below (hC : PartLaw C ct) (h : PartsIn C O w Xs vs) (hb : Below w.heap.size w w') : PartsIn C O w' Xs vs := h.tfr hC (ts := []) (.of_below hb) (by simp)
/-- The i-th part; and the parts when it has turned. -/
theorem PartsIn.get (hC : PartLaw C ct) (h : PartsIn C O w Xs vs) {i : Nat} {v : α} (hv : vs[i]? = some v) : ∃ X S, Xs[i]? = some X ∧ C w X S v ∧ (∀ k ∈ S, O k) ∧
    ∀ {w' : World} {S' : List Nat} {v' : α}, C w' X S' v' → Sub S' S w.heap.size → Fr S w w' → NewO O w → PartsIn C O w' Xs (vs.set i v') := by
  obtain ⟨L, h1, h2, h3, h4⟩ := h
  rw [← h2, List.getElem?_map] at hv
  obtain ⟨⟨X, S, v0⟩, hL, hv⟩ := Option.map_eq_some_iff.1 hv
  have hv : v0 = v := hv
  subst hv
  have hi := (List.getElem?_eq_some_iff.1 hL).1
  have hm := List.mem_of_getElem? hL
  refine ⟨X, S, by rw [← h1, List.getElem?_map, hL]; rfl, (h3 _ hm).1, (h3 _ hm).2, ?_⟩
  intro w' S' v' hc hs hf hn
  rw [List.pairwise_iff_getElem] at h4
  have key : ∀ j (hj : j < L.length), j ≠ i → ∀ k ∈ (L[j]).2.1, k ∉ S := fun j hj hne k hk => by
    have hLi : L[i] = (X, S, v0) := by
      have := List.getElem?_eq_getElem hi
      rw [hL] at this
      injection this with this
      exact this.symm
    rcases Nat.lt_or_gt_of_ne hne with hlt | hgt
    · have := h4 j i hj hi hlt k hk
      rwa [hLi] at this
    · intro hkS
      have := h4 i j hi hj hgt k (by rw [hLi]; exact hkS)
      exact this hk
  have keylt : ∀ j (hj : j < L.length), ∀ k ∈ (L[j]).2.1, k < w.heap.size := fun j hj k hk => hC.lt (h3 _ (List.getElem_mem hj)).1 k hk
  refine ⟨L.set i (X, S', v'), ?_, ?_, ?_, ?_⟩
  · rw [List.map_set, h1]
    apply List.ext_getElem?
    intro j
    rw [List.getElem?_set]
    split
    · rename_i e
      subst e
      rw [← h1, List.length_map, if_pos hi, List.getElem?_map, hL]
      rfl
    · rfl
  · rw [List.map_set, h2]
  · intro x hx
    rw [List.mem_iff_getElem] at hx
    obtain ⟨j, hj, rfl⟩ := hx
    rw [List.length_set] at hj
    by_cases hji : i = j
    · subst hji
      rw [List.getElem_set_self]
      exact ⟨hc, fun k hk => by rcases hs k hk with h1 | h1; exact (h3 _ hm).2 k h1; exact hn k h1⟩
    · rw [List.getElem_set_ne hji]
      exact ⟨hC.fr (h3 _ (List.getElem_mem hj)).1 hf (key j hj (Ne.symm hji)), (h3 _ (List.getElem_mem hj)).2⟩
  · rw [List.pairwise_iff_getElem]
    intro a b ha hb hab
    rw [List.length_set] at ha hb
    rw [List.getElem_set, List.getElem_set]
    by_cases hai : i = a
    · subst hai
      rw [if_pos rfl, if_neg (by omega)]
      intro k hk hk2
      rcases hs k hk with h5 | h5
      · exact key b hb (by omega) k hk2 h5
      · exact absurd (keylt b hb k hk2) (by omega)
    · rw [if_neg hai]
      by_cases hbi : i = b
      · subst hbi
        rw [if_pos rfl]
        intro k hk hk2
        rcases hs k hk2 with h5 | h5
        · exact key a ha (by omega) k hk h5
        · exact absurd (keylt a ha k hk) (by omega)
      · rw [if_neg hbi]
        exact h4 a b ha hb hab
set_option maxRecDepth 100000 in
/-- One more part. -/
theorem PartsIn.push (hC : PartLaw C ct) (h : PartsIn C O w Xs vs) (hb : Below w.heap.size w w') {X : Nat} {S : List Nat} {v : α} (hc : C w' X S v) (hs : ∀ k ∈ S, w.heap.size ≤ k) (hn : NewO O w) : PartsIn C O w' (Xs ++ [X]) (vs ++ [v]) := by
  obtain ⟨L, h1, h2, h3, h4⟩ := h
  refine ⟨L ++ [(X, S, v)], by simp [h1], by simp [h2], ?_, ?_⟩
  · intro x hx
    rcases List.mem_append.1 hx with hx | hx
    · exact ⟨hC.tfr (ts := []) (h3 x hx).1 (.of_below hb) (by simp), (h3 x hx).2⟩
    · obtain rfl : x = (X, S, v) := by simpa using hx
      exact ⟨hc, fun k hk => hn k (hs k hk)⟩
  · rw [List.pairwise_append]
    refine ⟨h4, by simp, ?_⟩
    intro a ha b hb' k hk
    obtain rfl : b = (X, S, v) := by simpa using hb'
    intro hk2
    have h5 := hC.lt (h3 a ha).1 k hk
    have h6 := hs k hk2
    omega
end
end Go.Proofs.Lig
